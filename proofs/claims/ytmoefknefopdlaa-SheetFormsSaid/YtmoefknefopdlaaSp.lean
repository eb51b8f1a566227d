import Derived.Test.YtmoefknefopdlaaG5
import Derived.Test.YtmoefknefopdlaaSt
set_option linter.unusedVariables false
set_option linter.unusedSimpArgs false
/-! Sheets as plain lists: laid, may, parsed. -/
namespace Go.Proofs.Ytmoefknefopdlaa.Sp
open Go.RowKit Go.Proofs.YtmoefknefopdlaaW.PrintWords Go.Proofs.YtmoefknefopdlaaW.PrintLast Go.Proofs.YtmoefknefopdlaaW.PrintMore Go.Proofs.Ytmoefknefopdlaa.PAll Go.Proofs.Ytmoefknefopdlaa.Pl1 Go.Proofs.Ytmoefknefopdlaa.Pl2 Go.Proofs.Ytmoefknefopdlaa.St

def laidL (p q : Int) (d : List Int) : List Int := code (clamp p) ++ code (clamp q) ++ code d.length ++ d ++ [90]
def mayB (p q : Int) (d : List Int) : Bool := decide (0 ≤ p) && (decide (p ≤ 60) && (decide (1 ≤ q) && (decide (q ≤ 1099511627776) && (decide (d.length ≤ 2000) && decide ((laidL p q d).length ≤ 2000)))))
theorem mayB_iff {p q : Int} {d : List Int} : mayB p q d = true ↔ 0 ≤ p ∧ p ≤ 60 ∧ 1 ≤ q ∧ q ≤ 1099511627776 ∧ d.length ≤ 2000 ∧ (laidL p q d).length ≤ 2000 := by
  unfold mayB; simp only [Bool.and_eq_true, decide_eq_true_eq]

theorem laid_ev (p q : Int) (d : List Int) (hd : d.length ≤ 3000) : Ev (fun k => sheet_laid.f k p q d) (laidL p q d) := by
  have c1 := code_len (clamp p) (clamp_le p)
  have c2 := code_len (clamp q) (clamp_le q)
  have c3 := code_len d.length (by omega)
  refine Ev.congr (fun k => by unfold sheet_laid.f; rfl) (Ev.bind (number_ev [] (by simp) p) ?_)
  refine Ev.bind (number_ev _ (by simp; omega) q) ?_
  refine Ev.bind (text_ev _ d (by simp; omega) (by omega)) ?_
  refine Ev.congr (fun k => ?_) (Ev.now _)
  simp only [Option.bind_some, List.nil_append]
  rw [if_pos (by simp; omega)]
  rfl
theorem refLaid_ev (p q : Int) (d : List Int) (hd : d.length ≤ 3000) : Ev (fun k => potsherdref3_sheetBytes.f k p q d) (laidL p q d) := by
  have c1 := code_len (clamp p) (clamp_le p)
  have c2 := code_len (clamp q) (clamp_le q)
  have c3 := code_len d.length (by omega)
  refine Ev.congr (fun k => by unfold potsherdref3_sheetBytes.f; rfl) (Ev.bind (put_ev [] (by simp) p) ?_)
  refine Ev.bind (put_ev _ (by simp; omega) q) ?_
  refine Ev.bind (putText_ev _ d (by simp; omega) (by omega)) ?_
  refine Ev.congr (fun k => ?_) (Ev.now _)
  simp only [Option.bind_some, List.nil_append]
  rw [if_pos (by simp; omega)]
  rfl
theorem may_ev (p q : Int) (d : List Int) : Ev (fun k => sheet_May.f k p q d) (mayB p q d) := by
  unfold mayB
  by_cases h1 : 0 ≤ p
  · by_cases h2 : p ≤ 60
    · by_cases h3 : 1 ≤ q
      · by_cases h4 : q ≤ 1099511627776
        · by_cases h5 : d.length ≤ 2000
          · refine Ev.congr (fun k => by unfold sheet_May.f; rw [if_pos h1, if_pos h2, if_pos h3, if_pos h4, if_pos (by omega)]) (Ev.bind (laid_ev p q d (by omega)) ?_)
            refine Ev.congr (fun k => ?_) (Ev.now _)
            simp only [h1, h2, h3, h4, h5, decide_true, Bool.true_and, Option.some.injEq, decide_eq_decide]
            omega
          · refine Ev.congr (fun k => ?_) (Ev.now _)
            unfold sheet_May.f
            rw [if_pos h1, if_pos h2, if_pos h3, if_pos h4, if_neg (by omega)]
            simp [h5]
        · refine Ev.congr (fun k => ?_) (Ev.now _)
          unfold sheet_May.f
          rw [if_pos h1, if_pos h2, if_pos h3, if_neg h4]
          simp [h4]
      · refine Ev.congr (fun k => ?_) (Ev.now _)
        unfold sheet_May.f
        rw [if_pos h1, if_pos h2, if_neg h3]
        simp [h3]
    · refine Ev.congr (fun k => ?_) (Ev.now _)
      unfold sheet_May.f
      rw [if_pos h1, if_neg h2]
      simp [h2]
  · refine Ev.congr (fun k => ?_) (Ev.now _)
    unfold sheet_May.f
    rw [if_neg h1]
    simp [h1]
theorem refMay_ev (p q : Int) (d : List Int) : Ev (fun k => potsherdref3_MaySheet.f k p q d) (mayB p q d) := by
  unfold mayB
  by_cases h1 : 0 ≤ p
  · by_cases h2 : p ≤ 60
    · by_cases h3 : 1 ≤ q
      · by_cases h4 : q ≤ 1099511627776
        · by_cases h5 : d.length ≤ 2000
          · refine Ev.congr (fun k => by unfold potsherdref3_MaySheet.f; rw [if_pos h1, if_pos h2, if_pos h3, if_pos h4, if_pos (by omega)]) (Ev.bind (refLaid_ev p q d (by omega)) ?_)
            refine Ev.congr (fun k => ?_) (Ev.now _)
            simp only [h1, h2, h3, h4, h5, decide_true, Bool.true_and, Option.some.injEq, decide_eq_decide]
            omega
          · refine Ev.congr (fun k => ?_) (Ev.now _)
            unfold potsherdref3_MaySheet.f
            rw [if_pos h1, if_pos h2, if_pos h3, if_pos h4, if_neg (by omega)]
            simp [h5]
        · refine Ev.congr (fun k => ?_) (Ev.now _)
          unfold potsherdref3_MaySheet.f
          rw [if_pos h1, if_pos h2, if_pos h3, if_neg h4]
          simp [h4]
      · refine Ev.congr (fun k => ?_) (Ev.now _)
        unfold potsherdref3_MaySheet.f
        rw [if_pos h1, if_pos h2, if_neg h3]
        simp [h3]
    · refine Ev.congr (fun k => ?_) (Ev.now _)
      unfold potsherdref3_MaySheet.f
      rw [if_pos h1, if_neg h2]
      simp [h2]
  · refine Ev.congr (fun k => ?_) (Ev.now _)
    unfold potsherdref3_MaySheet.f
    rw [if_neg h1]
    simp [h1]
def bytesL (p q : Int) (d : List Int) : List Int × Int := if mayB p q d = true then (laidL p q d, 0) else ([], 1)
theorem bytes_ev (p q : Int) (d : List Int) : Ev (fun k => sheet_Bytes.f k p q d) (bytesL p q d) := by
  refine Ev.congr (fun k => by unfold sheet_Bytes.f; rfl) (Ev.bind (may_ev p q d) ?_)
  unfold bytesL
  by_cases h : mayB p q d = true
  · rw [if_pos h]
    refine Ev.congr (fun k => by rw [if_pos h]) (Ev.bind (laid_ev p q d (by have := (mayB_iff.1 h).2.2.2.2.1; omega)) (Ev.now _))
  · rw [if_neg h]
    exact Ev.congr (fun k => by rw [if_neg h]) (Ev.now _)
theorem refBytes_ev (p q : Int) (d : List Int) : Ev (fun k => potsherdref3_SheetBytes.f k p q d) (bytesL p q d) := by
  refine Ev.congr (fun k => by unfold potsherdref3_SheetBytes.f; rfl) (Ev.bind (refMay_ev p q d) ?_)
  unfold bytesL
  by_cases h : mayB p q d = true
  · rw [if_pos h]
    refine Ev.congr (fun k => by rw [if_pos h]) (Ev.bind (refLaid_ev p q d (by have := (mayB_iff.1 h).2.2.2.2.1; omega)) (Ev.now _))
  · rw [if_neg h]
    exact Ev.congr (fun k => by rw [if_neg h]) (Ev.now _)

/-! ### read back -/
/-- page, seq, data, what is left, the error. -/
def parse3 (b : List Int) : Int × Int × List Int × List Int × Int :=
  ((numStep b 0 60).1, (numStep (numStep b 0 60).2.1 (numStep b 0 60).2.2 1099511627776).1,
    (textStep (numStep (numStep b 0 60).2.1 (numStep b 0 60).2.2 1099511627776).2.1 (numStep (numStep b 0 60).2.1 (numStep b 0 60).2.2 1099511627776).2.2 2000))
def parseL (b : List Int) : Int × Int × List Int × Int :=
  if (parse3 b).2.2.2.2 = 0 ∧ (parse3 b).2.2.2.1 = [90] ∧ mayB (parse3 b).1 (parse3 b).2.1 (parse3 b).2.2.1 = true then ((parse3 b).1, (parse3 b).2.1, (parse3 b).2.2.1, 0) else (0, 0, [], 5)
theorem num_code (most x : Nat) (hm : most ≤ 1099511627776) (h : x ≤ most) (D : List Int) : numStep (code x ++ D) 0 most = ((x : Int), D, 0) := by
  unfold numStep
  rw [if_pos rfl, rdNum_code x (by omega) D]
  simp only
  rw [if_neg (by omega), List.drop_left]
theorem text_code (t D : List Int) (h : t.length ≤ 2000) : textStep (code t.length ++ t ++ D) 0 2000 = (t, D, 0) := by
  unfold textStep
  rw [if_pos rfl, List.append_assoc, rdNum_code t.length (by omega) (t ++ D)]
  simp only
  rw [if_neg (by rw [List.length_append, List.length_append]; omega)]
  have e : ((((code t.length).length : Nat) : Int) + ((t.length : Nat) : Int)).toNat = (code t.length).length + t.length := by omega
  rw [e, ← List.append_assoc, show (code t.length).length + t.length = (code t.length ++ t).length by rw [List.length_append], List.take_left, List.drop_left, List.drop_left]
theorem clamp_id {n : Int} (h0 : 0 ≤ n) (h1 : n ≤ 1099511627776) : ((clamp n : Nat) : Int) = n := by
  have := clamp_of n.toNat (by omega)
  rw [Int.toNat_of_nonneg h0] at this
  omega
/-- Whatever stands behind it. -/
theorem parse3_code (p q : Int) (d rest : List Int) (h1 : 0 ≤ p) (h2 : p ≤ 60) (h3 : 1 ≤ q) (h4 : q ≤ 1099511627776) (h5 : d.length ≤ 2000) : parse3 (code (clamp p) ++ code (clamp q) ++ code d.length ++ d ++ rest) = (p, q, d, rest, 0) := by
  have e1 := clamp_id h1 (by omega)
  have e2 := clamp_id (show 0 ≤ q by omega) h4
  have n1 : numStep (code (clamp p) ++ code (clamp q) ++ code d.length ++ d ++ rest) 0 60 = (p, code (clamp q) ++ (code d.length ++ d ++ rest), 0) := by
    have := num_code 60 (clamp p) (by omega) (by omega) (code (clamp q) ++ (code d.length ++ d ++ rest))
    rw [e1] at this
    rw [← this]
    simp only [List.append_assoc]
    rfl
  have n2 := num_code 1099511627776 (clamp q) (by omega) (by omega) (code d.length ++ d ++ rest)
  rw [e2] at n2
  unfold parse3
  rw [n1]
  simp only
  rw [show (1099511627776 : Int) = ((1099511627776 : Nat) : Int) from rfl, n2]
  simp only
  rw [text_code d rest h5]
theorem parse_laid {p q : Int} {d : List Int} (h : mayB p q d = true) : parseL (laidL p q d) = (p, q, d, 0) := by
  obtain ⟨h1, h2, h3, h4, h5, _⟩ := mayB_iff.1 h
  have := parse3_code p q d [90] h1 h2 h3 h4 h5
  unfold parseL laidL
  rw [this]
  simp [h]
theorem numStep_inv {b : List Int} (hb : Bytes b) {e most v : Int} {l : List Int} (h : numStep b e most = (v, l, 0)) : e = 0 ∧ ∃ n : Nat, v = n ∧ (n : Int) ≤ most ∧ b = code n ++ l := by
  unfold numStep at h
  by_cases he : e = 0
  · rw [if_pos he] at h
    refine ⟨he, ?_⟩
    cases hr : rdNum b with
    | none => rw [hr] at h; simp at h
    | some x =>
      obtain ⟨v', s⟩ := x
      rw [hr] at h
      simp only at h
      by_cases hm : v' > most
      · rw [if_pos hm] at h; simp at h
      · rw [if_neg hm] at h
        obtain ⟨n, rfl, hc, hs, _, _⟩ := rdNum_inv hb hr
        simp only [Prod.mk.injEq] at h
        obtain ⟨rfl, rfl, _⟩ := h
        exact ⟨n, rfl, by omega, by rw [hc]; exact (List.take_append_drop s b).symm⟩
  · rw [if_neg he] at h
    simp only [Prod.mk.injEq] at h
    exact absurd h.2.2 he
theorem textStep_inv {b : List Int} (hb : Bytes b) {e most : Int} {d l : List Int} (h : textStep b e most = (d, l, 0)) : e = 0 ∧ (d.length : Int) ≤ most ∧ b = code d.length ++ d ++ l := by
  unfold textStep at h
  by_cases he : e = 0
  · rw [if_pos he] at h
    refine ⟨he, ?_⟩
    cases hr : rdNum b with
    | none => rw [hr] at h; simp at h
    | some x =>
      obtain ⟨v', s⟩ := x
      rw [hr] at h
      simp only at h
      by_cases hm : v' > most ∨ v' > (b.length : Int) - s
      · rw [if_pos hm] at h; simp at h
      · rw [if_neg hm] at h
        obtain ⟨n, rfl, hc, hs, hle, _⟩ := rdNum_inv hb hr
        simp only [Prod.mk.injEq] at h
        obtain ⟨rfl, rfl, _⟩ := h
        have e1 : ((s : Int) + (n : Int)).toNat = s + n := by omega
        rw [e1]
        have hl : ((b.take (s + n)).drop s).length = n := by rw [List.length_drop, List.length_take]; omega
        rw [hl]
        refine ⟨by omega, ?_⟩
        rw [hc, List.append_assoc]
        have e2 : b.take s ++ (b.take (s + n)).drop s = b.take (s + n) := by
          have h1 := List.take_append_drop s (b.take (s + n))
          rw [List.take_take, Nat.min_eq_left (by omega)] at h1
          exact h1
        rw [← List.append_assoc, e2, List.take_append_drop]
  · rw [if_neg he] at h
    simp only [Prod.mk.injEq] at h
    exact absurd h.2.2 he
theorem numStep_bytes {b : List Int} (hb : Bytes b) {e most v e' : Int} {l : List Int} (h : numStep b e most = (v, l, e')) : Bytes l := by
  unfold numStep at h
  split at h
  · split at h
    · simp only [Prod.mk.injEq] at h; rw [← h.2.1]; exact hb
    · split at h
      · simp only [Prod.mk.injEq] at h; rw [← h.2.1]; exact hb
      · simp only [Prod.mk.injEq] at h; rw [← h.2.1]; exact hb.drop _
  · simp only [Prod.mk.injEq] at h; rw [← h.2.1]; exact hb
theorem parse3_inv {b : List Int} (hb : Bytes b) {p q : Int} {d l : List Int} (h : parse3 b = (p, q, d, l, 0)) : 0 ≤ p ∧ p ≤ 60 ∧ 0 ≤ q ∧ q ≤ 1099511627776 ∧ d.length ≤ 2000 ∧ b = code (clamp p) ++ code (clamp q) ++ code d.length ++ d ++ l := by
  unfold parse3 at h
  obtain ⟨v1, l1, e1, h1⟩ : ∃ v1 l1 e1, numStep b 0 60 = (v1, l1, e1) := ⟨_, _, _, rfl⟩
  rw [h1] at h
  simp only at h
  obtain ⟨v2, l2, e2, h2⟩ : ∃ v2 l2 e2, numStep l1 e1 1099511627776 = (v2, l2, e2) := ⟨_, _, _, rfl⟩
  rw [h2] at h
  simp only at h
  obtain ⟨v3, l3, e3, h3⟩ : ∃ v3 l3 e3, textStep l2 e2 2000 = (v3, l3, e3) := ⟨_, _, _, rfl⟩
  rw [h3] at h
  simp only [Prod.mk.injEq] at h
  obtain ⟨rfl, rfl, rfl, rfl, rfl⟩ := h
  have b1 := numStep_bytes hb h1
  have b2 := numStep_bytes b1 h2
  obtain ⟨rfl, k3, k4⟩ := textStep_inv b2 h3
  obtain ⟨rfl, n2, rfl, k5, k6⟩ := numStep_inv b1 h2
  obtain ⟨_, n1, rfl, k7, k8⟩ := numStep_inv hb h1
  rw [clamp_of n1 (by omega), clamp_of n2 (by omega)]
  refine ⟨by omega, by omega, by omega, by omega, by omega, ?_⟩
  rw [k8, k6, k4]
  simp only [List.append_assoc]
theorem parse_inv {b : List Int} (hb : Bytes b) : parseL b = (0, 0, [], 5) ∨ ∃ p q d, parseL b = (p, q, d, 0) ∧ mayB p q d = true ∧ b = laidL p q d := by
  obtain ⟨p, q, d, l, e, h⟩ : ∃ p q d l e, parse3 b = (p, q, d, l, e) := ⟨_, _, _, _, _, rfl⟩
  unfold parseL
  rw [h]
  simp only
  by_cases hc : e = 0 ∧ l = [90] ∧ mayB p q d = true
  · rw [if_pos hc]
    obtain ⟨rfl, rfl, hm⟩ := hc
    exact .inr ⟨p, q, d, rfl, hm, (parse3_inv hb h).2.2.2.2.2⟩
  · rw [if_neg hc]
    exact .inl rfl
theorem laid_inj {p q p' q' : Int} {d d' : List Int} (h : mayB p q d = true) (h' : mayB p' q' d' = true) (e : laidL p q d = laidL p' q' d') : p = p' ∧ q = q' ∧ d = d' := by
  have h1 := parse_laid h
  rw [e, parse_laid h'] at h1
  simp only [Prod.mk.injEq] at h1
  exact ⟨h1.1.symm, h1.2.1.symm, h1.2.2.1.symm⟩
/-- A beginning is none. -/
theorem parse_take {p q : Int} {d : List Int} (hd : Bytes d) (hb : Bytes (laidL p q d)) (h : mayB p q d = true) {k : Nat} (hk : k < (laidL p q d).length) : parseL ((laidL p q d).take k) = (0, 0, [], 5) := by
  rcases parse_inv (hb.take k) with h1 | ⟨p', q', d', _, h2, h3⟩
  · exact h1
  · exfalso
    obtain ⟨a1, a2, a3, a4, a5, _⟩ := mayB_iff.1 h
    obtain ⟨b1, b2, b3, b4, b5, _⟩ := mayB_iff.1 h2
    have e1 := parse3_code p q d [90] a1 a2 a3 a4 a5
    have e2 : laidL p q d = code (clamp p') ++ code (clamp q') ++ code d'.length ++ d' ++ ([90] ++ (laidL p q d).drop k) := by
      have := List.take_append_drop k (laidL p q d)
      rw [h3] at this
      refine this.symm.trans ?_
      generalize (laidL p q d).drop k = X
      unfold laidL
      simp only [List.append_assoc]
    have e3 := parse3_code p' q' d' ([90] ++ (laidL p q d).drop k) b1 b2 b3 b4 b5
    rw [← e2] at e3
    unfold laidL at e3
    rw [e1] at e3
    simp only [Prod.mk.injEq] at e3
    have e4 := congrArg List.length e3.2.2.2.1
    have e5 : (laidL p q d).length - k = 0 := by
      rw [List.length_append, List.length_drop] at e4
      unfold laidL
      simp only [List.length_singleton] at e4
      omega
    omega
/-- What has another end is none. -/
theorem parse_end {p q : Int} {d : List Int} (h : mayB p q d = true) {R : List Int} (hR : R ≠ [90]) : parseL (code (clamp p) ++ code (clamp q) ++ code d.length ++ d ++ R) = (0, 0, [], 5) := by
  obtain ⟨a1, a2, a3, a4, a5, _⟩ := mayB_iff.1 h
  have e1 := parse3_code p q d R a1 a2 a3 a4 a5
  unfold parseL
  rw [e1]
  simp only
  rw [if_neg (fun hc => hR hc.2.1)]
end Go.Proofs.Ytmoefknefopdlaa.Sp
