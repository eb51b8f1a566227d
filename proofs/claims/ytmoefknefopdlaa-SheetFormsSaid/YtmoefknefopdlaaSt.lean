import Derived.Test.YtmoefknefopdlaaRef
import Derived.Test.YtmoefknefopdlaaPl2
set_option linter.unusedVariables false
set_option linter.unusedSimpArgs false
/-! What a reader does, for both readers alike. -/
namespace Go.Proofs.Ytmoefknefopdlaa.St
open Go.RowKit Go.Proofs.YtmoefknefopdlaaW.PrintWords Go.Proofs.YtmoefknefopdlaaW.PrintLast Go.Proofs.YtmoefknefopdlaaW.PrintMore Go.Proofs.Ytmoefknefopdlaa.PAll Go.Proofs.Ytmoefknefopdlaa.Rdr Go.Proofs.Ytmoefknefopdlaa.Pl1 Go.Proofs.Ytmoefknefopdlaa.Pl2

def numStep (l : List Int) (e most : Int) : Int × List Int × Int :=
  if e = 0 then (match rdNum l with | none => (0, l, 5) | some (n, s) => if n > most then (0, l, 5) else (n, l.drop s, 0)) else (0, l, e)
def textStep (l : List Int) (e most : Int) : List Int × List Int × Int :=
  if e = 0 then (match rdNum l with | none => ([], l, 5) | some (n, s) => if n > most ∨ n > (l.length : Int) - s then ([], l, 5) else ((l.take (s + n).toNat).drop s, l.drop (s + n).toNat, 0)) else ([], l, e)
def Fine (l : List Int) : Prop := Bytes l ∧ l.length ≤ 1000000
theorem Fine.drop {l : List Int} (h : Fine l) (n : Nat) : Fine (l.drop n) := ⟨h.1.drop n, by rw [List.length_drop]; have := h.2; omega⟩
theorem numStep_fine {l : List Int} (h : Fine l) (e most : Int) : Fine (numStep l e most).2.1 := by
  unfold numStep
  split
  · split
    · exact h
    · split
      · exact h
      · exact h.drop _
  · exact h
theorem textStep_fine {l : List Int} (h : Fine l) (e most : Int) : Fine (textStep l e most).2.1 := by
  unfold textStep
  split
  · split
    · exact h
    · split
      · exact h
      · exact h.drop _
  · exact h
theorem own_number (u w : World) (g : Nat) (l : List Int) (e most : Int) (hI : IsRd 57 u w g l e) (hB : Below u.heap.size u w) (hf : Fine l) :
    Calls Try.prog 25 #[.pointer (some ⟨g, 0, none⟩), .int .i64 most] w fun ev w' => ev = .returned (.int .i64 (numStep l e most).1) ∧ IsRd 57 u w' g (numStep l e most).2.1 (numStep l e most).2.2 ∧ Below u.heap.size u w' ∧ KeepBut w w' g none := by
  unfold numStep
  by_cases he : e = 0
  · subst he
    rw [if_pos rfl]
    obtain ⟨k, hk⟩ := (own_ev l hf.2 hf.1 most).rounds
    have hs := own_size hf.1 most
    cases hr : rdNum l with
    | none =>
      rw [hr] at hk hs
      exact (Rdr.number k u w g l most 0 0 hI hB hk (by omega) (by omega))
    | some p =>
      obtain ⟨n, s⟩ := p
      rw [hr] at hk hs
      obtain ⟨n', rfl, _, _, h1, h2⟩ := rdNum_inv hf.1 hr
      simp only [own] at hk hs
      by_cases hm : (n' : Int) > most
      · rw [if_pos hm] at hk
        simp only [if_pos hm]
        exact (Rdr.number k u w g l most 0 0 hI hB hk (by omega) (by omega))
      · rw [if_neg hm] at hk
        simp only [if_neg hm]
        refine (Rdr.number k u w g l most n' s hI hB hk (by omega) (by omega)).mono ?_
        rintro ev w' ⟨rfl, hI', r⟩
        rw [if_neg (by omega)] at hI'
        exact ⟨rfl, hI', r⟩
  · rw [if_neg he]
    exact Rdr.numberOff u w g l e most hI hB he
theorem ref_number (u w : World) (g : Nat) (l : List Int) (e most : Int) (hI : IsRd 52 u w g l e) (hB : Below u.heap.size u w) (hf : Fine l) :
    Calls Try.prog 29 #[.pointer (some ⟨g, 0, none⟩), .int .i64 most] w fun ev w' => ev = .returned (.int .i64 (numStep l e most).1) ∧ IsRd 52 u w' g (numStep l e most).2.1 (numStep l e most).2.2 ∧ Below u.heap.size u w' ∧ KeepBut w w' g none := by
  unfold numStep
  by_cases he : e = 0
  · subst he
    rw [if_pos rfl]
    obtain ⟨k, hk⟩ := (ref_ev l hf.2 hf.1 most 0).rounds
    cases hr : rdNum l with
    | none =>
      rw [hr] at hk
      exact (Ref.numberBad k u w g l most 0 0 hI hB hk)
    | some p =>
      obtain ⟨n, s⟩ := p
      rw [hr] at hk
      obtain ⟨n', rfl, _, _, h1, h2⟩ := rdNum_inv hf.1 hr
      simp only [refOf] at hk
      by_cases hm : (n' : Int) > most
      · rw [decide_eq_false (by omega)] at hk
        simp only [if_pos hm]
        exact (Ref.numberBad k u w g l most _ _ hI hB hk)
      · rw [decide_eq_true (by omega)] at hk
        simp only [if_neg hm]
        exact (Ref.number k u w g l most n' s hI hB hk (by omega) (by omega))
  · rw [if_neg he]
    exact Ref.numberOff u w g l e most hI hB he
theorem own_text (u w : World) (g : Nat) (l : List Int) (e most : Int) (hI : IsRd 57 u w g l e) (hB : Below u.heap.size u w) (hf : Fine l) :
    Calls Try.prog 26 #[.pointer (some ⟨g, 0, none⟩), .int .i64 most] w fun ev w' => ∃ v : Value, ev = .returned v ∧ Kd.R (Kd.int .u8) 5 w' u.heap.size (fun k_ => w.heap.size ≤ k_) v (textStep l e most).1 ∧ IsRd 57 u w' g (textStep l e most).2.1 (textStep l e most).2.2 ∧ Below u.heap.size u w' ∧ KeepBut w w' g none := by
  have nil : ∀ {l' : List Int} {e' : Int}, Calls Try.prog 26 #[.pointer (some ⟨g, 0, none⟩), .int .i64 most] w (fun ev w' => ev = .returned (.slice none 0 0) ∧ IsRd 57 u w' g l' e' ∧ Below u.heap.size u w' ∧ KeepBut w w' g none) →
      Calls Try.prog 26 #[.pointer (some ⟨g, 0, none⟩), .int .i64 most] w (fun ev w' => ∃ v : Value, ev = .returned v ∧ Kd.R (Kd.int .u8) 5 w' u.heap.size (fun k_ => w.heap.size ≤ k_) v [] ∧ IsRd 57 u w' g l' e' ∧ Below u.heap.size u w' ∧ KeepBut w w' g none) := fun h => by
    refine h.mono ?_
    rintro ev w' ⟨rfl, r⟩
    exact ⟨_, rfl, Kd.R_nil _ _ _ _ _, r⟩
  unfold textStep
  by_cases he : e = 0
  · subst he
    rw [if_pos rfl]
    obtain ⟨k, hk⟩ := (own_ev l hf.2 hf.1 most).rounds
    cases hr : rdNum l with
    | none =>
      rw [hr] at hk
      exact nil (Rdr.textBad k u w g l most 0 0 hI hB hk (by omega) (by omega) hf.2 (.inl rfl))
    | some p =>
      obtain ⟨n, s⟩ := p
      rw [hr] at hk
      obtain ⟨n', rfl, _, _, h1, h2⟩ := rdNum_inv hf.1 hr
      simp only [own] at hk
      by_cases hm : (n' : Int) > most
      · rw [if_pos hm] at hk
        simp only [if_pos (show (n' : Int) > most ∨ (n' : Int) > (l.length : Int) - s from .inl hm)]
        exact nil (Rdr.textBad k u w g l most 0 0 hI hB hk (by omega) (by omega) hf.2 (.inl rfl))
      · rw [if_neg hm] at hk
        by_cases hm2 : (n' : Int) > (l.length : Int) - s
        · simp only [if_pos (show (n' : Int) > most ∨ (n' : Int) > (l.length : Int) - s from .inr hm2)]
          exact nil (Rdr.textBad k u w g l most n' s hI hB hk (by omega) (by omega) hf.2 (.inr hm2))
        · simp only [if_neg (show ¬ ((n' : Int) > most ∨ (n' : Int) > (l.length : Int) - s) by omega)]
          exact Rdr.text k u w g l most n' s hI hB hk (by omega) (by omega) hf.2 (by omega) (by omega)
  · rw [if_neg he]
    exact nil (Rdr.textOff u w g l e most hI hB he)
theorem ref_text (u w : World) (g : Nat) (l : List Int) (e most : Int) (hI : IsRd 52 u w g l e) (hB : Below u.heap.size u w) (hf : Fine l) :
    Calls Try.prog 30 #[.pointer (some ⟨g, 0, none⟩), .int .i64 most] w fun ev w' => ∃ v : Value, ev = .returned v ∧ Kd.R (Kd.int .u8) 5 w' u.heap.size (fun k_ => w.heap.size ≤ k_) v (textStep l e most).1 ∧ IsRd 52 u w' g (textStep l e most).2.1 (textStep l e most).2.2 ∧ Below u.heap.size u w' ∧ KeepBut w w' g none := by
  have nil : ∀ {l' : List Int} {e' : Int}, Calls Try.prog 30 #[.pointer (some ⟨g, 0, none⟩), .int .i64 most] w (fun ev w' => ev = .returned (.slice none 0 0) ∧ IsRd 52 u w' g l' e' ∧ Below u.heap.size u w' ∧ KeepBut w w' g none) →
      Calls Try.prog 30 #[.pointer (some ⟨g, 0, none⟩), .int .i64 most] w (fun ev w' => ∃ v : Value, ev = .returned v ∧ Kd.R (Kd.int .u8) 5 w' u.heap.size (fun k_ => w.heap.size ≤ k_) v [] ∧ IsRd 52 u w' g l' e' ∧ Below u.heap.size u w' ∧ KeepBut w w' g none) := fun h => by
    refine h.mono ?_
    rintro ev w' ⟨rfl, r⟩
    exact ⟨_, rfl, Kd.R_nil _ _ _ _ _, r⟩
  unfold textStep
  by_cases he : e = 0
  · subst he
    rw [if_pos rfl]
    obtain ⟨k, hk⟩ := (ref_ev l hf.2 hf.1 most 0).rounds
    cases hr : rdNum l with
    | none =>
      rw [hr] at hk
      exact nil (Ref.textBad k u w g l most 0 0 false hI hB hk (by omega) (by omega) hf.2 (.inl rfl))
    | some p =>
      obtain ⟨n, s⟩ := p
      rw [hr] at hk
      obtain ⟨n', rfl, _, _, h1, h2⟩ := rdNum_inv hf.1 hr
      simp only [refOf] at hk
      by_cases hm : (n' : Int) > most
      · rw [decide_eq_false (by omega)] at hk
        simp only [if_pos (show (n' : Int) > most ∨ (n' : Int) > (l.length : Int) - s from .inl hm)]
        exact nil (Ref.textBad k u w g l most _ _ false hI hB hk (by omega) (by omega) hf.2 (.inl rfl))
      · rw [decide_eq_true (by omega)] at hk
        by_cases hm2 : (n' : Int) > (l.length : Int) - s
        · simp only [if_pos (show (n' : Int) > most ∨ (n' : Int) > (l.length : Int) - s from .inr hm2)]
          exact nil (Ref.textBad k u w g l most n' s true hI hB hk (by omega) (by omega) hf.2 (.inr hm2))
        · simp only [if_neg (show ¬ ((n' : Int) > most ∨ (n' : Int) > (l.length : Int) - s) by omega)]
          exact Ref.text k u w g l most n' s hI hB hk (by omega) (by omega) hf.2 (by omega) (by omega)
  · rw [if_neg he]
    exact nil (Ref.textOff u w g l e most hI hB he)

theorem own_numberE {u w : World} {g : Nat} {l : List Int} {e most v : Int} {l' : List Int} {e' : Int} (h : numStep l e most = (v, l', e')) (hI : IsRd 57 u w g l e) (hB : Below u.heap.size u w) (hf : Fine l) :
    Calls Try.prog 25 #[.pointer (some ⟨g, 0, none⟩), .int .i64 most] w fun ev w' => ev = .returned (.int .i64 v) ∧ IsRd 57 u w' g l' e' ∧ Below u.heap.size u w' ∧ KeepBut w w' g none := by
  have := own_number u w g l e most hI hB hf
  rw [h] at this
  exact this
theorem ref_numberE {u w : World} {g : Nat} {l : List Int} {e most v : Int} {l' : List Int} {e' : Int} (h : numStep l e most = (v, l', e')) (hI : IsRd 52 u w g l e) (hB : Below u.heap.size u w) (hf : Fine l) :
    Calls Try.prog 29 #[.pointer (some ⟨g, 0, none⟩), .int .i64 most] w fun ev w' => ev = .returned (.int .i64 v) ∧ IsRd 52 u w' g l' e' ∧ Below u.heap.size u w' ∧ KeepBut w w' g none := by
  have := ref_number u w g l e most hI hB hf
  rw [h] at this
  exact this
theorem own_textE {u w : World} {g : Nat} {l : List Int} {e most : Int} {s l' : List Int} {e' : Int} (h : textStep l e most = (s, l', e')) (hI : IsRd 57 u w g l e) (hB : Below u.heap.size u w) (hf : Fine l) :
    Calls Try.prog 26 #[.pointer (some ⟨g, 0, none⟩), .int .i64 most] w fun ev w' => ∃ v : Value, ev = .returned v ∧ Kd.R (Kd.int .u8) 5 w' u.heap.size (fun k_ => w.heap.size ≤ k_) v s ∧ IsRd 57 u w' g l' e' ∧ Below u.heap.size u w' ∧ KeepBut w w' g none := by
  have := own_text u w g l e most hI hB hf
  rw [h] at this
  exact this
theorem ref_textE {u w : World} {g : Nat} {l : List Int} {e most : Int} {s l' : List Int} {e' : Int} (h : textStep l e most = (s, l', e')) (hI : IsRd 52 u w g l e) (hB : Below u.heap.size u w) (hf : Fine l) :
    Calls Try.prog 30 #[.pointer (some ⟨g, 0, none⟩), .int .i64 most] w fun ev w' => ∃ v : Value, ev = .returned v ∧ Kd.R (Kd.int .u8) 5 w' u.heap.size (fun k_ => w.heap.size ≤ k_) v s ∧ IsRd 52 u w' g l' e' ∧ Below u.heap.size u w' ∧ KeepBut w w' g none := by
  have := ref_text u w g l e most hI hB hf
  rw [h] at this
  exact this

set_option maxHeartbeats 2000000 in
set_option maxRecDepth 100000 in
theorem leftQ (w0 w : World) (g : Nat) (l : List Int) (e : Int) (hI : IsRd 57 w0 w g l e) : Calls Try.prog 28 #[.pointer (some ⟨g, 0, none⟩)] w fun ev w' => ev = .returned (.int .i64 (l.length : Int)) ∧ w' = w := by
  obtain ⟨A, c, hb, hg, hC, hc⟩ := hI
  have h0 := IsRd.cell0 hb
  clear hb hC
  go_enter Try.func28, Try.ntmps28
  go_wp2
  go_ret
  exact ⟨rfl, rfl⟩
set_option maxHeartbeats 2000000 in
set_option maxRecDepth 100000 in
theorem errQ (w0 w : World) (g : Nat) (l : List Int) (e : Int) (hI : IsRd 57 w0 w g l e) : Calls Try.prog 27 #[.pointer (some ⟨g, 0, none⟩)] w fun ev w' => ev = .returned (.int .i64 e) ∧ w' = w := by
  obtain ⟨A, c, hb, hg, hC, hc⟩ := hI
  have h1 := IsRd.cell1 hb
  clear hb hC
  go_enter Try.func27, Try.ntmps27
  go_wp2
  go_ret
  exact ⟨rfl, rfl⟩
end Go.Proofs.Ytmoefknefopdlaa.St
