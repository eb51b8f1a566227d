import Derived.Test.YtdjcmefnnhfhpaaForms
set_option linter.unusedVariables false
set_option linter.unusedSimpArgs false
/-! WearEnds: always true. -/
namespace Go.Proofs.Ytdjcmefnnhfhpaa.Ends
open Go.RowKit Go.Proofs.YtdjcmefnnhfhpaaW.PrintWords Go.Proofs.YtdjcmefnnhfhpaaW.PrintLast Go.Proofs.YtdjcmefnnhfhpaaW.PrintMore Go.Proofs.Ytdjcmefnnhfhpaa.PAll Go.Proofs.Ytdjcmefnnhfhpaa.Iter Go.Proofs.Ytdjcmefnnhfhpaa.Pure1 Go.Proofs.Ytdjcmefnnhfhpaa.Pure2 Go.Proofs.Ytdjcmefnnhfhpaa.Pure3 Go.Proofs.Ytdjcmefnnhfhpaa.Pure4 Go.Proofs.Ytdjcmefnnhfhpaa.Forms

theorem places_congr {a b : List Int} (h : a.length = b.length) (l1 : List Bool) : places a l1 = places b l1 := by unfold places; rw [h]
theorem rd_set_same (l : List Int) (i : Nat) (v : Int) (h : i < l.length) : rd (l.set i v) (i : Int) = v := by simp [rd, List.getD_eq_getElem?_getD, h]
theorem rd_set_other (l : List Int) (i : Nat) (v x : Int) (h : x.toNat ≠ i) : rd (l.set i v) x = rd l x := by
  unfold rd
  rw [List.getD_eq_getElem?_getD, List.getD_eq_getElem?_getD, List.getElem?_set_ne (by omega)]
/-- How much the places lag behind hi, all in all. -/
def lag (hi : Int) (c : List Int) : List Int → Int
  | [] => 0
  | x :: r => (hi - rd c x) + lag hi c r
theorem lag_set (hi : Int) (c : List Int) (i : Nat) (hi2 : i < c.length) : ∀ (p : List Int), p.Pairwise (· < ·) → (∀ x ∈ p, 0 ≤ x) → lag hi (c.set i (rd c i + 1)) p = lag hi c p - (if (i : Int) ∈ p then 1 else 0)
  | [], _, _ => by simp [lag]
  | x :: r, hp, h0 => by
    obtain ⟨h1, h2⟩ := List.pairwise_cons.1 hp
    have ih := lag_set hi c i hi2 r h2 (fun y hy => h0 y (by simp [hy]))
    unfold lag
    rw [ih]
    by_cases hx : x = (i : Int)
    · subst hx
      have hn : (i : Int) ∉ r := fun h => by have := h1 _ h; omega
      rw [rd_set_same c i _ hi2, if_neg hn, if_pos (by simp)]
      omega
    · have hx0 := h0 x (by simp)
      rw [rd_set_other c i _ x (by omega)]
      have : ((i : Int) ∈ x :: r) ↔ (i : Int) ∈ r := by simp [Ne.symm hx]
      simp only [this]
      omega
theorem lag_le (hi : Int) (c : List Int) (B : Int) : ∀ (p : List Int), (∀ x ∈ p, hi - rd c x ≤ B) → lag hi c p ≤ B * p.length
  | [], _ => by simp [lag]
  | x :: r, h => by
    have ih := lag_le hi c B r (fun y hy => h y (by simp [hy]))
    have := h x (by simp)
    unfold lag
    have e : B * ((x :: r).length : Int) = B * (r.length : Int) + B := by simp [Int.mul_add]
    rw [e]
    omega
theorem lag_nonneg (hi : Int) (c : List Int) : ∀ (p : List Int), (∀ x ∈ p, rd c x ≤ hi) → 0 ≤ lag hi c p
  | [], _ => by simp [lag]
  | x :: r, h => by
    have ih := lag_nonneg hi c r (fun y hy => h y (by simp [hy]))
    have := h x (by simp)
    unfold lag
    omega
theorem small (a : Int) (B : Int) (hB : 0 < B) (hB2 : B ≤ 1000000) : 0 ≤ wrap64 (Int.tmod (IntKind.u64.wrap a) B) ∧ wrap64 (Int.tmod (IntKind.u64.wrap a) B) < B := by
  have h0 : 0 ≤ IntKind.u64.wrap a := by
    rw [IntKind.wrap_u64]
    exact Int.emod_nonneg _ (by decide)
  have t0 : 0 ≤ Int.tmod (IntKind.u64.wrap a) B := Int.tmod_nonneg _ h0
  have t1 : Int.tmod (IntKind.u64.wrap a) B < B := Int.tmod_lt_of_pos _ hB
  rw [w64 (by omega) (by omega)]
  exact ⟨t0, t1⟩
theorem getD_set (l : List Int) (i j : Nat) (v : Int) (hi : i < l.length) : (l.set i v).getD j 0 = if j = i then v else l.getD j 0 := by
  rw [List.getD_eq_getElem?_getD, List.getD_eq_getElem?_getD]
  by_cases h : j = i
  · subst h; simp [hi]
  · rw [List.getElem?_set_ne (by omega), if_neg h]
/-- What is filled: as many as there are, each from 0 on, below B. -/
def Filled (B : Int) (n : Nat) (c : List Int) : Prop := c.length = n ∧ ∀ i, i < n → 0 ≤ c.getD i 0 ∧ c.getD i 0 < B
theorem fill (l0 : List Int) (l1 : List Bool) (a2 : Int) (hl : l0.length ≤ 60)
    (tail : ∀ c, Filled 40 l0.length c → Ev (fun k => (wear_Ends.f k c l1).bind fun b => potsherdlaw7_WearEnds.l1 k l1 (wrap64 (Int.tmod (IntKind.u64.wrap a2) 30)) c b.2 0) true) :
    ∀ (m j : Nat) (out : List Int), j + m = l0.length → out.length = l0.length → (∀ i, i < j → 0 ≤ out.getD i 0 ∧ out.getD i 0 < 40) → Ev (fun k => potsherdlaw7_WearEnds.l0 k l1 a2 out l0 (l0.length : Int) (j : Int)) true
  | 0, j, out, hm, ho, hf => by
    refine Ev.step (fun k => ?_) (tail out ⟨ho, fun i hi => hf i (by omega)⟩)
    simp only [potsherdlaw7_WearEnds.l0]
    rw [if_neg (by omega)]
  | m + 1, j, out, hm, ho, hf => by
    have hs := small (rd l0 (j : Int)) 40 (by omega) (by omega)
    refine Ev.step (fun k => ?_) (fill l0 l1 a2 hl tail m (j + 1) (out.set j (wrap64 (Int.tmod (IntKind.u64.wrap (rd l0 (j : Int))) 40))) (by omega) (by simp [ho]) (fun i hi => by
      rw [getD_set out j i _ (by omega)]
      split
      · exact hs
      · exact hf i (by omega)))
    simp only [potsherdlaw7_WearEnds.l0]
    rw [if_pos (by omega), if_pos (by omega), if_pos (by omega), if_pos (by omega), w64 (n := (j : Int) + 1) (by omega) (by omega)]
    rfl
theorem filled_fits {B : Int} {n : Nat} {c : List Int} (h : Filled B n c) (hB : B ≤ 1000000) : ∀ x ∈ c, Fits x := fun x hx => by
  obtain ⟨i, hi, rfl⟩ := List.getElem_of_mem hx
  have := h.2 i (by rw [← h.1]; exact hi)
  rw [List.getD_eq_getElem?_getD, List.getElem?_eq_getElem hi] at this
  simp at this
  unfold Fits
  omega
theorem filled_rd {B : Int} {n : Nat} {c : List Int} (h : Filled B n c) (x : Int) (h0 : 0 ≤ x) (h1 : x < n) : 0 ≤ rd c x ∧ rd c x < B := by
  obtain ⟨j, rfl⟩ := Int.eq_ofNat_of_zero_le h0
  rw [rd_nat]
  exact h.2 j (by omega)

theorem less_self (a : Int) : lessV a a = 0 := by
  unfold lessV
  rw [Int.sub_self, w64 (by omega) (by omega), if_neg (by omega)]
theorem raise (n : Nat) (hn : n ≤ 60) (l1 : List Bool) (h1 : l1.length ≤ 60) (most hi : Int) (hm0 : 0 ≤ most) (hm1 : most < 30) : ∀ (m r : Nat) (c : List Int), Filled 40 n c → ((places c l1 = [] ∧ hi = 0) ∨ IsHi c l1 hi) → lag hi c (places c l1) ≤ (m : Int) → r + m ≤ 2400 →
    Ev (fun k => potsherdlaw7_WearEnds.l1 k l1 most c hi (r : Int)) true := by
  intro m
  induction m with
  | zero =>
    intro r c hf hh hlag hr
    obtain ⟨lo, hi', ap, cc, h', t⟩ := tells c l1 (by rw [hf.1]; omega) (by omega) (filled_fits hf (by omega))
    have key : ap ≤ most ∧ hi' = hi := by
      rcases t.what with ⟨e1, _, _, e2, e3⟩ | ⟨e1, hlo, hhi, hc, hhh⟩
      · have hap : ap = 0 := by rw [t.apart, e2, e3]; exact less_self 0
        refine ⟨by omega, ?_⟩
        rcases hh with ⟨_, e⟩ | ⟨⟨x, hx, _⟩, _⟩
        · omega
        · rw [e1] at hx; cases hx
      · have hE : hi' = hi := by
          rcases hh with ⟨e, _⟩ | hh
          · exact absurd e e1
          · exact hhi.unique hh
        refine ⟨?_, hE⟩
        subst hE
        have hin := (mem_places c l1 cc).1 hc.1
        have hge : hi' - rd c cc ≤ lag hi' c (places c l1) := by
          have : ∀ p : List Int, (∀ x ∈ p, rd c x ≤ hi') → cc ∈ p → hi' - rd c cc ≤ lag hi' c p := by
            intro p
            induction p with
            | nil => intro _ h; cases h
            | cons y p ih =>
              intro hp hcp
              unfold lag
              rcases List.mem_cons.1 hcp with rfl | hcp
              · have := lag_nonneg hi' c p (fun z hz => hp z (by simp [hz])); omega
              · have := ih (fun z hz => hp z (by simp [hz])) hcp
                have := hp y (by simp)
                omega
          exact this _ hhi.2 hc.1
        have hle := hlo.le hhi
        have hrl := hc.2.1
        have hap : ap = 0 := by rw [t.apart, show hi' = lo by omega]; exact less_self lo
        omega
    refine Ev.step (fun k => by simp only [potsherdlaw7_WearEnds.l1]; rw [if_pos (by omega)]) ?_
    refine Ev.bind (t.due most) ?_
    refine Ev.congr (fun k => by rw [if_pos key.1, if_pos rfl]) ?_
    refine Ev.bind t.e1 (Ev.bind t.a1 ?_)
    refine Ev.congr (fun k => by rw [if_pos key.1, if_pos key.2]) ?_
    exact Ev.bind awake_ev (Ev.now _)
  | succ m ih =>
    intro r c hf hh hlag hr
    obtain ⟨lo, hi', ap, cc, h', t⟩ := tells c l1 (by rw [hf.1]; omega) (by omega) (filled_fits hf (by omega))
    have hE : hi' = hi := by
      rcases t.what with ⟨e1, _, _, e2, e3⟩ | ⟨e1, hlo, hhi, hc, hhh⟩
      · rcases hh with ⟨_, e⟩ | ⟨⟨x, hx, _⟩, _⟩
        · omega
        · rw [e1] at hx; cases hx
      · rcases hh with ⟨e, _⟩ | hh
        · exact absurd e e1
        · exact hhi.unique hh
    subst hE
    by_cases ha : ap ≤ most
    · refine Ev.step (fun k => by simp only [potsherdlaw7_WearEnds.l1]; rw [if_pos (by omega)]) ?_
      refine Ev.bind (t.due most) ?_
      refine Ev.congr (fun k => by rw [if_pos ha, if_pos rfl]) ?_
      refine Ev.bind t.e1 (Ev.bind t.a1 ?_)
      refine Ev.congr (fun k => by rw [if_pos ha, if_pos rfl]) ?_
      exact Ev.bind awake_ev (Ev.now _)
    · rcases t.what with ⟨e1, _, _, e2, e3⟩ | ⟨e1, hlo, hhi, hc, hhh⟩
      · have hap : ap = 0 := by rw [t.apart, e2, e3]; exact less_self 0
        omega
      · have hin := (mem_places c l1 cc).1 hc.1
        have hcl := hf.1
        obtain ⟨i, rfl⟩ := Int.eq_ofNat_of_zero_le hin.1
        have hrl := hc.2.1
        have hlf := filled_rd hf (i : Int) (by omega) (by omega)
        obtain ⟨x, hx, hxe⟩ := hhi.1
        have hxin := (mem_places c l1 x).1 hx
        have hhf := filled_rd hf x (by omega) (by omega)
        have hap : ap = hi' - lo := by rw [t.apart, lessV, w64 (by omega) (by omega), if_neg (by have := hlo.le hhi; omega)]
        have hw1 : wrap64 (rd c (i : Int) + 1) = rd c (i : Int) + 1 := w64 (by omega) (by omega)
        have hpl : places (c.set i (rd c (i : Int) + 1)) l1 = places c l1 := places_congr (by simp) l1
        have hlag2 := lag_set hi' c i (by omega) (places c l1) (places_sorted c l1) (fun y hy => ((mem_places c l1 y).1 hy).1)
        rw [if_pos hc.1] at hlag2
        have hset : Filled 40 n (c.set i (rd c (i : Int) + 1)) := ⟨by simp [hcl], fun j hj => by
          rw [getD_set c i j _ (by omega)]
          split
          · omega
          · exact hf.2 j hj⟩
        have hxi : x ≠ (i : Int) := by
          intro e
          rw [e] at hxe
          omega
        have hhi2 : IsHi (c.set i (rd c (i : Int) + 1)) l1 hi' := by
          refine ⟨⟨x, by rw [hpl]; exact hx, by rw [rd_set_other c i _ x (by omega)]; exact hxe⟩, fun y hy => ?_⟩
          rw [hpl] at hy
          have hy2 := (mem_places c l1 y).1 hy
          by_cases hyi : y = (i : Int)
          · subst hyi; rw [rd_set_same c i _ (by omega)]; omega
          · rw [rd_set_other c i _ y (by omega)]; exact hhi.2 y hy
        have next := ih (r + 1) (c.set i (rd c (i : Int) + 1)) hset (.inr hhi2) (by rw [hpl]; omega) (by omega)
        refine Ev.step (fun k => by simp only [potsherdlaw7_WearEnds.l1]; rw [if_pos (by omega)]) ?_
        refine Ev.bind (t.due most) ?_
        refine Ev.congr (fun k => ?_) next
        rw [if_neg ha, if_neg (by omega), if_neg (by omega), if_neg (by omega), if_neg (by omega), if_pos (by omega), if_pos (by omega), hin.2.2.2, if_pos rfl, if_pos (by omega), w64 (n := hi' - rd c (i : Int)) (by omega) (by omega), if_neg (by omega), hw1, w64 (n := (r : Int) + 1) (by omega) (by omega)]
        rfl
theorem pure (l0 : List Int) (l1 : List Bool) (most : Int) : Ev (fun k => potsherdlaw7_WearEnds.f k l0 l1 most) true := by
  have hawake : ∀ b, b = true → Ev (fun k => potsherdlaw7_WearEnds.j0 k l0 l1 most b) true := fun b hb => by
    subst hb
    refine Ev.step (f := fun k => (potsherdlaw7_awake.f k).bind fun t => some t) (fun k => ?_) (Ev.bind awake_ev (Ev.now _))
    simp only [potsherdlaw7_WearEnds.j0]
    rw [if_pos trivial]
  by_cases g0 : (l0.length : Int) > 60
  · exact Ev.congr (fun k => by unfold potsherdlaw7_WearEnds.f; rw [if_pos g0]) (hawake _ rfl)
  refine Ev.congr (fun k => by unfold potsherdlaw7_WearEnds.f; rw [if_neg g0]) ?_
  by_cases g1 : (l1.length : Int) > 60
  · exact hawake _ (by simpa using g1)
  have hms := small most 30 (by omega) (by omega)
  have main := fill l0 l1 most (by omega) (fun c hf => by
    obtain ⟨lo, hi, ap, cc, h', t⟩ := tells c l1 (by rw [hf.1]; omega) (by omega) (filled_fits hf (by omega))
    refine Ev.bind t.e1 ?_
    have hlen := places_len c l1
    refine raise l0.length (by omega) l1 (by omega) _ hi hms.1 hms.2 2400 0 c hf ?_ ?_ (by omega)
    · rcases t.what with ⟨e1, _, _, _, e3⟩ | ⟨_, _, hhi, _, _⟩
      · exact .inl ⟨e1, e3⟩
      · exact .inr hhi
    · have hb := lag_le hi c 40 (places c l1) (fun x hx => by
        have hxin := (mem_places c l1 x).1 hx
        have := filled_rd hf x (by omega) (by have := hf.1; omega)
        rcases t.what with ⟨e1, _⟩ | ⟨_, _, hhi, _, _⟩
        · rw [e1] at hx; cases hx
        · obtain ⟨⟨y, hy, hye⟩, _⟩ := hhi
          have hyin := (mem_places c l1 y).1 hy
          have := filled_rd hf y (by omega) (by have := hf.1; omega)
          omega)
      have := hf.1
      omega) l0.length 0 (List.replicate l0.length 0) (by omega) (by simp) (fun i hi => by omega)
  refine Ev.step (fun k => ?_) main
  simp only [potsherdlaw7_WearEnds.j0]
  rw [if_neg (by simpa using g1), if_pos (by omega), if_pos (by omega)]
  rfl
theorem final {ok : Bool → Prop} (W : World) (A0 : Option Addr) (c0 : Nat) (l0 : List Int) (hc0 : l0.length ≤ c0) (hr0 : Kd.C (Kd.int .i64) W A0 l0.length l0) (hm0 : l0.length ≤ maxLen) (hok0 : ∀ x ∈ l0, (Lit.int .i64 x).wf = true)
    (A1 : Option Addr) (c1 : Nat) (l1 : List Bool) (hc1 : l1.length ≤ c1) (hr1 : Kd.C Kd.bool W A1 l1.length l1) (hm1 : l1.length ≤ maxLen) (hok1 : ∀ x ∈ l1, ok x) (a2 : Int) (w2 : (Lit.int .i64 a2).wf = true) :
    Calls Try.prog 4 #[.slice A0 l0.length c0, .slice A1 l1.length c1, .int .i64 a2] W fun e w' => e = .returned (.bool true) ∧ Below W.heap.size W w' := by
  obtain ⟨k, hk⟩ := (pure l0 l1 a2).rounds
  exact potsherdlaw7_WearEnds.calls k A0 c0 l0 A1 c1 l1 a2 true W hr0 hc0 hr1 hc1 hk
end Go.Proofs.Ytdjcmefnnhfhpaa.Ends
