import Derived.Test.YtdjcmefnnhfhpaaPure3
import Derived.Test.YtdjcmefnnhfhpaaG4
set_option linter.unusedVariables false
set_option linter.unusedSimpArgs false
set_option linter.unusedSectionVars false
/-! wear and the document's answer: Buckets alike; WearForms. -/
namespace Go.Proofs.Ytdjcmefnnhfhpaa.Pure4
open Go.RowKit Go.Proofs.YtdjcmefnnhfhpaaW.PrintWords Go.Proofs.YtdjcmefnnhfhpaaW.PrintLast Go.Proofs.YtdjcmefnnhfhpaaW.PrintMore Go.Proofs.Ytdjcmefnnhfhpaa.PAll Go.Proofs.Ytdjcmefnnhfhpaa.Iter Go.Proofs.Ytdjcmefnnhfhpaa.Pure1 Go.Proofs.Ytdjcmefnnhfhpaa.Pure2 Go.Proofs.Ytdjcmefnnhfhpaa.Pure3

/-- One more in the bucket of v. -/
def bump (lo : Int) (out : List Int) (v : Int) : List Int := out.set (wrap64 (v - lo)).toNat (wrap64 (rd out (wrap64 (v - lo)) + 1))
theorem bump_length (lo : Int) (out : List Int) (v : Int) : (bump lo out v).length = out.length := by simp [bump]
def bumps (lo : Int) (out : List Int) (vs : List Int) : List Int := vs.foldl (bump lo) out
theorem bumps_length (lo : Int) : ∀ (vs : List Int) (out : List Int), (bumps lo out vs).length = out.length
  | [], out => rfl
  | v :: vs, out => by
    show (bumps lo (bump lo out v) vs).length = _
    rw [bumps_length lo vs, bump_length]
/-- v has a bucket among n. -/
def In (lo : Int) (n : Nat) (v : Int) : Prop := 0 ≤ wrap64 (v - lo) ∧ wrap64 (v - lo) < (n : Int)

theorem wear_loop (lo : Int) (vs : List Int) (hl : vs.length ≤ 1000000) : ∀ (rest pre : List Int) (out : List Int), vs = pre ++ rest → (∀ v ∈ rest, In lo out.length v) →
    Ev (fun k => wear_Buckets.l0 k lo out vs (vs.length : Int) (pre.length : Int)) (bumps lo out rest)
  | [], pre, out, h, _ => by
    refine Ev.step (f := fun _ => some (bumps lo out [])) (fun k => ?_) (Ev.now _)
    have : vs.length = pre.length := by rw [h]; simp
    simp only [wear_Buckets.l0]
    rw [if_neg (by omega)]
    rfl
  | v :: rest, pre, out, h, hin => by
    have hlen : vs.length = pre.length + (rest.length + 1) := by rw [h]; simp
    have hv : rd vs (pre.length : Int) = v := by rw [rd_nat, h]; simp
    obtain ⟨i1, i2⟩ := hin v (by simp)
    have he := wear_loop lo vs hl rest (pre ++ [v]) (bump lo out v) (by simp [h]) (fun x hx => by have := hin x (by simp [hx]); rw [bump_length]; exact this)
    refine Ev.step (fun k => ?_) he
    simp only [wear_Buckets.l0]
    rw [if_pos (by omega), if_pos (by omega), if_pos (by omega), hv, if_pos i1, if_pos i2, w64 (n := (pre.length : Int) + 1) (by omega) (by omega)]
    have : ((pre ++ [v]).length : Int) = (pre.length : Int) + 1 := by simp
    rw [this]
    rfl
theorem ref_loopB (lo : Int) (l0 : List Int) (l1 : List Bool) (h0 : l0.length ≤ 1000000) : ∀ (m j : Nat) (out : List Int), j + m = min l1.length l0.length → (∀ x ∈ wl j ((l1.take (min l1.length l0.length)).drop j), In lo out.length (rd l0 x)) →
    Ev (fun k => potsherdref3_Buckets.l0 k l0 l1 lo out ((min l1.length l0.length : Nat) : Int) (j : Int)) (bumps lo out ((wl j ((l1.take (min l1.length l0.length)).drop j)).map (rd l0)))
  | 0, j, out, hm, hin => by
    have hd : (l1.take (min l1.length l0.length)).drop j = [] := List.drop_eq_nil_of_le (by rw [List.length_take]; omega)
    rw [hd]
    refine Ev.step (f := fun _ => some (bumps lo out [])) (fun k => ?_) (Ev.now _)
    simp only [potsherdref3_Buckets.l0]
    rw [if_neg (by omega)]
    rfl
  | m + 1, j, out, hm, hin => by
    have hj : j < (l1.take (min l1.length l0.length)).length := by rw [List.length_take]; omega
    have hg : (l1.take (min l1.length l0.length))[j]'hj = rdOf false l1 (j : Int) := by
      have : j < l1.length := by omega
      simp [rdOf, List.getD_eq_getElem?_getD, List.getElem?_eq_getElem this]
    have hd : (l1.take (min l1.length l0.length)).drop j = rdOf false l1 (j : Int) :: (l1.take (min l1.length l0.length)).drop (j + 1) := by rw [List.drop_eq_getElem_cons hj, hg]
    rw [hd] at hin ⊢
    have hw : wrap64 ((j : Int) + 1) = ((j + 1 : Nat) : Int) := by rw [w64 (by omega) (by omega)]; rfl
    cases hb : rdOf false l1 (j : Int) with
    | false =>
      rw [hb] at hin
      have hc : wl (j : Int) (false :: (l1.take (min l1.length l0.length)).drop (j + 1)) = wl ((j + 1 : Nat) : Int) ((l1.take (min l1.length l0.length)).drop (j + 1)) := by simp [wl]
      rw [hc] at hin ⊢
      refine Ev.step (fun k => ?_) (ref_loopB lo l0 l1 h0 m (j + 1) out (by omega) hin)
      simp only [potsherdref3_Buckets.l0]
      rw [if_pos (by omega), if_pos (by omega), if_pos (by omega), hb, if_neg (by simp), hw]
    | true =>
      rw [hb] at hin
      have hc : wl (j : Int) (true :: (l1.take (min l1.length l0.length)).drop (j + 1)) = (j : Int) :: wl ((j + 1 : Nat) : Int) ((l1.take (min l1.length l0.length)).drop (j + 1)) := by simp [wl]
      rw [hc] at hin ⊢
      obtain ⟨i1, i2⟩ := hin (j : Int) (by simp)
      refine Ev.step (fun k => ?_) (ref_loopB lo l0 l1 h0 m (j + 1) (bump lo out (rd l0 j)) (by omega) (fun x hx => by rw [bump_length]; exact hin x (List.mem_cons_of_mem _ hx)))
      simp only [potsherdref3_Buckets.l0]
      rw [if_pos (by omega), if_pos (by omega), if_pos (by omega), hb, if_pos rfl, if_pos (by omega), if_pos i1, if_pos i2, hw]
      rfl
/-- The buckets, in plain words. -/
def bkts (l0 : List Int) (l1 : List Bool) (lo ap : Int) : List Int := if places l0 l1 = [] ∨ ap > 1000 then [] else bumps lo (List.replicate (ap + 1).toNat 0) ((places l0 l1).map (rd l0))
theorem in_all {l0 : List Int} {l1 : List Bool} {lo hi ap c h : Int} (t : Tells l0 l1 lo hi ap c h) (hw : ∀ x ∈ l0, Fits x) (hp : places l0 l1 ≠ []) (ha : ¬ ap > 1000) : 0 ≤ ap ∧ ap = hi - lo ∧ ∀ x ∈ places l0 l1, In lo (ap + 1).toNat (rd l0 x) := by
  rcases t.what with ⟨h, _⟩ | ⟨_, hlo, hhi, _, _⟩
  · exact absurd h hp
  · have hle := hlo.le hhi
    obtain ⟨⟨x, hx, ex⟩, lo1⟩ := hlo
    obtain ⟨⟨y, hy, ey⟩, hi1⟩ := hhi
    have m1 := (mem_places l0 l1 x).1 hx
    have m2 := (mem_places l0 l1 y).1 hy
    have f1 := fits_rd hw x (by omega) (by omega)
    have f2 := fits_rd hw y (by omega) (by omega)
    unfold Fits at f1 f2
    have hap : ap = hi - lo := by
      have h1 := t.apart
      unfold lessV at h1
      split at h1
      · omega
      · rename_i h2
        unfold wrap64 at h1 h2
        omega
    refine ⟨by omega, hap, fun z hz => ?_⟩
    have := lo1 z hz
    have := hi1 z hz
    have hww : wrap64 (rd l0 z - lo) = rd l0 z - lo := w64 (by omega) (by omega)
    unfold In
    rw [hww]
    omega
theorem wear_bkts {l0 : List Int} {l1 : List Bool} {lo hi ap c h : Int} (h0 : l0.length ≤ 1000000) (h1 : l1.length ≤ 1000000) (t : Tells l0 l1 lo hi ap c h) (hw : ∀ x ∈ l0, Fits x) : Ev (fun k => wear_Buckets.f k l0 l1) (bkts l0 l1 lo ap) := by
  refine Ev.congr (fun k => by unfold wear_Buckets.f; rw [looked_eq l0 l1 h0 h1]; simp only [Option.bind_some, List.length_map]; rfl) (Ev.bind t.a1 ?_)
  have hlen := places_len l0 l1
  by_cases hp : places l0 l1 = []
  · refine Ev.congr (f := fun k => wear_Buckets.j0 k l0 l1 ((places l0 l1).map (rd l0)) ap true) (fun k => by rw [if_pos (by rw [hp]; rfl)]) ?_
    refine Ev.step (f := fun _ => some []) (fun k => by simp only [wear_Buckets.j0]; rw [if_pos trivial]) ?_
    unfold bkts
    rw [if_pos (.inl hp)]
    exact Ev.now _
  · have hpl : 0 < (places l0 l1).length := List.length_pos_iff.2 hp
    refine Ev.congr (f := fun k => wear_Buckets.j0 k l0 l1 ((places l0 l1).map (rd l0)) ap (decide (ap > 1000))) (fun k => by rw [if_neg (by omega)]) ?_
    by_cases ha : ap > 1000
    · refine Ev.step (f := fun _ => some []) (fun k => by simp only [wear_Buckets.j0]; rw [if_pos (by simpa using ha)]) ?_
      unfold bkts
      rw [if_pos (.inr ha)]
      exact Ev.now _
    · obtain ⟨a0, a1, a2⟩ := in_all t hw hp ha
      unfold bkts
      rw [if_neg (by simp [hp]; omega)]
      refine Ev.step (f := fun k => (wear_Ends.f k l0 l1).bind fun b => wear_Buckets.l0 k b.1 (List.replicate (ap + 1).toNat 0) ((places l0 l1).map (rd l0)) (((places l0 l1).map (rd l0)).length : Int) 0) (fun k => ?_) (Ev.bind t.e1 ?_)
      · simp only [wear_Buckets.j0]
        rw [if_neg (by simpa using ha), w64 (n := ap + 1) (by omega) (by omega)]
        congr 1
        funext b
        rw [if_pos (by omega), if_pos (by omega)]
      · exact wear_loop lo _ (by rw [List.length_map]; omega) _ [] _ rfl (fun v hv => by
          obtain ⟨x, hx, rfl⟩ := List.mem_map.1 hv
          rw [List.length_replicate]
          exact a2 x hx)
theorem ref_bkts {l0 : List Int} {l1 : List Bool} {lo hi ap c h : Int} (h0 : l0.length ≤ 1000000) (h1 : l1.length ≤ 1000000) (t : Tells l0 l1 lo hi ap c h) (hw : ∀ x ∈ l0, Fits x) : Ev (fun k => potsherdref3_Buckets.f k l0 l1) (bkts l0 l1 lo ap) := by
  refine Ev.congr (fun k => by unfold potsherdref3_Buckets.f; rfl) (Ev.bind t.c2 ?_)
  by_cases hp : places l0 l1 = []
  · have hc : c = -1 := by
      rcases t.what with ⟨_, e, _⟩ | ⟨e, _⟩
      · exact e
      · exact absurd hp e
    refine Ev.congr (f := fun k => potsherdref3_Buckets.j0 k l0 l1 true) (fun k => by rw [if_pos (by omega)]) ?_
    refine Ev.step (f := fun _ => some []) (fun k => by simp only [potsherdref3_Buckets.j0]; rw [if_pos trivial]) ?_
    unfold bkts
    rw [if_pos (.inl hp)]
    exact Ev.now _
  · have hc : ¬ c < 0 := by
      rcases t.what with ⟨e, _⟩ | ⟨_, _, _, e, _⟩
      · exact absurd e hp
      · have := (mem_places l0 l1 c).1 e.1
        omega
    refine Ev.congr (fun k => by rw [if_neg hc]) (Ev.bind t.a2 ?_)
    by_cases ha : ap > 1000
    · refine Ev.step (f := fun _ => some []) (fun k => by simp only [potsherdref3_Buckets.j0]; rw [if_pos (by simpa using ha)]) ?_
      unfold bkts
      rw [if_pos (.inr ha)]
      exact Ev.now _
    · obtain ⟨a0, a1, a2⟩ := in_all t hw hp ha
      unfold bkts
      rw [if_neg (by simp [hp]; omega)]
      refine Ev.step (f := fun k => (potsherdref3_Ends.f k l0 l1).bind fun b => ((potsherdref3_Apart.f k l0 l1).bind fun a => (if 0 ≤ wrap64 (a + 1) then (if (wrap64 (a + 1)).toNat ≤ 35184372088832 then (potsherdref3_Buckets.l0 k l0 l1 b.1 (List.replicate (wrap64 (a + 1)).toNat 0) (mn (l0.length : Int) (l1.length : Int)) 0) else none) else none))) (fun k => ?_) (Ev.bind t.e2 (Ev.bind t.a2 ?_))
      · simp only [potsherdref3_Buckets.j0]
        rw [if_neg (by simpa using ha)]
      · have hmn : mn (l0.length : Int) (l1.length : Int) = ((min l1.length l0.length : Nat) : Int) := by rw [mn_len l0 l1 h0 h1, Nat.min_comm]
        have hww : wrap64 (ap + 1) = ap + 1 := w64 (by omega) (by omega)
        have := ref_loopB lo l0 l1 h0 (min l1.length l0.length) 0 (List.replicate (ap + 1).toNat 0) (by omega) (fun x hx => by
          rw [List.length_replicate]
          exact a2 x hx)
        refine Ev.congr (fun k => ?_) this
        simp only [hww, hmn]
        rw [if_pos (by omega), if_pos (by omega)]
        rfl
end Go.Proofs.Ytdjcmefnnhfhpaa.Pure4
