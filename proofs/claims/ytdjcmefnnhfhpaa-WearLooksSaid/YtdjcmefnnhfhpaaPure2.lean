import Derived.Test.YtdjcmefnnhfhpaaPure1
set_option linter.unusedVariables false
set_option linter.unusedSimpArgs false
set_option linter.unusedSectionVars false
/-! The document's answer: Ends, seek. -/
namespace Go.Proofs.Ytdjcmefnnhfhpaa.Pure2
open Go.RowKit Go.Proofs.YtdjcmefnnhfhpaaW.PrintWords Go.Proofs.YtdjcmefnnhfhpaaW.PrintLast Go.Proofs.YtdjcmefnnhfhpaaW.PrintMore Go.Proofs.Ytdjcmefnnhfhpaa.PAll Go.Proofs.Ytdjcmefnnhfhpaa.Iter Go.Proofs.Ytdjcmefnnhfhpaa.Pure1

section
variable (l0 : List Int) (l1 : List Bool) (h0 : l0.length ≤ 1000000) (h1 : l1.length ≤ 1000000)
include h0 h1
theorem mn_len : mn (l0.length : Int) (l1.length : Int) = ((min l0.length l1.length : Nat) : Int) := by
  unfold mn
  split <;> omega
def InvE (l0 : List Int) (l1 : List Bool) (seen : Bool) (lo hi : Int) (j : Nat) : Prop :=
  (seen = false ∧ lo = 0 ∧ hi = 0 ∧ ∀ x ∈ places l0 l1, (j : Int) ≤ x) ∨
  (seen = true ∧ (∃ x ∈ places l0 l1, x < j ∧ rd l0 x = lo) ∧ (∃ x ∈ places l0 l1, x < j ∧ rd l0 x = hi) ∧ ∀ x ∈ places l0 l1, x < j → lo ≤ rd l0 x ∧ rd l0 x ≤ hi)
theorem ref_loop : ∀ (m j : Nat) (lo hi : Int) (seen : Bool), j + m = min l0.length l1.length → InvE l0 l1 seen lo hi j →
    ∃ lo' hi' seen', Ev (fun k => potsherdref3_Ends.l0 k l0 l1 lo hi seen ((min l0.length l1.length : Nat) : Int) (j : Int)) (lo', hi') ∧ InvE l0 l1 seen' lo' hi' (min l0.length l1.length)
  | 0, j, lo, hi, seen, hm, hI => by
    have hj : j = min l0.length l1.length := by omega
    rw [← hj]
    refine ⟨lo, hi, seen, Ev.step (f := fun _ => some (lo, hi)) (fun k => ?_) (Ev.now _), hI⟩
    simp only [potsherdref3_Ends.l0]
    rw [if_neg (by omega)]
  | m + 1, j, lo, hi, seen, hm, hI => by
    cases hb : rdOf false l1 (j : Int) with
    | false =>
      have hnp : (j : Int) ∉ places l0 l1 := fun h => by have := ((mem_places l0 l1 j).1 h).2.2.2; rw [hb] at this; cases this
      have hI' : InvE l0 l1 seen lo hi (j + 1) := by
        rcases hI with ⟨e1, e2, e3, e4⟩ | ⟨e1, ⟨x, hx, hxj, e2⟩, ⟨y, hy, hyj, e3⟩, e4⟩
        · refine .inl ⟨e1, e2, e3, fun x hx => ?_⟩
          have := e4 x hx
          have : x ≠ (j : Int) := fun h => hnp (h ▸ hx)
          omega
        · refine .inr ⟨e1, ⟨x, hx, by omega, e2⟩, ⟨y, hy, by omega, e3⟩, fun z hz hzj => e4 z hz ?_⟩
          have : z ≠ (j : Int) := fun h => hnp (h ▸ hz)
          omega
      obtain ⟨lo', hi', seen', he, hI2⟩ := ref_loop m (j + 1) lo hi seen (by omega) hI'
      refine ⟨lo', hi', seen', Ev.step (fun k => ?_) he, hI2⟩
      simp only [potsherdref3_Ends.l0]
      rw [if_pos (by omega), if_pos (by omega), if_pos (by omega), hb, if_neg (by simp), w64 (by omega) (by omega)]
      rfl
    | true =>
      have hp : (j : Int) ∈ places l0 l1 := (mem_places l0 l1 j).2 ⟨by omega, by omega, by omega, hb⟩
      cases seen with
      | false =>
        have hI' : InvE l0 l1 true (mn (rd l0 j) (rd l0 j)) (mx (rd l0 j) (rd l0 j)) (j + 1) := by
          have e1 : mn (rd l0 j) (rd l0 j) = rd l0 j := by simp [mn]
          have e2 : mx (rd l0 j) (rd l0 j) = rd l0 j := by simp [mx]
          rw [e1, e2]
          rcases hI with ⟨_, _, _, e4⟩ | ⟨e1, _⟩
          · refine .inr ⟨rfl, ⟨j, hp, by omega, rfl⟩, ⟨j, hp, by omega, rfl⟩, fun z hz hzj => ?_⟩
            have := e4 z hz
            obtain rfl : z = (j : Int) := by omega
            exact ⟨Int.le_refl _, Int.le_refl _⟩
          · cases e1
        obtain ⟨lo', hi', seen', he, hI2⟩ := ref_loop m (j + 1) _ _ _ (by omega) hI'
        refine ⟨lo', hi', seen', Ev.step (fun k => ?_) he, hI2⟩
        simp only [potsherdref3_Ends.l0]
        rw [if_pos (by omega), if_pos (by omega), if_pos (by omega), hb, if_pos rfl, if_neg (by simp), if_pos (by omega), w64 (by omega) (by omega)]
        rfl
      | true =>
        have hI' : InvE l0 l1 true (mn lo (rd l0 j)) (mx hi (rd l0 j)) (j + 1) := by
          rcases hI with ⟨e1, _⟩ | ⟨_, ⟨x, hx, hxj, e2⟩, ⟨y, hy, hyj, e3⟩, e4⟩
          · cases e1
          · refine .inr ⟨rfl, ?_, ?_, fun z hz hzj => ?_⟩
            · unfold mn
              split
              · exact ⟨j, hp, by omega, rfl⟩
              · exact ⟨x, hx, by omega, e2⟩
            · unfold mx
              split
              · exact ⟨j, hp, by omega, rfl⟩
              · exact ⟨y, hy, by omega, e3⟩
            · by_cases hz' : z = (j : Int)
              · subst hz'
                unfold mn mx
                constructor <;> split <;> omega
              · have := e4 z hz (by omega)
                unfold mn mx
                constructor <;> split <;> omega
        obtain ⟨lo', hi', seen', he, hI2⟩ := ref_loop m (j + 1) _ _ _ (by omega) hI'
        refine ⟨lo', hi', seen', Ev.step (fun k => ?_) he, hI2⟩
        simp only [potsherdref3_Ends.l0]
        rw [if_pos (by omega), if_pos (by omega), if_pos (by omega), hb, if_pos rfl, if_pos trivial, if_pos (by omega), w64 (by omega) (by omega)]
        rfl
theorem ref_ends : (places l0 l1 = [] ∧ Ev (fun k => potsherdref3_Ends.f k l0 l1) (0, 0)) ∨ ∃ lo hi, IsLo l0 l1 lo ∧ IsHi l0 l1 hi ∧ Ev (fun k => potsherdref3_Ends.f k l0 l1) (lo, hi) := by
  obtain ⟨lo, hi, seen, he, hI⟩ := ref_loop l0 l1 h0 h1 (min l0.length l1.length) 0 0 0 false (by omega) (.inl ⟨rfl, rfl, rfl, fun x hx => ((mem_places l0 l1 x).1 hx).1⟩)
  have he' : Ev (fun k => potsherdref3_Ends.f k l0 l1) (lo, hi) := Ev.congr (fun k => by unfold potsherdref3_Ends.f; rw [mn_len l0 l1 h0 h1]; rfl) he
  rcases hI with ⟨_, e2, e3, e4⟩ | ⟨_, ⟨x, hx, _, e2⟩, ⟨y, hy, _, e3⟩, e4⟩
  · refine .inl ⟨List.eq_nil_iff_forall_not_mem.2 fun x hx => ?_, by subst e2; subst e3; exact he'⟩
    have := (mem_places l0 l1 x).1 hx
    have := e4 x hx
    omega
  · refine .inr ⟨lo, hi, ⟨⟨x, hx, e2⟩, fun z hz => ?_⟩, ⟨⟨y, hy, e3⟩, fun z hz => ?_⟩, he'⟩
    · have := (mem_places l0 l1 z).1 hz
      exact (e4 z hz (by omega)).1
    · have := (mem_places l0 l1 z).1 hz
      exact (e4 z hz (by omega)).2
theorem seek_loop (v : Int) : ∀ (m j : Nat), j + m = min l0.length l1.length → (∀ x ∈ places l0 l1, x < j → rd l0 x ≠ v) →
    (∀ x, IsFirst l0 l1 v x → Ev (fun k => potsherdref3_seek.l0 k l0 l1 v ((min l0.length l1.length : Nat) : Int) (j : Int)) x) ∧ ((∀ x ∈ places l0 l1, rd l0 x ≠ v) → Ev (fun k => potsherdref3_seek.l0 k l0 l1 v ((min l0.length l1.length : Nat) : Int) (j : Int)) (-1))
  | 0, j, hm, hI => by
    have he : Ev (fun k => potsherdref3_seek.l0 k l0 l1 v ((min l0.length l1.length : Nat) : Int) (j : Int)) (-1) := by
      refine Ev.step (f := fun _ => some (-1)) (fun k => ?_) (Ev.now _)
      simp only [potsherdref3_seek.l0]
      rw [if_neg (by omega)]
    refine ⟨fun x hx => ?_, fun _ => he⟩
    have := (mem_places l0 l1 x).1 hx.1
    exact absurd hx.2.1 (hI x hx.1 (by omega))
  | m + 1, j, hm, hI => by
    cases hb : rdOf false l1 (j : Int) with
    | false =>
      have hnp : (j : Int) ∉ places l0 l1 := fun h => by have := ((mem_places l0 l1 j).1 h).2.2.2; rw [hb] at this; cases this
      obtain ⟨i1, i2⟩ := seek_loop v m (j + 1) (by omega) (fun x hx hxj => hI x hx (by have : x ≠ (j : Int) := fun h => hnp (h ▸ hx); omega))
      have hs : ∀ k, potsherdref3_seek.l0 (k + 1) l0 l1 v ((min l0.length l1.length : Nat) : Int) (j : Int) = potsherdref3_seek.l0 k l0 l1 v ((min l0.length l1.length : Nat) : Int) ((j + 1 : Nat) : Int) := fun k => by
        simp only [potsherdref3_seek.l0]
        rw [if_pos (by omega), if_pos (by omega), if_pos (by omega), hb, if_neg (by simp), w64 (by omega) (by omega)]
        rfl
      exact ⟨fun x hx => Ev.step hs (i1 x hx), fun h => Ev.step hs (i2 h)⟩
    | true =>
      have hp : (j : Int) ∈ places l0 l1 := (mem_places l0 l1 j).2 ⟨by omega, by omega, by omega, hb⟩
      by_cases hv : rd l0 (j : Int) = v
      · refine ⟨fun x hx => ?_, fun h => absurd hv (h _ hp)⟩
        have hxj : x = (j : Int) := by
          have a1 := hx.2.2 j hp hv
          have a2 : ¬ x < (j : Int) := fun h => hI x hx.1 h hx.2.1
          omega
        subst hxj
        refine Ev.step (f := fun _ => some (j : Int)) (fun k => ?_) (Ev.now _)
        simp only [potsherdref3_seek.l0]
        rw [if_pos (by omega), if_pos (by omega), if_pos (by omega), hb, if_pos rfl, if_pos (by omega), if_pos hv]
      · obtain ⟨i1, i2⟩ := seek_loop v m (j + 1) (by omega) (fun x hx hxj => by
          by_cases hxe : x = (j : Int)
          · subst hxe; exact hv
          · exact hI x hx (by omega))
        have hs : ∀ k, potsherdref3_seek.l0 (k + 1) l0 l1 v ((min l0.length l1.length : Nat) : Int) (j : Int) = potsherdref3_seek.l0 k l0 l1 v ((min l0.length l1.length : Nat) : Int) ((j + 1 : Nat) : Int) := fun k => by
          simp only [potsherdref3_seek.l0]
          rw [if_pos (by omega), if_pos (by omega), if_pos (by omega), hb, if_pos rfl, if_pos (by omega), if_neg hv, w64 (by omega) (by omega)]
          rfl
        exact ⟨fun x hx => Ev.step hs (i1 x hx), fun h => Ev.step hs (i2 h)⟩
theorem seek_first (v x : Int) (hx : IsFirst l0 l1 v x) : Ev (fun k => potsherdref3_seek.f k l0 l1 v) x :=
  Ev.congr (fun k => by unfold potsherdref3_seek.f; rw [mn_len l0 l1 h0 h1]; rfl) ((seek_loop l0 l1 h0 h1 v (min l0.length l1.length) 0 (by omega) (fun x hx h => by have := (mem_places l0 l1 x).1 hx; omega)).1 x hx)
theorem seek_none (v : Int) (hx : ∀ x ∈ places l0 l1, rd l0 x ≠ v) : Ev (fun k => potsherdref3_seek.f k l0 l1 v) (-1) :=
  Ev.congr (fun k => by unfold potsherdref3_seek.f; rw [mn_len l0 l1 h0 h1]; rfl) ((seek_loop l0 l1 h0 h1 v (min l0.length l1.length) 0 (by omega) (fun x hx h => by have := (mem_places l0 l1 x).1 hx; omega)).2 hx)
end
end Go.Proofs.Ytdjcmefnnhfhpaa.Pure2
