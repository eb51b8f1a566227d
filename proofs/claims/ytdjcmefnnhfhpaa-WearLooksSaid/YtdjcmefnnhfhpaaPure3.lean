import Derived.Test.YtdjcmefnnhfhpaaPure2
set_option linter.unusedVariables false
set_option linter.unusedSimpArgs false
set_option linter.unusedSectionVars false
/-! wear and the document's answer: Apart, Coldest, Hottest, Due alike. -/
namespace Go.Proofs.Ytdjcmefnnhfhpaa.Pure3
open Go.RowKit Go.Proofs.YtdjcmefnnhfhpaaW.PrintWords Go.Proofs.YtdjcmefnnhfhpaaW.PrintLast Go.Proofs.YtdjcmefnnhfhpaaW.PrintMore Go.Proofs.Ytdjcmefnnhfhpaa.PAll Go.Proofs.Ytdjcmefnnhfhpaa.Iter Go.Proofs.Ytdjcmefnnhfhpaa.Pure1 Go.Proofs.Ytdjcmefnnhfhpaa.Pure2

def Fits (x : Int) : Prop := -9223372036854775808 ≤ x ∧ x ≤ 9223372036854775807
theorem fits_rd {l : List Int} (h : ∀ x ∈ l, Fits x) (i : Int) (h0 : 0 ≤ i) (h1 : i < l.length) : Fits (rd l i) := by
  have : i.toNat < l.length := by omega
  unfold rd
  rw [List.getD_eq_getElem?_getD, List.getElem?_eq_getElem this]
  exact h _ (List.getElem_mem this)
/-- How far apart two counts are, as the program tells it. -/
def lessV (a b : Int) : Int := if wrap64 (a - b) < 0 then 9223372036854775807 else wrap64 (a - b)
theorem less_eq (a b : Int) : wear_less.f a b = some (lessV a b) := by
  unfold wear_less.f lessV
  split <;> rfl

/-- All that is told of one row of counts. -/
structure Tells (l0 : List Int) (l1 : List Bool) (lo hi ap c h : Int) : Prop where
  e1 : Ev (fun k => wear_Ends.f k l0 l1) (lo, hi)
  e2 : Ev (fun k => potsherdref3_Ends.f k l0 l1) (lo, hi)
  a1 : Ev (fun k => wear_Apart.f k l0 l1) ap
  a2 : Ev (fun k => potsherdref3_Apart.f k l0 l1) ap
  c1 : Ev (fun k => wear_Coldest.f k l0 l1) c
  c2 : Ev (fun k => potsherdref3_Coldest.f k l0 l1) c
  h1 : Ev (fun k => wear_Hottest.f k l0 l1) h
  h2 : Ev (fun k => potsherdref3_Hottest.f k l0 l1) h
  apart : ap = lessV hi lo
  what : (places l0 l1 = [] ∧ c = -1 ∧ h = -1 ∧ lo = 0 ∧ hi = 0) ∨ (places l0 l1 ≠ [] ∧ IsLo l0 l1 lo ∧ IsHi l0 l1 hi ∧ IsFirst l0 l1 lo c ∧ IsFirst l0 l1 hi h)
theorem ref_apart {l0 : List Int} {l1 : List Bool} {lo hi : Int} (he : Ev (fun k => potsherdref3_Ends.f k l0 l1) (lo, hi)) (hle : lo ≤ hi) (hl : Fits lo) (hh : Fits hi) : Ev (fun k => potsherdref3_Apart.f k l0 l1) (lessV hi lo) := by
  unfold Fits at hl hh
  refine Ev.congr (fun k => by unfold potsherdref3_Apart.f; rfl) (Ev.bind he ?_)
  refine Ev.congr (f := fun _ => some (lessV hi lo)) (fun k => ?_) (Ev.now _)
  show (if lo < 0 then (if hi ≥ 0 then (if wrap64 (hi - lo) < 0 then some 9223372036854775807 else some (wrap64 (hi - lo))) else some (wrap64 (hi - lo))) else some (wrap64 (hi - lo))) = some (lessV hi lo)
  unfold lessV
  by_cases h1 : wrap64 (hi - lo) < 0
  · have h2 : lo < 0 ∧ hi ≥ 0 := by unfold wrap64 at h1; omega
    rw [if_pos h2.1, if_pos h2.2, if_pos h1, if_pos h1]
  · rw [if_neg h1, if_neg h1]
    repeat' split
    all_goals rfl
theorem tells (l0 : List Int) (l1 : List Bool) (h0 : l0.length ≤ 1000000) (h1 : l1.length ≤ 1000000) (hw : ∀ x ∈ l0, Fits x) : ∃ lo hi ap c h, Tells l0 l1 lo hi ap c h := by
  by_cases hp : places l0 l1 = []
  · obtain ⟨w1, w2, w3⟩ := wear_none l0 l1 h0 h1 hp
    have hr : Ev (fun k => potsherdref3_Ends.f k l0 l1) (0, 0) := by
      rcases ref_ends l0 l1 h0 h1 with ⟨_, h⟩ | ⟨lo, hi, hlo, _, _⟩
      · exact h
      · obtain ⟨⟨x, hx, _⟩, _⟩ := hlo
        rw [hp] at hx; cases hx
    have hs := seek_none l0 l1 h0 h1 0 (fun x hx => by rw [hp] at hx; cases hx)
    refine ⟨0, 0, lessV 0 0, -1, -1, w1, hr, ?_, ref_apart hr (Int.le_refl _) ⟨by omega, by omega⟩ ⟨by omega, by omega⟩, w2, ?_, w3, ?_, rfl, .inl ⟨hp, rfl, rfl, rfl, rfl⟩⟩
    · exact Ev.congr (fun k => by unfold wear_Apart.f; rfl) (Ev.bind w1 (Ev.congr (fun k => by simp only [less_eq, Option.bind_some]) (Ev.now _)))
    · exact Ev.congr (fun k => by unfold potsherdref3_Coldest.f; rfl) (Ev.bind hr (Ev.bind hs (Ev.now _)))
    · exact Ev.congr (fun k => by unfold potsherdref3_Hottest.f; rfl) (Ev.bind hr (Ev.bind hs (Ev.now _)))
  · obtain ⟨lo, hi, c, h, hlo, hhi, hc, hh, w1, w2, w3⟩ := wear_some l0 l1 h0 h1 hp
    have hr : Ev (fun k => potsherdref3_Ends.f k l0 l1) (lo, hi) := by
      rcases ref_ends l0 l1 h0 h1 with ⟨h, _⟩ | ⟨lo', hi', hlo', hhi', he⟩
      · exact absurd h hp
      · rw [hlo.unique hlo', hhi.unique hhi']; exact he
    have fl : Fits lo := by
      obtain ⟨⟨x, hx, e⟩, _⟩ := hlo
      have := (mem_places l0 l1 x).1 hx
      rw [← e]; exact fits_rd hw x (by omega) (by omega)
    have fh : Fits hi := by
      obtain ⟨⟨x, hx, e⟩, _⟩ := hhi
      have := (mem_places l0 l1 x).1 hx
      rw [← e]; exact fits_rd hw x (by omega) (by omega)
    refine ⟨lo, hi, lessV hi lo, c, h, w1, hr, ?_, ref_apart hr (hlo.le hhi) fl fh, w2, ?_, w3, ?_, rfl, .inr ⟨hp, hlo, hhi, hc, hh⟩⟩
    · exact Ev.congr (fun k => by unfold wear_Apart.f; rfl) (Ev.bind w1 (Ev.congr (fun k => by simp only [less_eq, Option.bind_some]) (Ev.now _)))
    · exact Ev.congr (fun k => by unfold potsherdref3_Coldest.f; rfl) (Ev.bind hr (Ev.bind (seek_first l0 l1 h0 h1 lo c hc) (Ev.now _)))
    · exact Ev.congr (fun k => by unfold potsherdref3_Hottest.f; rfl) (Ev.bind hr (Ev.bind (seek_first l0 l1 h0 h1 hi h hh) (Ev.now _)))
theorem Tells.due {l0 : List Int} {l1 : List Bool} {lo hi ap c h : Int} (t : Tells l0 l1 lo hi ap c h) (most : Int) : Ev (fun k => wear_Due.f k l0 l1 most) (if ap ≤ most then -1 else c) := by
  refine Ev.congr (fun k => by unfold wear_Due.f; rfl) (Ev.bind t.a1 ?_)
  by_cases hm : ap ≤ most
  · simp only [if_pos hm]; exact Ev.now _
  · simp only [if_neg hm]; exact Ev.bind t.c1 (Ev.now _)
theorem Tells.refDue {l0 : List Int} {l1 : List Bool} {lo hi ap c h : Int} (t : Tells l0 l1 lo hi ap c h) (most : Int) : Ev (fun k => potsherdref3_Due.f k l0 l1 most) (if ap ≤ most then -1 else c) := by
  refine Ev.congr (fun k => by unfold potsherdref3_Due.f; rfl) (Ev.bind t.a2 ?_)
  by_cases hm : ap ≤ most
  · simp only [if_pos hm]; exact Ev.now _
  · simp only [if_neg hm]; exact Ev.bind t.c2 (Ev.now _)
end Go.Proofs.Ytdjcmefnnhfhpaa.Pure3
