import Derived.Test.YtdjcmefnnhfhpaaG3
import Derived.Test.YtdjcmefnnhfhpaaAw
set_option linter.unusedVariables false
set_option linter.unusedSimpArgs false
set_option linter.unusedSectionVars false
/-! What the functions of the package wear, and the document's answer, come to, in plain words. -/
namespace Go.Proofs.Ytdjcmefnnhfhpaa.Pure1
open Go.RowKit Go.Proofs.YtdjcmefnnhfhpaaW.PrintWords Go.Proofs.YtdjcmefnnhfhpaaW.PrintLast Go.Proofs.YtdjcmefnnhfhpaaW.PrintMore Go.Proofs.Ytdjcmefnnhfhpaa.PAll Go.Proofs.Ytdjcmefnnhfhpaa.Iter

theorem w64 {n : Int} (h : -9223372036854775808 ≤ n) (h' : n ≤ 9223372036854775807) : wrap64 n = n := by unfold wrap64; omega
theorem rd_nat (v : List Int) (i : Nat) : rd v (i : Int) = v.getD i 0 := by simp [rd]

/-! ### the first of the lowest, the first of the greatest -/
theorem low_loop (v : List Int) (hl : v.length ≤ 1000000) : ∀ (m j a : Nat), j + m = v.length → a < j → (∀ i, i < j → v.getD a 0 ≤ v.getD i 0) → (∀ i, i < a → v.getD a 0 < v.getD i 0) →
    ∃ b : Nat, b < v.length ∧ Ev (fun k => least_Low_int.l0 k v (a : Int) v (v.length : Int) (j : Int)) (b : Int) ∧ (∀ i, i < v.length → v.getD b 0 ≤ v.getD i 0) ∧ (∀ i, i < b → v.getD b 0 < v.getD i 0)
  | 0, j, a, hm, ha, h1, h2 => by
    refine ⟨a, by omega, Ev.step (f := fun _ => some (a : Int)) (fun k => ?_) (Ev.now _), fun i hi => h1 i (by omega), h2⟩
    simp only [least_Low_int.l0]
    rw [if_neg (by omega)]
  | m + 1, j, a, hm, ha, h1, h2 => by
    by_cases hc : v.getD j 0 < v.getD a 0
    · obtain ⟨b, hb, he, q1, q2⟩ := low_loop v hl m (j + 1) j (by omega) (by omega) (fun i hi => by
        rcases Nat.lt_succ_iff_lt_or_eq.1 hi with h | rfl
        · have := h1 i h; omega
        · exact Int.le_refl _) (fun i hi => by have := h1 i hi; omega)
      refine ⟨b, hb, Ev.step (fun k => ?_) he, q1, q2⟩
      simp only [least_Low_int.l0]
      rw [if_pos (by omega), if_pos (by omega), if_pos (by omega), if_neg (by omega), if_pos (by omega), if_pos (by omega), rd_nat, rd_nat, if_pos hc, w64 (by omega) (by omega)]
      rfl
    · obtain ⟨b, hb, he, q1, q2⟩ := low_loop v hl m (j + 1) a (by omega) (by omega) (fun i hi => by
        rcases Nat.lt_succ_iff_lt_or_eq.1 hi with h | rfl
        · exact h1 i h
        · omega) h2
      refine ⟨b, hb, Ev.step (fun k => ?_) he, q1, q2⟩
      simp only [least_Low_int.l0]
      rw [if_pos (by omega), if_pos (by omega), if_pos (by omega), if_neg (by omega), if_pos (by omega), if_pos (by omega), rd_nat, rd_nat, if_neg hc, w64 (by omega) (by omega)]
      rfl
theorem low_ev (v : List Int) (hl : v.length ≤ 1000000) (h0 : 0 < v.length) :
    ∃ b : Nat, b < v.length ∧ Ev (fun k => least_Low_int.f k v) (b : Int) ∧ (∀ i, i < v.length → v.getD b 0 ≤ v.getD i 0) ∧ (∀ i, i < b → v.getD b 0 < v.getD i 0) := by
  obtain ⟨b, hb, he, q1, q2⟩ := low_loop v hl (v.length - 1) 1 0 (by omega) (by omega) (fun i hi => by
    have h : i = 0 := by omega
    subst h
    exact Int.le_refl _) (fun i hi => by omega)
  refine ⟨b, hb, Ev.step (fun k => ?_) he, q1, q2⟩
  simp only [least_Low_int.f, least_Low_int.l0]
  rw [if_pos (by omega), if_pos (by omega), if_pos (by omega), if_pos (by omega), w64 (by omega) (by omega)]
  rfl
theorem high_loop (v : List Int) (hl : v.length ≤ 1000000) : ∀ (m j a : Nat), j + m = v.length → a < j → (∀ i, i < j → v.getD i 0 ≤ v.getD a 0) → (∀ i, i < a → v.getD i 0 < v.getD a 0) →
    ∃ b : Nat, b < v.length ∧ Ev (fun k => least_High_int.l0 k v (a : Int) v (v.length : Int) (j : Int)) (b : Int) ∧ (∀ i, i < v.length → v.getD i 0 ≤ v.getD b 0) ∧ (∀ i, i < b → v.getD i 0 < v.getD b 0)
  | 0, j, a, hm, ha, h1, h2 => by
    refine ⟨a, by omega, Ev.step (f := fun _ => some (a : Int)) (fun k => ?_) (Ev.now _), fun i hi => h1 i (by omega), h2⟩
    simp only [least_High_int.l0]
    rw [if_neg (by omega)]
  | m + 1, j, a, hm, ha, h1, h2 => by
    by_cases hc : v.getD j 0 > v.getD a 0
    · obtain ⟨b, hb, he, q1, q2⟩ := high_loop v hl m (j + 1) j (by omega) (by omega) (fun i hi => by
        rcases Nat.lt_succ_iff_lt_or_eq.1 hi with h | rfl
        · have := h1 i h; omega
        · exact Int.le_refl _) (fun i hi => by have := h1 i hi; omega)
      refine ⟨b, hb, Ev.step (fun k => ?_) he, q1, q2⟩
      simp only [least_High_int.l0]
      rw [if_pos (by omega), if_pos (by omega), if_pos (by omega), if_neg (by omega), if_pos (by omega), if_pos (by omega), rd_nat, rd_nat, if_pos hc, w64 (by omega) (by omega)]
      rfl
    · obtain ⟨b, hb, he, q1, q2⟩ := high_loop v hl m (j + 1) a (by omega) (by omega) (fun i hi => by
        rcases Nat.lt_succ_iff_lt_or_eq.1 hi with h | rfl
        · exact h1 i h
        · omega) h2
      refine ⟨b, hb, Ev.step (fun k => ?_) he, q1, q2⟩
      simp only [least_High_int.l0]
      rw [if_pos (by omega), if_pos (by omega), if_pos (by omega), if_neg (by omega), if_pos (by omega), if_pos (by omega), rd_nat, rd_nat, if_neg hc, w64 (by omega) (by omega)]
      rfl
theorem high_ev (v : List Int) (hl : v.length ≤ 1000000) (h0 : 0 < v.length) :
    ∃ b : Nat, b < v.length ∧ Ev (fun k => least_High_int.f k v) (b : Int) ∧ (∀ i, i < v.length → v.getD i 0 ≤ v.getD b 0) ∧ (∀ i, i < b → v.getD i 0 < v.getD b 0) := by
  obtain ⟨b, hb, he, q1, q2⟩ := high_loop v hl (v.length - 1) 1 0 (by omega) (by omega) (fun i hi => by
    have h : i = 0 := by omega
    subst h
    exact Int.le_refl _) (fun i hi => by omega)
  refine ⟨b, hb, Ev.step (fun k => ?_) he, q1, q2⟩
  simp only [least_High_int.f, least_High_int.l0]
  rw [if_pos (by omega), if_pos (by omega), if_pos (by omega), if_pos (by omega), w64 (by omega) (by omega)]
  rfl

/-! ### the places that are looked at -/
theorem mem_wl : ∀ (l : List Bool) (i x : Int), x ∈ wl i l ↔ i ≤ x ∧ x < i + l.length ∧ l.getD (x - i).toNat false = true
  | [], i, x => by simp [wl]; try omega
  | b :: l, i, x => by
    have ih := mem_wl l (i + 1) x
    have hl : ((b :: l).length : Int) = (l.length : Int) + 1 := by simp
    rw [hl]
    by_cases hx : x = i
    · subst hx
      have e : (x - x).toNat = 0 := by omega
      have hn : x ∉ wl (x + 1) l := fun h => by have := (ih.1 h).1; omega
      rw [e]
      cases b
      · simp [wl, hn]
      · simp [wl]; omega
    · by_cases h0 : i + 1 ≤ x
      · have e : (x - i).toNat = (x - (i + 1)).toNat + 1 := by omega
        rw [e]
        have e2 : (b :: l).getD ((x - (i + 1)).toNat + 1) false = l.getD (x - (i + 1)).toNat false := by simp
        rw [e2]
        have hmem : x ∈ wl i (b :: l) ↔ x ∈ wl (i + 1) l := by cases b <;> simp [wl, hx]
        rw [hmem, ih]
        constructor
        · rintro ⟨p1, p2, p3⟩; exact ⟨by omega, by omega, p3⟩
        · rintro ⟨p1, p2, p3⟩; exact ⟨by omega, by omega, p3⟩
      · have hn : ¬ x ∈ wl (i + 1) l := fun h => h0 (ih.1 h).1
        have hmem : ¬ x ∈ wl i (b :: l) := by cases b <;> simp [wl, hn, hx]
        exact ⟨fun h => absurd h hmem, fun h => by omega⟩
theorem wl_sorted : ∀ (l : List Bool) (i : Int), (wl i l).Pairwise (· < ·)
  | [], i => by simp [wl]
  | b :: l, i => by
    have ih := wl_sorted l (i + 1)
    unfold wl
    split
    · refine List.pairwise_cons.2 ⟨fun x hx => ?_, ih⟩
      have := (mem_wl l (i + 1) x).1 hx
      omega
    · exact ih
theorem mem_places (l0 : List Int) (l1 : List Bool) (x : Int) : x ∈ places l0 l1 ↔ 0 ≤ x ∧ x < l0.length ∧ x < l1.length ∧ rdOf false l1 x = true := by
  unfold places
  rw [mem_wl, List.length_take, Int.sub_zero]
  constructor
  · rintro ⟨h1, h2, h3⟩
    have hx : x.toNat < min l1.length l0.length := by omega
    refine ⟨h1, by omega, by omega, ?_⟩
    rw [List.getD_eq_getElem?_getD, List.getElem?_take_of_lt hx, ← List.getD_eq_getElem?_getD] at h3
    exact h3
  · rintro ⟨h1, h2, h3, h4⟩
    have hx : x.toNat < min l1.length l0.length := by omega
    refine ⟨h1, by omega, ?_⟩
    rw [List.getD_eq_getElem?_getD, List.getElem?_take_of_lt hx, ← List.getD_eq_getElem?_getD]
    exact h4
theorem places_sorted (l0 : List Int) (l1 : List Bool) : (places l0 l1).Pairwise (· < ·) := wl_sorted _ _
theorem places_len (l0 : List Int) (l1 : List Bool) : (places l0 l1).length ≤ l0.length := by
  unfold places
  have := wl_length_le (l1.take (min l1.length l0.length)) 0
  rw [List.length_take] at this
  omega
theorem looked_eq (l0 : List Int) (l1 : List Bool) (h0 : l0.length ≤ 1000000) (h1 : l1.length ≤ 1000000) (k : Nat) : wear_looked.f k l0 l1 = some (places l0 l1, (places l0 l1).map (rd l0)) := by
  unfold wear_looked.f
  rw [if_pos ⟨h0, h1⟩]

/-- The lowest, the greatest of the counts that are looked at; the first place of one. -/
def IsLo (l0 : List Int) (l1 : List Bool) (m : Int) : Prop := (∃ x ∈ places l0 l1, rd l0 x = m) ∧ ∀ x ∈ places l0 l1, m ≤ rd l0 x
def IsHi (l0 : List Int) (l1 : List Bool) (m : Int) : Prop := (∃ x ∈ places l0 l1, rd l0 x = m) ∧ ∀ x ∈ places l0 l1, rd l0 x ≤ m
def IsFirst (l0 : List Int) (l1 : List Bool) (m x : Int) : Prop := x ∈ places l0 l1 ∧ rd l0 x = m ∧ ∀ y ∈ places l0 l1, rd l0 y = m → x ≤ y
theorem IsLo.unique {l0 : List Int} {l1 : List Bool} {m n : Int} (h : IsLo l0 l1 m) (h' : IsLo l0 l1 n) : m = n := by
  obtain ⟨⟨x, hx, e⟩, h1⟩ := h
  obtain ⟨⟨y, hy, e'⟩, h2⟩ := h'
  have := h1 y hy
  have := h2 x hx
  omega
theorem IsHi.unique {l0 : List Int} {l1 : List Bool} {m n : Int} (h : IsHi l0 l1 m) (h' : IsHi l0 l1 n) : m = n := by
  obtain ⟨⟨x, hx, e⟩, h1⟩ := h
  obtain ⟨⟨y, hy, e'⟩, h2⟩ := h'
  have := h1 y hy
  have := h2 x hx
  omega
theorem IsFirst.unique {l0 : List Int} {l1 : List Bool} {m x y : Int} (h : IsFirst l0 l1 m x) (h' : IsFirst l0 l1 m y) : x = y := by
  have := h.2.2 y h'.1 h'.2.1
  have := h'.2.2 x h.1 h.2.1
  omega
theorem IsLo.le {l0 : List Int} {l1 : List Bool} {m n : Int} (h : IsLo l0 l1 m) (h' : IsHi l0 l1 n) : m ≤ n := by
  obtain ⟨⟨x, hx, e⟩, h1⟩ := h
  have := h'.2 x hx
  omega

section
variable (l0 : List Int) (l1 : List Bool) (h0 : l0.length ≤ 1000000) (h1 : l1.length ≤ 1000000)
include h0 h1
theorem v_get (i : Nat) (hi : i < (places l0 l1).length) : ((places l0 l1).map (rd l0)).getD i 0 = rd l0 ((places l0 l1)[i]'hi) := by
  rw [List.getD_eq_getElem?_getD, List.getElem?_map, List.getElem?_eq_getElem hi]; rfl
/-- What wear's own functions come to, where some are looked at. -/
theorem wear_some (hp : places l0 l1 ≠ []) : ∃ lo hi a b, IsLo l0 l1 lo ∧ IsHi l0 l1 hi ∧ IsFirst l0 l1 lo a ∧ IsFirst l0 l1 hi b ∧
    Ev (fun k => wear_Ends.f k l0 l1) (lo, hi) ∧ Ev (fun k => wear_Coldest.f k l0 l1) a ∧ Ev (fun k => wear_Hottest.f k l0 l1) b := by
  have hpl : 0 < (places l0 l1).length := List.length_pos_iff.2 hp
  have hlen := places_len l0 l1
  have hvl : ((places l0 l1).map (rd l0)).length = (places l0 l1).length := List.length_map _
  obtain ⟨a, ha, ea, a1, a2⟩ := low_ev ((places l0 l1).map (rd l0)) (by omega) (by omega)
  obtain ⟨b, hb, eb, b1, b2⟩ := high_ev ((places l0 l1).map (rd l0)) (by omega) (by omega)
  rw [hvl] at ha hb a1 b1
  have sorted : ∀ i j, (hi : i < (places l0 l1).length) → (hj : j < (places l0 l1).length) → i < j → (places l0 l1)[i]'hi < (places l0 l1)[j]'hj := fun i j hi hj hij => List.pairwise_iff_getElem.1 (places_sorted l0 l1) i j hi hj hij
  have ga := v_get l0 l1 h0 h1 a ha
  have gb := v_get l0 l1 h0 h1 b hb
  refine ⟨rd l0 ((places l0 l1)[a]'ha), rd l0 ((places l0 l1)[b]'hb), (places l0 l1)[a]'ha, (places l0 l1)[b]'hb, ⟨⟨_, List.getElem_mem ha, rfl⟩, fun x hx => ?_⟩, ⟨⟨_, List.getElem_mem hb, rfl⟩, fun x hx => ?_⟩, ⟨List.getElem_mem ha, rfl, fun y hy e => ?_⟩, ⟨List.getElem_mem hb, rfl, fun y hy e => ?_⟩, ?_, ?_, ?_⟩
  · obtain ⟨i, hi, rfl⟩ := List.getElem_of_mem hx
    have := a1 i hi
    rw [ga, v_get l0 l1 h0 h1 i hi] at this
    exact this
  · obtain ⟨i, hi, rfl⟩ := List.getElem_of_mem hx
    have := b1 i hi
    rw [gb, v_get l0 l1 h0 h1 i hi] at this
    exact this
  · obtain ⟨i, hi, rfl⟩ := List.getElem_of_mem hy
    rcases Nat.lt_trichotomy i a with h | rfl | h
    · have := a2 i h
      rw [ga, v_get l0 l1 h0 h1 i hi] at this
      omega
    · exact Int.le_refl _
    · exact Int.le_of_lt (sorted a i ha hi h)
  · obtain ⟨i, hi, rfl⟩ := List.getElem_of_mem hy
    rcases Nat.lt_trichotomy i b with h | rfl | h
    · have := b2 i h
      rw [gb, v_get l0 l1 h0 h1 i hi] at this
      omega
    · exact Int.le_refl _
    · exact Int.le_of_lt (sorted b i hb hi h)
  · refine Ev.congr (fun k => by unfold wear_Ends.f; rw [looked_eq l0 l1 h0 h1]; simp only [Option.bind_some]; rw [hvl, if_neg (by omega)]) (Ev.bind ea ?_)
    refine Ev.congr (fun k => by rw [if_pos (by omega), if_pos (by omega)]) (Ev.bind eb ?_)
    refine Ev.congr (fun k => by rw [if_pos (by omega), if_pos (by omega), rd_nat, rd_nat, ga, gb]) (Ev.now _)
  · refine Ev.congr (fun k => by unfold wear_Coldest.f; rw [looked_eq l0 l1 h0 h1]; simp only [Option.bind_some]; rw [hvl, if_neg (by omega)]) (Ev.bind ea ?_)
    refine Ev.congr (fun k => by rw [if_pos (by omega), if_pos (by omega), rd_nat, List.getD_eq_getElem?_getD, List.getElem?_eq_getElem ha, Option.getD_some]) (Ev.now _)
  · refine Ev.congr (fun k => by unfold wear_Hottest.f; rw [looked_eq l0 l1 h0 h1]; simp only [Option.bind_some]; rw [hvl, if_neg (by omega)]) (Ev.bind eb ?_)
    refine Ev.congr (fun k => by rw [if_pos (by omega), if_pos (by omega), rd_nat, List.getD_eq_getElem?_getD, List.getElem?_eq_getElem hb, Option.getD_some]) (Ev.now _)
theorem wear_none (hp : places l0 l1 = []) : Ev (fun k => wear_Ends.f k l0 l1) (0, 0) ∧ Ev (fun k => wear_Coldest.f k l0 l1) (-1) ∧ Ev (fun k => wear_Hottest.f k l0 l1) (-1) := by
  refine ⟨?_, ?_, ?_⟩
  · exact Ev.congr (fun k => by unfold wear_Ends.f; rw [looked_eq l0 l1 h0 h1, hp]; rfl) (Ev.now _)
  · exact Ev.congr (fun k => by unfold wear_Coldest.f; rw [looked_eq l0 l1 h0 h1, hp]; rfl) (Ev.now _)
  · exact Ev.congr (fun k => by unfold wear_Hottest.f; rw [looked_eq l0 l1 h0 h1, hp]; rfl) (Ev.now _)
end
end Go.Proofs.Ytdjcmefnnhfhpaa.Pure1
