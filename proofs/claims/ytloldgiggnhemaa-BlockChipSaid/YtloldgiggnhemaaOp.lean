import Derived.Test.YtloldgiggnhemaaWw
set_option linter.unusedVariables false
set_option linter.unusedSimpArgs false
/-! ChipOrder, plainly. -/
namespace Go.Proofs.Ytloldgiggnhemaa.Cm
open Go.RowKit Go.Proofs.YtloldgiggnhemaaW.PrintWords Go.Proofs.YtloldgiggnhemaaW.PrintLast Go.Proofs.YtloldgiggnhemaaW.PrintMore Go.Proofs.Ytloldgiggnhemaa.Kp Go.Proofs.Ytloldgiggnhemaa.Cp

/-- A chip of one block of pg pages of which nx are programmed, k programs at most done. -/
structure OQ (s : Chp) (pg nx k : Nat) : Prop where
  blk : ∃ B, s.blocks = [B] ∧ B.bad = false ∧ B.next = nx ∧ ∀ xs ∈ B.pages, xs.length ≤ 100000
  pages : s.pages = pg
  down : s.down = false
  cut : s.cut = -1
  fail : s.fail = -1
  worn : s.worn = -1
  b0 : 0 ≤ s.bp
  b1 : s.bp ≤ k
theorem dec_never : dec (-1) = -1 := by kernel_rfl
theorem set_mem {l : List (List Int)} {j : Nat} {a : List Int} {n : Nat} (ha : a.length ≤ n) (h : ∀ xs ∈ l, xs.length ≤ n) : ∀ xs ∈ l.set j a, xs.length ≤ n := fun xs hx => by
  rcases List.mem_or_eq_of_mem_set hx with h1 | h1
  · exact h xs h1
  · rw [h1]; exact ha
theorem clr_mem {n : Nat} : ∀ (k o : Nat) (l : List (List Int)), (∀ xs ∈ l, xs.length ≤ n) → ∀ xs ∈ clr o k l, xs.length ≤ n
  | 0, _, _, h => h
  | k + 1, o, l, h => clr_mem k (o + 1) _ (set_mem (by simp) h)
theorem o_new (p : Nat) : OQ (newS 1 p []) p 0 0 := by
  refine ⟨⟨⟨false, 0, 0, List.replicate p []⟩, rfl, rfl, rfl, fun xs hx => ?_⟩, rfl, rfl, rfl, rfl, rfl, Int.le_refl _, Int.le_refl _⟩
  rw [List.eq_of_mem_replicate hx]
  exact Nat.zero_le _
theorem has_one {s : Chp} {B : Blk} (h : s.blocks = [B]) : hasB s 0 = true := by
  unfold hasB
  rw [h]
  rfl
theorem o_spot {s : Chp} {pg nx k p : Nat} (h : OQ s pg nx k) : spotB s 0 (p : Int) = decide (p < pg) := by
  obtain ⟨B, hB, -⟩ := h.blk
  unfold spotB
  rw [has_one hB, h.pages]
  by_cases hp : p < pg
  · rw [decide_eq_true hp, decide_eq_true (show (0 : Int) ≤ p by omega), decide_eq_true (show (p : Int) < pg by omega)]
    rfl
  · rw [decide_eq_false hp, decide_eq_false (show ¬ (p : Int) < pg by omega)]
    simp
theorem o_arg {s : Chp} {pg nx k p : Nat} (h : OQ s pg nx k) (hp : pg ≤ p) (b : List Int) : progS s 0 (p : Int) b = (s, 1) := by
  unfold progS
  rw [o_spot h, decide_eq_false (by omega), if_neg (by simp)]
theorem o_ord {s : Chp} {pg nx k p : Nat} (h : OQ s pg nx k) (hp : p < pg) (hn : p ≠ nx) {b : List Int} (h1 : 1 ≤ b.length) (h2 : b.length ≤ 2000) : progS s 0 (p : Int) b = (s, 4) := by
  obtain ⟨B, hB, hbad, hnx, -⟩ := h.blk
  rw [progS_L _ _ _ h1 h2]
  unfold progL
  rw [o_spot h, decide_eq_true hp, if_pos rfl, h.down, if_neg (by decide), hB]
  show (if B.bad = true then (s, 3) else if (p : Int) ≠ B.next then (s, 4) else _) = _
  rw [hbad, if_neg (by decide), hnx, if_pos (by omega)]
theorem o_ok {s : Chp} {pg nx k : Nat} (h : OQ s pg nx k) (hp : nx < pg) (hpg : pg ≤ 100) (hk : k ≤ 1000) {b : List Int} (h1 : 1 ≤ b.length) (h2 : b.length ≤ 2000) :
    (progS s 0 (nx : Int) b).2 = 0 ∧ (progS s 0 (nx : Int) b).1.bp = s.bp + 1 ∧ OQ (progS s 0 (nx : Int) b).1 pg (nx + 1) (k + 1) := by
  obtain ⟨B, hB, hbad, hnx, hlen⟩ := h.blk
  have hb0 := h.b0
  have hb1 := h.b1
  have e : progS s 0 (nx : Int) b = ((bump s 0).mod 0 (pageB nx b), 0) := by
    rw [progS_L _ _ _ h1 h2]
    unfold progL
    rw [o_spot h, decide_eq_true hp, if_pos rfl, h.down, if_neg (by decide), hB]
    show (if B.bad = true then (s, 3) else if (nx : Int) ≠ B.next then (s, 4) else _) = _
    rw [hbad, if_neg (by decide), hnx, if_neg (by simp), h.cut, if_neg (by decide), h.fail, if_neg (by decide)]
    rfl
  rw [e]
  have ew : wrap64 (s.bp + 1) = s.bp + 1 := wrap_small _ (by omega) (by omega)
  refine ⟨rfl, ew, ⟨pageB nx b (nextB B), ?_, hbad, ?_, set_mem (by omega) hlen⟩, h.pages, h.down, ?_, ?_, h.worn, ?_, ?_⟩
  · show (s.blocks.modify 0 nextB).modify 0 (pageB nx b) = _
    rw [hB]
    rfl
  · show wrap64 (B.next + 1) = _
    rw [hnx]
    exact wrap_small _ (by omega) (by omega)
  · show dec s.cut = -1
    rw [h.cut, dec_never]
  · show dec s.fail = -1
    rw [h.fail, dec_never]
  · show 0 ≤ wrap64 (s.bp + 1)
    omega
  · show wrap64 (s.bp + 1) ≤ _
    omega
theorem o_er {s : Chp} {pg nx k : Nat} (h : OQ s pg nx k) : (eraseS s 0).2 = 0 ∧ OQ (eraseS s 0).1 pg 0 k := by
  obtain ⟨B, hB, hbad, hnx, hlen⟩ := h.blk
  have e : eraseS s 0 = (((ebump s 0).mod 0 (clrB s.pages.toNat)).mod 0 (setN 0), 0) := by
    unfold eraseS
    rw [has_one hB, if_pos rfl, h.down, if_neg (by decide), hB]
    show (if B.bad = true then (s, 3) else erS s 0) = _
    rw [hbad, if_neg (by decide)]
    unfold erS
    rw [h.cut, if_neg (by decide), h.worn, if_neg (by decide)]
  rw [e]
  refine ⟨rfl, ⟨setN 0 (clrB s.pages.toNat (countB B)), ?_, hbad, rfl, clr_mem _ _ _ hlen⟩, h.pages, h.down, ?_, h.fail, ?_, h.b0, h.b1⟩
  · show ((s.blocks.modify 0 countB).modify 0 (clrB s.pages.toNat)).modify 0 (setN 0) = _
    rw [hB]
    rfl
  · show dec s.cut = -1
    rw [h.cut, dec_never]
  · show dec s.worn = -1
    rw [h.worn, dec_never]
theorem o_blk {s : Chp} {pg nx k : Nat} (h : OQ s pg nx k) : (blockB s 0).next = nx ∧ ∀ xs ∈ (blockB s 0).pages, xs.length ≤ 100000 := by
  obtain ⟨B, hB, hbad, hnx, hlen⟩ := h.blk
  have e : blockB s 0 = B := by
    unfold blockB
    rw [has_one hB, if_pos rfl, hB]
    rfl
  rw [e]
  exact ⟨hnx, hlen⟩
theorem OQ.up {s : Chp} {pg nx k j : Nat} (h : OQ s pg nx k) (hj : k ≤ j) : OQ s pg nx j := { h with b1 := by have := h.b1; omega }
end Go.Proofs.Ytloldgiggnhemaa.Cm
