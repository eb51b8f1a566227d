import Derived.Test.YtkncmbbkehnagaaZb8
import Derived.Maps.RangeWalk
set_option linter.unusedVariables false
set_option linter.unusedSimpArgs false
/-! A table of places: New, Cut, Put, Len. -/
namespace Go.Proofs.Ytkncmbbkehnagaa.Cm
open Go.RowKit Go.Maps Go.Proofs.YtkncmbbkehnagaaW.PrintWords Go.Proofs.YtkncmbbkehnagaaW.PrintLast Go.Proofs.YtkncmbbkehnagaaW.PrintMore Go.Proofs.Ytkncmbbkehnagaa.Kp Go.Proofs.Ytkncmbbkehnagaa.Cp Go.Proofs.Ytkncmbbkehnagaa.PAll Go.Proofs.Ytkncmbbkehnagaa.Iter Go.Proofs.Ytkncmbbkehnagaa.St Go.Proofs.Ytkncmbbkehnagaa.Sp
attribute [local go_sem] max2_int min2_int max_two min_two max_three min_three max_four min_four

theorem zeroR2 (w : World) : (zeroValue 31).run Try.prog w = .ok (enc2 (0, 0)) w := by kernel_rfl
theorem zeroS2 (w : World) : (zeroValue 40).run Try.prog w = .ok (enc2 (0, 0)) w := by kernel_rfl
def sw (L : List (Rf × Rf)) : List (Rf × Rf) := L.map (fun x => (x.2, x.1))
/-- A table: block n: what stands where; n + 1: what stands there; n + 2: the two. -/
structure Tb (W : World) (n : Nat) (L : List (Rf × Rf)) : Prop where
  box : W.heap[n + 2]? = some (.cells #[.map (some n), .map (some (n + 1))] 135 (0, 0))
  sp : MapAt W n L
  rf : MapAt W (n + 1) (sw L)
theorem Tb.keep {W W1 : World} {n : Nat} {L : List (Rf × Rf)} (h : Tb W n L) (h0 : W1.heap[n]? = W.heap[n]?) (h1 : W1.heap[n + 1]? = W.heap[n + 1]?) (h2 : W1.heap[n + 2]? = W.heap[n + 2]?) : Tb W1 n L :=
  ⟨h2.trans h.box, h.sp.keep h0, h.rf.keep h1⟩
theorem Tb.lt {W : World} {n : Nat} {L : List (Rf × Rf)} (h : Tb W n L) : n + 2 < W.heap.size := blk_lt h.box
theorem Tb.below {W W1 : World} {n : Nat} {L : List (Rf × Rf)} (h : Tb W n L) (hb : Below W.heap.size W W1) : Tb W1 n L :=
  h.keep (hb.block _ (by have := h.lt; omega)) (hb.block _ (by have := h.lt; omega)) (hb.block _ h.lt)
set_option maxHeartbeats 2000000 in
set_option maxRecDepth 100000 in
theorem pnew (w : World) : Calls Try.prog 59 #[] w fun e w' => e = .returned (.pointer (some ⟨w.heap.size + 2, 0, none⟩)) ∧ Tb w' w.heap.size [] ∧ Below w.heap.size w w' := by
  have hmm := @run_makeMap Try.prog
  go_enter Try.func59, Try.ntmps59
  go_wp2_with fail
  go_ret
  have h0 := MapAt.made w
  have h1 := MapAt.made (w.alloc (.map #[] 0))
  have h2 := blk_new ((w.alloc (.map #[] 0)).alloc (.map #[] 0)) (.cells #[.map (some w.heap.size), .map (some (w.heap.size + 1))] 135)
  have e1 : (w.alloc (.map #[] 0)).heap.size = w.heap.size + 1 := by simp
  have e2 : ((w.alloc (.map #[] 0)).alloc (.map #[] 0)).heap.size = w.heap.size + 2 := by simp
  rw [e2] at h2
  rw [e1] at h1
  exact ⟨rfl, ⟨h2, (h0.below (below_alloc (Below.refl _ _) _)).below (below_alloc (Below.refl _ _) _), h1.below (below_alloc (Below.refl _ _) _)⟩, below_alloc (below_alloc (below_alloc (Below.refl _ _) _) _) _⟩
set_option maxHeartbeats 2000000 in
set_option maxRecDepth 100000 in
theorem plen {w : World} {n : Nat} {L : List (Rf × Rf)} (h : Tb w n L) : Calls Try.prog 61 #[.pointer (some ⟨n + 2, 0, none⟩)] w fun e w' => e = .returned (.int .i64 (L.length : Int)) ∧ w' = w := by
  have hl := fun ty => MapAt.len Try.underlying133 h.rf ty
  have e : (sw L).length = L.length := by simp [sw]
  rw [e] at hl
  have c1 : w.cell? ⟨n + 2, 1, none⟩ = some (.map (some (n + 1))) := (blk_cell h.box 1).trans rfl
  obtain ⟨k, hk⟩ : ∃ k, n + 2 = k := ⟨_, rfl⟩
  rw [hk] at c1 ⊢
  clear h e hk
  go_enter Try.func61, Try.ntmps61
  go_wp2_with fail
  go_ret
  exact ⟨rfl, rfl⟩
theorem cutHeld {W W1 : World} {n k3 : Nat} {L : List (Rf × Rf)} {r : Rf} (h : Tb W n L) (hr : Wf2 r) (hx : W.heap[k3]? = some (.cells #[.int .i64 r.1, .int .i64 r.2] 31 (0, 0))) (hb : Below W.heap.size W W1) :
    W1.cell? ⟨n + 2, 0, none⟩ = some (.map (some n)) ∧ (W1.cell? ⟨k3, 0, none⟩ = some (.int .i64 r.1) ∧ W1.cell? ⟨k3, 1, none⟩ = some (.int .i64 r.2)) ∧ (Instr.lookup 132 (.map (some n)) (.agg #[.int .i64 r.1, .int .i64 r.2]) true).run Try.prog W1 = .ok (.tuple #[.agg #[.int .i64 (getL L r).1, .int .i64 (getL L r).2], .bool (hasL L r)]) W1 :=
  ⟨(blk_cell (h.below hb).box 0).trans rfl, two (blk_below hx hb), (h.below hb).sp.look lawR keyR Try.underlying132 zeroS2 r hr⟩
theorem hasL_mem {L : List (Rf × Rf)} {a : Rf} (h : hasL L a = true) : (a, getL L a) ∈ L := by
  unfold hasL at h
  unfold getL
  cases hf : L.find? (fun x => rfB a x.1) with
  | none =>
    obtain ⟨x, hx, hx2⟩ := List.any_eq_true.1 h
    exact absurd hx2 (List.find?_eq_none.1 hf x hx)
  | some y =>
    have h1 := List.mem_of_find?_eq_some hf
    have h2 := rfB_iff.1 (List.find?_some (p := fun x : Rf × Rf => rfB a x.1) hf)
    obtain ⟨y1, y2⟩ := y
    simp only at h2
    subst h2
    exact h1
theorem apart_mem {α β : Type} {L : List (α × β)} (hp : L.Pairwise (fun x y => x.1 ≠ y.1)) {a : α} {b c : β} (h1 : (a, b) ∈ L) (h2 : (a, c) ∈ L) : b = c := by
  obtain ⟨i, hi, e1⟩ := List.getElem_of_mem h1
  obtain ⟨j, hj, e2⟩ := List.getElem_of_mem h2
  rcases Nat.lt_trichotomy i j with h | h | h
  · exact absurd (by rw [e1, e2]) (List.pairwise_iff_getElem.1 hp i j hi hj h)
  · subst h
    rw [e1] at e2
    injection e2
  · exact absurd (by rw [e1, e2]) (List.pairwise_iff_getElem.1 hp j i hj hi h)
theorem sw_filter {L : List (Rf × Rf)} (h1 : L.Pairwise (fun x y => x.1 ≠ y.1)) (h2 : (sw L).Pairwise (fun x y => x.1 ≠ y.1)) {r s : Rf} (hm : (r, s) ∈ L) : (sw L).filter (fun x => !rfB s x.1) = sw (L.filter (fun x => !rfB r x.1)) := by
  unfold sw
  rw [List.filter_map]
  congr 1
  apply List.filter_congr
  rintro ⟨a, b⟩ hx
  show (!rfB s b) = (!rfB r a)
  congr 1
  rw [Bool.eq_iff_iff, rfB_iff, rfB_iff]
  constructor
  · rintro rfl
    exact apart_mem h2 (List.mem_map.2 ⟨_, hx, rfl⟩) (List.mem_map.2 ⟨_, hm, rfl⟩)
  · rintro rfl
    exact apart_mem h1 hx hm
theorem mapHeld {W W1 : World} {k o m k3 t : Nat} {x : Rf} {cs : Array Value} {t2 : Nat} (h : W.heap[k]? = some (.cells cs t2 (0, 0))) (hc : cs[o]? = some (.map (some m))) (hx : W.heap[k3]? = some (.cells #[.int .i64 x.1, .int .i64 x.2] t (0, 0))) (hb : Below W.heap.size W W1) :
    W1.cell? ⟨k, o, none⟩ = some (.map (some m)) ∧ W1.cell? ⟨k3, 0, none⟩ = some (.int .i64 x.1) ∧ W1.cell? ⟨k3, 1, none⟩ = some (.int .i64 x.2) :=
  ⟨(blk_cell (blk_below h hb) o).trans hc, two (blk_below hx hb)⟩
def reg_pcut_3.T : Bool × List (List Nat × List Nat) := (true, [([], []), ([0], [0]), ([1], [1]), ([2], [2]), ([], []), ([3, 4], [3, 4]), ([5], [5]), ([6], [6]), ([6], [6]), ([], []), ([9, 7, 0, 1, 2, 3, 4, 5, 6, 7, 9], [7, 9]), ([8, 10, 0, 1, 2, 3, 4, 5, 6, 7, 8, 9, 10], [8])])
def reg_pcut_3.B : List Nat := [0, 1, 3, 7, 0, 31, 63, 127, 127, 0, 767, 2047]
theorem reg_pcut_3.tab : rtab .any (opsOf Try.f72 3) = reg_pcut_3.T := by kernel_rfl
theorem reg_pcut_3.bits : waitsOk reg_pcut_3.T.2 reg_pcut_3.B = true := by kernel_rfl
def reg_pcut_5.T : Bool × List (List Nat × List Nat) := (true, [([], []), ([0], [0]), ([1], [1]), ([2], [2]), ([], []), ([3, 4], [3, 4])])
def reg_pcut_5.B : List Nat := [0, 1, 3, 7, 0, 31]
theorem reg_pcut_5.tab : rtab .any (opsOf Try.f72 5) = reg_pcut_5.T := by kernel_rfl
theorem reg_pcut_5.bits : waitsOk reg_pcut_5.T.2 reg_pcut_5.B = true := by kernel_rfl
def reg_pcut_6.T : Bool × List (List Nat × List Nat) := (true, [([], []), ([0], [0]), ([1], [1]), ([2], [2]), ([], []), ([3, 4], [3, 4])])
def reg_pcut_6.B : List Nat := [0, 1, 3, 7, 0, 31]
theorem reg_pcut_6.tab : rtab .any (opsOf Try.f72 6) = reg_pcut_6.T := by kernel_rfl
theorem reg_pcut_6.bits : waitsOk reg_pcut_6.T.2 reg_pcut_6.B = true := by kernel_rfl
set_option maxHeartbeats 4000000 in
set_option maxRecDepth 100000 in
theorem pcut {w : World} {n : Nat} {L : List (Rf × Rf)} (h : Tb w n L) (r : Rf) (hr : Wf2 r) :
    Calls Try.prog 72 #[.pointer (some ⟨n + 2, 0, none⟩), .agg #[.int .i64 r.1, .int .i64 r.2]] w fun e w' => e = .returned (.bool (hasL L r)) ∧ Tb w' n (L.filter (fun x => !rfB r x.1)) ∧ Kp (fun k => k = n ∨ k = n + 1) w w' := by
  obtain ⟨w1, hw1⟩ : ∃ w1, w.alloc (.cells #[.int .i64 r.1, .int .i64 r.2] 31) = w1 := ⟨_, rfl⟩
  obtain ⟨k3, hk3⟩ : ∃ x, w.heap.size = x := ⟨_, rfl⟩
  have HB1 : Aside0 (Below w.heap.size w w1) := ⟨by rw [← hw1]; exact below_alloc (Below.refl _ _) _⟩
  have HX1 : Aside0 (w1.heap[k3]? = some (.cells #[.int .i64 r.1, .int .i64 r.2] 31 (0, 0))) := ⟨by rw [← hw1, ← hk3]; exact blk_new w _⟩
  have HT1 := Aside0.mk (h.below HB1.out)
  have HT := Aside0.mk h
  have HRW := Aside0.mk hr
  have HW1 := Aside0.mk hw1
  have HK3 := Aside0.mk hk3
  obtain ⟨q, hq⟩ : ∃ q, hasL L r = q := ⟨_, rfl⟩
  obtain ⟨s, hs⟩ : ∃ s, getL L r = s := ⟨_, rfl⟩
  have HQ := Aside0.mk (And.intro hq hs)
  rw [hq]
  clear h hr hw1 hk3 hq hs
  go_enter Try.func72, Try.ntmps72
  go_upto_region 3 with fail
  rw [HW1.out, HK3.out]
  refine start_ (n := 12) (S := fun w' => w'.cell? ⟨n + 2, 0, none⟩ = some (.map (some n)) ∧ (w'.cell? ⟨k3, 0, none⟩ = some (.int .i64 r.1) ∧ w'.cell? ⟨k3, 1, none⟩ = some (.int .i64 r.2)) ∧ (Instr.lookup 132 (.map (some n)) (.agg #[.int .i64 r.1, .int .i64 r.2]) true).run Try.prog w' = .ok (.tuple #[.agg #[.int .i64 (getL L r).1, .int .i64 (getL L r).2], .bool (hasL L r)]) w') (ds := []) #[false, false, false, false, false, false, false, false, false, false, false, false] (by kernel_rfl) rfl rfl (cutHeld HT1.out HRW.out HX1.out (below_drew (Below.refl _ _))) (fun hHeld => ?_)
  refine with_tabW reg_pcut_3.tab reg_pcut_3.bits (fun HT_ HW_ => ?_)
  obtain ⟨wd, hwd⟩ : ∃ wd, w1.drew = wd := ⟨_, rfl⟩
  have HBd : Aside0 (Below w1.heap.size w1 wd) := ⟨by rw [← hwd]; exact below_drew (Below.refl _ _)⟩
  rw [hwd] at hHeld ⊢
  clear hwd
  refine pure_ (i := 0) (N := (some 10)) (v := ?_) (a' := ?_) #[true, false, false, false, false, false, false, false, false, false, false, false] rfl rfl (any_of HT_.out (by kernel_rfl)) (fun _ _ _ h => h) (Or.inl ⟨by rfl, ?_⟩) ?_ ?_
  rotate_left
  · intro w'
    go_simp
    first | done | with_reducible rfl
  rotate_left
  · simp only [Act.put, List.setIfInBounds_toArray, List.set_cons_zero, List.set_cons_succ, i64_w, i32_w]
    rfl
  refine pure_ (i := 1) (N := (some 11)) (v := ?_) (a' := ?_) #[true, true, false, false, false, false, false, false, false, false, false, false] rfl rfl (any_of HT_.out (by kernel_rfl)) (fun _ _ _ h => h) (Or.inl ⟨by rfl, ?_⟩) ?_ ?_
  rotate_left
  · intro w'
    go_simp
    first | done | with_reducible rfl
  rotate_left
  · simp only [Act.put, List.setIfInBounds_toArray, List.set_cons_zero, List.set_cons_succ, i64_w, i32_w]
    rfl
  refine pure_ (i := 2) (N := (some 12)) (v := ?_) (a' := ?_) #[true, true, true, false, false, false, false, false, false, false, false, false] rfl rfl (any_of HT_.out (by kernel_rfl)) (fun _ _ _ h => h) (Or.inl ⟨by rfl, ?_⟩) ?_ ?_
  rotate_left
  · intro w'
    go_simp
    first | done | with_reducible rfl
  rotate_left
  · simp only [Act.put, List.setIfInBounds_toArray, List.set_cons_zero, List.set_cons_succ, i64_w, i32_w]
    rfl
  refine take_ (i := 3) (N := (some 13)) (v := ?_) (a' := ?_) #[true, true, true, true, false, false, false, false, false, false, false, false] rfl rfl (take_ofW HT_.out HW_.out (by kernel_rfl)) (fun _ _ _ h => h) (Or.inl ⟨by rfl, ?_⟩) hHeld ?_ ?_
  rotate_left
  · rintro w' ⟨s0, ⟨s1, s2⟩, s3⟩
    go_simp
    first | done | with_reducible rfl
  rotate_left
  · simp only [Act.put, List.setIfInBounds_toArray, List.set_cons_zero, List.set_cons_succ, i64_w, i32_w]
    rfl
  refine take_ (i := 4) (N := (some 14)) (v := ?_) (a' := ?_) #[true, true, true, true, true, false, false, false, false, false, false, false] rfl rfl (take_ofW HT_.out HW_.out (by kernel_rfl)) (fun _ _ _ h => h) (Or.inl ⟨by rfl, ?_⟩) hHeld ?_ ?_
  rotate_left
  · rintro w' ⟨s0, ⟨s1, s2⟩, s3⟩
    go_simp
    first | done | with_reducible rfl
  rotate_left
  · simp only [Act.put, List.setIfInBounds_toArray, List.set_cons_zero, List.set_cons_succ, i64_w, i32_w]
    rfl
  refine take_ (i := 5) (N := (some 15)) (v := ?_) (a' := ?_) #[true, true, true, true, true, true, false, false, false, false, false, false] rfl rfl (take_ofW HT_.out HW_.out (by kernel_rfl)) (fun _ _ _ h => h) (Or.inl ⟨by rfl, ?_⟩) hHeld ?_ ?_
  rotate_left
  · rintro w' ⟨s0, ⟨s1, s2⟩, s3⟩
    go_simp
    first | done | with_reducible rfl
  rotate_left
  · simp only [Act.put, List.setIfInBounds_toArray, List.set_cons_zero, List.set_cons_succ, i64_w, i32_w]
    rfl
  refine pure_ (i := 6) (N := (some 9)) (v := ?_) (a' := ?_) #[true, true, true, true, true, true, true, false, false, false, false, false] rfl rfl (any_of HT_.out (by kernel_rfl)) (fun _ _ _ h => h) (Or.inl ⟨by rfl, ?_⟩) ?_ ?_
  rotate_left
  · intro w'
    go_simp
    first | done | with_reducible rfl
  rotate_left
  · simp only [Act.put, List.setIfInBounds_toArray, List.set_cons_zero, List.set_cons_succ, i64_w, i32_w]
    rfl
  refine pure_ (i := 7) (N := (some 16)) (v := ?_) (a' := ?_) #[true, true, true, true, true, true, true, true, false, false, false, false] rfl rfl (any_of HT_.out (by kernel_rfl)) (fun _ _ _ h => h) (Or.inl ⟨by rfl, ?_⟩) ?_ ?_
  rotate_left
  · intro w'
    go_simp
    first | done | with_reducible rfl
  rotate_left
  · simp only [Act.put, List.setIfInBounds_toArray, List.set_cons_zero, List.set_cons_succ, i64_w, i32_w]
    rfl
  refine pure_ (i := 8) (N := (some 17)) (v := ?_) (a' := ?_) #[true, true, true, true, true, true, true, true, true, false, false, false] rfl rfl (any_of HT_.out (by kernel_rfl)) (fun _ _ _ h => h) (Or.inl ⟨by rfl, ?_⟩) ?_ ?_
  rotate_left
  · intro w'
    go_simp
    first | done | with_reducible rfl
  rotate_left
  · simp only [Act.put, List.setIfInBounds_toArray, List.set_cons_zero, List.set_cons_succ, i64_w, i32_w]
    rfl
  refine one_ (i := 9) (N := (some 5)) #[true, true, true, true, true, true, true, true, true, true, false, false] rfl rfl (one_of HT_.out (by kernel_rfl)) (by decide) (fun K hK => ?_)
  go_simp
  obtain ⟨w2, hw2⟩ : ∃ w2, wd.alloc (.cells #[.int .i64 0, .int .i64 0] 40) = w2 := ⟨_, rfl⟩
  obtain ⟨k5, hk5⟩ : ∃ x, wd.heap.size = x := ⟨_, rfl⟩
  have HB2 : Aside0 (Below w1.heap.size w1 w2) := ⟨by rw [← hw2]; exact below_alloc HBd.out _⟩
  have HZ2 : Aside0 (w2.heap[k5]? = some (.cells #[.int .i64 0, .int .i64 0] 40 (0, 0))) := ⟨by rw [← hw2, ← hk5]; exact blk_new wd _⟩
  have HK5 : Aside0 (w1.heap.size ≤ k5) := ⟨by rw [← hk5]; exact HBd.out.size⟩
  rw [hw2, hk5]
  clear hw2 hk5 HBd
  refine hK.out _ _ (cutHeld HT1.out HRW.out HX1.out HB2.out) (fun hHeld => ?_)
  clear hK K
  refine one_ (i := 10) (N := none) #[true, true, true, true, true, true, true, true, true, true, true, false] rfl rfl (one_of HT_.out (by kernel_rfl)) (by decide) (fun K hK => ?_)
  obtain ⟨z0_, z1_⟩ := two HZ2.out
  have f0_ : w2.frozen? ⟨k5, 0, none⟩ = false := blk_frozen HZ2.out 0
  have f1_ : w2.frozen? ⟨k5, 1, none⟩ = false := blk_frozen HZ2.out 1
  go_simp
  clear z0_ z1_ f0_ f1_
  obtain ⟨w4, hw4⟩ : ∃ w4, (w2.setCell ⟨k5, 0, none⟩ (.int .i64 (getL L r).1)).setCell ⟨k5, 1, none⟩ (.int .i64 (getL L r).2) = w4 := ⟨_, rfl⟩
  have HB4 : Aside0 (Below w1.heap.size w1 w4) := ⟨by rw [← hw4]; exact (HB2.out.setCell (p := ⟨k5, 0, none⟩) HK5.out _).setCell (p := ⟨k5, 1, none⟩) HK5.out _⟩
  have HZ4 : Aside0 (w4.heap[k5]? = some (.cells #[.int .i64 (getL L r).1, .int .i64 (getL L r).2] 40 (0, 0))) := ⟨by rw [← hw4]; exact blk_put (blk_put HZ2.out 0 _ rfl) 1 _ rfl⟩
  rw [hw4]
  clear hw4 HB2 HZ2
  refine hK.out _ _ (cutHeld HT1.out HRW.out HX1.out HB4.out) (fun hHeld => ?_)
  clear hK K
  refine pure_ (i := 11) (N := (some 6)) (v := ?_) (a' := ?_) #[true, true, true, true, true, true, true, true, true, true, true, true] rfl rfl (any_of HT_.out (by kernel_rfl)) (fun _ _ _ h => h) (Or.inl ⟨by rfl, ?_⟩) ?_ ?_
  rotate_left
  · intro w'
    go_simp
    first | done | with_reducible rfl
  rotate_left
  · simp only [Act.put, List.setIfInBounds_toArray, List.set_cons_zero, List.set_cons_succ, i64_w, i32_w]
    rfl
  refine done_ (done_of HT_.out (by kernel_rfl)) ?_
  clear hHeld HT_ HW_
  have HT4 := Aside0.mk (HT1.out.below HB4.out)
  have HX4 := Aside0.mk (blk_below HX1.out HB4.out)
  have HK4 : Aside0 (Below w.heap.size w w4) := ⟨below_step HB1.out HB4.out⟩
  rw [HQ.out.1, HQ.out.2]
  have hz4 := HZ4.out
  rw [HQ.out.2] at hz4
  have HZ := Aside0.mk hz4
  clear hz4 HZ4 HT1 HX1 HB4
  cases q with
  | false =>
    go_wp2
    go_ret
    refine ⟨rfl, ?_, Kp.of_below HK4.out _⟩
    have e1 : L.filter (fun x => !rfB r x.1) = L := List.filter_eq_self.2 (fun x hx => by
      cases hq : rfB r x.1
      · rfl
      · exact absurd (rfB_iff.1 hq) (hasL_false.1 HQ.out.1 x hx))
    rw [e1]
    exact HT4.out
  | true =>
    have hm : (r, s) ∈ L := by
      have := hasL_mem HQ.out.1
      rwa [HQ.out.2] at this
    have HM := Aside0.mk hm
    have HSW : Aside0 (Wf2 s) := ⟨HT4.out.rf.keys (s, r) (List.mem_map.2 ⟨_, hm, rfl⟩)⟩
    have HKL := Aside0.mk (show n + 2 < k3 by rw [← HK3.out]; exact HT.out.lt)
    have HKL5 : Aside0 (k3 < k5) := ⟨Nat.lt_of_lt_of_le (blk_lt (show w1.heap[k3]? = some _ by have := HX4.out; rw [← HW1.out, ← HK3.out]; exact blk_new w _)) HK5.out⟩
    clear hm
    go_upto_region 5 with fail
    refine start_ (n := 6) (S := fun w' => w'.cell? ⟨n + 2, 0, none⟩ = some (.map (some n)) ∧ w'.cell? ⟨k3, 0, none⟩ = some (.int .i64 r.1) ∧ w'.cell? ⟨k3, 1, none⟩ = some (.int .i64 r.2)) (ds := []) #[false, false, false, false, false, false] (by kernel_rfl) rfl rfl (mapHeld HT4.out.box rfl HX4.out (below_drew (Below.refl _ _))) (fun hHeld => ?_)
    refine with_tabW reg_pcut_5.tab reg_pcut_5.bits (fun HT_ HW_ => ?_)
    obtain ⟨we, hwe⟩ : ∃ wd, w4.drew = wd := ⟨_, rfl⟩
    have hBe_ : Below w4.heap.size w4 we := by rw [← hwe]; exact below_drew (Below.refl _ _)
    have HTe := Aside0.mk (HT4.out.below hBe_)
    have HXe := Aside0.mk (blk_below HX4.out hBe_)
    have HZe := Aside0.mk (blk_below HZ.out hBe_)
    have HKe := Aside0.mk (Kp.of_below (below_step HK4.out hBe_) (fun k => k = n ∨ k = n + 1))
    rw [hwe] at hHeld ⊢
    clear hwe hBe_ HT4 HX4 HZ HK4
    refine pure_ (i := 0) (N := (some 19)) (v := ?_) (a' := ?_) #[true, false, false, false, false, false] rfl rfl (any_of HT_.out (by kernel_rfl)) (fun _ _ _ h => h) (Or.inl ⟨by rfl, ?_⟩) ?_ ?_
    rotate_left
    · intro w'
      go_simp
      first | done | with_reducible rfl
    rotate_left
    · simp only [Act.put, List.setIfInBounds_toArray, List.set_cons_zero, List.set_cons_succ, i64_w, i32_w]
      rfl
    refine pure_ (i := 1) (N := (some 20)) (v := ?_) (a' := ?_) #[true, true, false, false, false, false] rfl rfl (any_of HT_.out (by kernel_rfl)) (fun _ _ _ h => h) (Or.inl ⟨by rfl, ?_⟩) ?_ ?_
    rotate_left
    · intro w'
      go_simp
      first | done | with_reducible rfl
    rotate_left
    · simp only [Act.put, List.setIfInBounds_toArray, List.set_cons_zero, List.set_cons_succ, i64_w, i32_w]
      rfl
    refine pure_ (i := 2) (N := (some 21)) (v := ?_) (a' := ?_) #[true, true, true, false, false, false] rfl rfl (any_of HT_.out (by kernel_rfl)) (fun _ _ _ h => h) (Or.inl ⟨by rfl, ?_⟩) ?_ ?_
    rotate_left
    · intro w'
      go_simp
      first | done | with_reducible rfl
    rotate_left
    · simp only [Act.put, List.setIfInBounds_toArray, List.set_cons_zero, List.set_cons_succ, i64_w, i32_w]
      rfl
    refine take_ (i := 3) (N := (some 22)) (v := ?_) (a' := ?_) #[true, true, true, true, false, false] rfl rfl (take_ofW HT_.out HW_.out (by kernel_rfl)) (fun _ _ _ h => h) (Or.inl ⟨by rfl, ?_⟩) hHeld ?_ ?_
    rotate_left
    · rintro w' ⟨s0, s1, s2⟩
      go_simp
      first | done | with_reducible rfl
    rotate_left
    · simp only [Act.put, List.setIfInBounds_toArray, List.set_cons_zero, List.set_cons_succ, i64_w, i32_w]
      rfl
    refine take_ (i := 4) (N := (some 23)) (v := ?_) (a' := ?_) #[true, true, true, true, true, false] rfl rfl (take_ofW HT_.out HW_.out (by kernel_rfl)) (fun _ _ _ h => h) (Or.inl ⟨by rfl, ?_⟩) hHeld ?_ ?_
    rotate_left
    · rintro w' ⟨s0, s1, s2⟩
      go_simp
      first | done | with_reducible rfl
    rotate_left
    · simp only [Act.put, List.setIfInBounds_toArray, List.set_cons_zero, List.set_cons_succ, i64_w, i32_w]
      rfl
    refine one_ (i := 5) (N := none) #[true, true, true, true, true, true] rfl rfl (one_of HT_.out (by kernel_rfl)) (by decide) (fun K hK => ?_)
    obtain ⟨w6, hdel_, hM6_, hT6_⟩ := HTe.out.sp.drop lawR keyR Try.underlying132 zeroS2 r HRW.out
    unfold enc2 at hdel_
    go_simp
    clear hdel_
    have HX6 := Aside0.mk (hT6_.blk HXe.out (by have := HKL.out; omega))
    have HZ6 := Aside0.mk (hT6_.blk HZe.out (by have := HKL.out; have := HKL5.out; omega))
    have HBX6 := Aside0.mk (hT6_.blk HTe.out.box (by omega))
    have HM6 := Aside0.mk hM6_
    have HR6 := Aside0.mk (HTe.out.rf.keep (hT6_.block _ (by omega)))
    have HK6 := Aside0.mk (hT6_.kp HKe.out (Or.inl rfl))
    have HP6 := Aside0.mk (And.intro HTe.out.sp.apart HTe.out.rf.apart)
    clear hM6_ hT6_ HTe HXe HZe HKe
    refine hK.out _ _ (mapHeld HBX6.out rfl HX6.out (Below.refl _ _)) (fun hHeld => ?_)
    clear hK K
    refine done_ (done_of HT_.out (by kernel_rfl)) ?_
    clear hHeld HT_ HW_
    go_upto_region 6 with fail
    refine start_ (n := 6) (S := fun w' => w'.cell? ⟨n + 2, 1, none⟩ = some (.map (some (n + 1))) ∧ w'.cell? ⟨k5, 0, none⟩ = some (.int .i64 s.1) ∧ w'.cell? ⟨k5, 1, none⟩ = some (.int .i64 s.2)) (ds := []) #[false, false, false, false, false, false] (by kernel_rfl) rfl rfl (mapHeld HBX6.out rfl HZ6.out (below_drew (Below.refl _ _))) (fun hHeld => ?_)
    refine with_tabW reg_pcut_6.tab reg_pcut_6.bits (fun HT_ HW_ => ?_)
    obtain ⟨wf, hwf⟩ : ∃ wd, w6.drew = wd := ⟨_, rfl⟩
    have hBf_ : Below w6.heap.size w6 wf := by rw [← hwf]; exact below_drew (Below.refl _ _)
    have HBXf := Aside0.mk (blk_below HBX6.out hBf_)
    have HMf := Aside0.mk (HM6.out.below hBf_)
    have HRf := Aside0.mk (HR6.out.below hBf_)
    have HZf := Aside0.mk (blk_below HZ6.out hBf_)
    have HKf := Aside0.mk (HK6.out.below hBf_)
    rw [hwf] at hHeld ⊢
    clear hwf hBf_ HBX6 HM6 HR6 HZ6 HK6 HX6
    refine pure_ (i := 0) (N := (some 24)) (v := ?_) (a' := ?_) #[true, false, false, false, false, false] rfl rfl (any_of HT_.out (by kernel_rfl)) (fun _ _ _ h => h) (Or.inl ⟨by rfl, ?_⟩) ?_ ?_
    rotate_left
    · intro w'
      go_simp
      first | done | with_reducible rfl
    rotate_left
    · simp only [Act.put, List.setIfInBounds_toArray, List.set_cons_zero, List.set_cons_succ, i64_w, i32_w]
      rfl
    refine pure_ (i := 1) (N := (some 25)) (v := ?_) (a' := ?_) #[true, true, false, false, false, false] rfl rfl (any_of HT_.out (by kernel_rfl)) (fun _ _ _ h => h) (Or.inl ⟨by rfl, ?_⟩) ?_ ?_
    rotate_left
    · intro w'
      go_simp
      first | done | with_reducible rfl
    rotate_left
    · simp only [Act.put, List.setIfInBounds_toArray, List.set_cons_zero, List.set_cons_succ, i64_w, i32_w]
      rfl
    refine pure_ (i := 2) (N := (some 26)) (v := ?_) (a' := ?_) #[true, true, true, false, false, false] rfl rfl (any_of HT_.out (by kernel_rfl)) (fun _ _ _ h => h) (Or.inl ⟨by rfl, ?_⟩) ?_ ?_
    rotate_left
    · intro w'
      go_simp
      first | done | with_reducible rfl
    rotate_left
    · simp only [Act.put, List.setIfInBounds_toArray, List.set_cons_zero, List.set_cons_succ, i64_w, i32_w]
      rfl
    refine take_ (i := 3) (N := (some 27)) (v := ?_) (a' := ?_) #[true, true, true, true, false, false] rfl rfl (take_ofW HT_.out HW_.out (by kernel_rfl)) (fun _ _ _ h => h) (Or.inl ⟨by rfl, ?_⟩) hHeld ?_ ?_
    rotate_left
    · rintro w' ⟨s0, s1, s2⟩
      go_simp
      first | done | with_reducible rfl
    rotate_left
    · simp only [Act.put, List.setIfInBounds_toArray, List.set_cons_zero, List.set_cons_succ, i64_w, i32_w]
      rfl
    refine take_ (i := 4) (N := (some 28)) (v := ?_) (a' := ?_) #[true, true, true, true, true, false] rfl rfl (take_ofW HT_.out HW_.out (by kernel_rfl)) (fun _ _ _ h => h) (Or.inl ⟨by rfl, ?_⟩) hHeld ?_ ?_
    rotate_left
    · rintro w' ⟨s0, s1, s2⟩
      go_simp
      first | done | with_reducible rfl
    rotate_left
    · simp only [Act.put, List.setIfInBounds_toArray, List.set_cons_zero, List.set_cons_succ, i64_w, i32_w]
      rfl
    refine one_ (i := 5) (N := none) #[true, true, true, true, true, true] rfl rfl (one_of HT_.out (by kernel_rfl)) (by decide) (fun K hK => ?_)
    obtain ⟨w8, hdel_, hM8_, hT8_⟩ := HRf.out.drop lawS keyS Try.underlying133 zeroR2 s HSW.out
    unfold enc2 at hdel_
    go_simp
    clear hdel_
    rw [sw_filter HP6.out.1 HP6.out.2 HM.out] at hM8_
    have HZ8 := Aside0.mk (hT8_.blk HZf.out (by have := HKL.out; have := HKL5.out; omega))
    have HB8 := Aside0.mk (hT8_.blk HBXf.out (by omega))
    have HT8 : Aside0 (Tb w8 n (L.filter (fun x => !rfB r x.1))) := ⟨⟨HB8.out, HMf.out.keep (hT8_.block _ (by omega)), hM8_⟩⟩
    have HK8 := Aside0.mk (hT8_.kp HKf.out (Or.inr rfl))
    clear hM8_ hT8_ HBXf HMf HRf HZf HKf
    refine hK.out _ _ (mapHeld HB8.out rfl HZ8.out (Below.refl _ _)) (fun hHeld => ?_)
    clear hK K
    refine done_ (done_of HT_.out (by kernel_rfl)) ?_
    clear hHeld HT_ HW_
    go_wp2
    go_ret
    exact ⟨rfl, HT8.out, HK8.out⟩
def putL (L : List (Rf × Rf)) (r s : Rf) : List (Rf × Rf) := L.filter (fun x => !rfB r x.1) ++ [(r, s)]
theorem putHeld {W W1 : World} {n k5 : Nat} {L : List (Rf × Rf)} {s : Rf} (h : Tb W n L) (hs : Wf2 s) (hx : W.heap[k5]? = some (.cells #[.int .i64 s.1, .int .i64 s.2] 40 (0, 0))) (hn : hasL (sw L) s = false) (hb : Below W.heap.size W W1) :
    W1.cell? ⟨n + 2, 1, none⟩ = some (.map (some (n + 1))) ∧ (W1.cell? ⟨k5, 0, none⟩ = some (.int .i64 s.1) ∧ W1.cell? ⟨k5, 1, none⟩ = some (.int .i64 s.2)) ∧ (Instr.lookup 133 (.map (some (n + 1))) (.agg #[.int .i64 s.1, .int .i64 s.2]) true).run Try.prog W1 = .ok (.tuple #[.agg #[.int .i64 0, .int .i64 0], .bool false]) W1 := by
  have h1 := (h.below hb).rf.look lawS keyS Try.underlying133 zeroR2 s hs
  rw [hn, getL_none hn] at h1
  exact ⟨(blk_cell (h.below hb).box 1).trans rfl, two (blk_below hx hb), h1⟩
theorem seven {W : World} {k k4 k5 : Nat} {n : Nat} {r s : Rf} (hb : W.heap[k]? = some (.cells #[.map (some n), .map (some (n + 1))] 135 (0, 0))) (h4 : W.heap[k4]? = some (.cells #[.int .i64 r.1, .int .i64 r.2] 31 (0, 0))) (h5 : W.heap[k5]? = some (.cells #[.int .i64 s.1, .int .i64 s.2] 40 (0, 0))) :
    (W.cell? ⟨k, 0, none⟩ = some (.map (some n)) ∧ W.cell? ⟨k, 1, none⟩ = some (.map (some (n + 1)))) ∧ (W.cell? ⟨k4, 0, none⟩ = some (.int .i64 r.1) ∧ W.cell? ⟨k4, 1, none⟩ = some (.int .i64 r.2)) ∧ (W.cell? ⟨k5, 0, none⟩ = some (.int .i64 s.1) ∧ W.cell? ⟨k5, 1, none⟩ = some (.int .i64 s.2)) := ⟨two hb, two h4, two h5⟩
def reg_pput_3.T : Bool × List (List Nat × List Nat) := (true, [([], []), ([0], [0]), ([1], [1]), ([2], [2]), ([], []), ([3, 4], [3, 4]), ([5], [5]), ([6], [6]), ([6], [6]), ([], []), ([9, 7, 0, 1, 2, 3, 4, 5, 6, 7, 9], [7, 9]), ([8, 10, 0, 1, 2, 3, 4, 5, 6, 7, 8, 9, 10], [8])])
def reg_pput_3.B : List Nat := [0, 1, 3, 7, 0, 31, 63, 127, 127, 0, 767, 2047]
theorem reg_pput_3.tab : rtab .any (opsOf Try.f60 3) = reg_pput_3.T := by kernel_rfl
theorem reg_pput_3.bits : waitsOk reg_pput_3.T.2 reg_pput_3.B = true := by kernel_rfl
def reg_pput_7.T : Bool × List (List Nat × List Nat) := (true, [([], []), ([0], [0]), ([1], [1]), ([2], [2]), ([], []), ([], []), ([5], [5]), ([6], [6]), ([7], [7]), ([], []), ([], []), ([], []), ([3, 4, 8], [3, 4]), ([12], [12]), ([3, 13, 10, 12, 0, 1, 2, 3, 4, 8, 10, 12], [3, 10, 13]), ([8, 9, 14, 0, 1, 2, 3, 4, 8, 10, 12, 13, 14], [8, 9]), ([15], [15]), ([8, 16, 11, 15, 0, 1, 2, 3, 4, 5, 6, 7, 8, 9, 10, 11, 12, 13, 14, 15], [8, 11, 16])])
def reg_pput_7.B : List Nat := [0, 1, 3, 7, 0, 0, 32, 96, 224, 0, 0, 0, 511, 4607, 13823, 30719, 63487, 131071]
theorem reg_pput_7.tab : rtab .any (opsOf Try.f60 7) = reg_pput_7.T := by kernel_rfl
theorem reg_pput_7.bits : waitsOk reg_pput_7.T.2 reg_pput_7.B = true := by kernel_rfl
set_option maxHeartbeats 8000000 in
set_option maxRecDepth 100000 in
theorem pput {w : World} {n : Nat} {L : List (Rf × Rf)} (h : Tb w n L) (r s : Rf) (hr : Wf2 r) (hs : Wf2 s) (hs1 : 0 ≤ s.1) (hs2 : 0 ≤ s.2) (hn : hasL (sw L) s = false) :
    Calls Try.prog 60 #[.pointer (some ⟨n + 2, 0, none⟩), .agg #[.int .i64 r.1, .int .i64 r.2], .agg #[.int .i64 s.1, .int .i64 s.2]] w fun e w' => e = .returned (.bool true) ∧ Tb w' n (putL L r s) ∧ Kp (fun k => k = n ∨ k = n + 1) w w' := by
  obtain ⟨w1, hw1⟩ : ∃ w1, (w.alloc (.cells #[.int .i64 r.1, .int .i64 r.2] 31)).alloc (.cells #[.int .i64 s.1, .int .i64 s.2] 40) = w1 := ⟨_, rfl⟩
  obtain ⟨k4, hk4⟩ : ∃ x, w.heap.size = x := ⟨_, rfl⟩
  obtain ⟨k5, hk5⟩ : ∃ x, k4 + 1 = x := ⟨_, rfl⟩
  have HB1 : Aside0 (Below w.heap.size w w1) := ⟨by rw [← hw1]; exact below_alloc (below_alloc (Below.refl _ _) _) _⟩
  have HX1 : Aside0 (w1.heap[k4]? = some (.cells #[.int .i64 r.1, .int .i64 r.2] 31 (0, 0))) := ⟨by rw [← hw1, ← hk4]; exact blk_alloc (blk_new w _) _⟩
  have HY1 : Aside0 (w1.heap[k5]? = some (.cells #[.int .i64 s.1, .int .i64 s.2] 40 (0, 0))) := ⟨by rw [← hw1, ← hk5, ← hk4]; have := blk_new (w.alloc (.cells #[.int .i64 r.1, .int .i64 r.2] 31)) (.cells #[.int .i64 s.1, .int .i64 s.2] 40); simpa using this⟩
  have HT1 := Aside0.mk (h.below HB1.out)
  have HT := Aside0.mk h
  have HRW := Aside0.mk hr
  have HSW := Aside0.mk hs
  have HW1 := Aside0.mk hw1
  have HK4 := Aside0.mk hk4
  have HK5 := Aside0.mk hk5
  have HN := Aside0.mk hn
  have d1 : decide (s.1 < 0) = false := decide_eq_false (by omega)
  have d2 : decide (s.2 < 0) = false := decide_eq_false (by omega)
  have y0 := (two HY1.out).1
  have y1 := (two HY1.out).2
  clear h hr hs hw1 hk4 hk5 hn hs1 hs2
  go_enter Try.func60, Try.ntmps60
  go_upto_region 1 with fail
  rw [HW1.out, HK4.out, HK5.out]
  go_upto_region 3 with fail
  clear y0 y1 d1 d2
  refine start_ (n := 12) (S := fun w' => w'.cell? ⟨n + 2, 1, none⟩ = some (.map (some (n + 1))) ∧ (w'.cell? ⟨k5, 0, none⟩ = some (.int .i64 s.1) ∧ w'.cell? ⟨k5, 1, none⟩ = some (.int .i64 s.2)) ∧ (Instr.lookup 133 (.map (some (n + 1))) (.agg #[.int .i64 s.1, .int .i64 s.2]) true).run Try.prog w' = .ok (.tuple #[.agg #[.int .i64 0, .int .i64 0], .bool false]) w') (ds := []) #[false, false, false, false, false, false, false, false, false, false, false, false] (by kernel_rfl) rfl rfl (putHeld HT1.out HSW.out HY1.out HN.out (below_drew (Below.refl _ _))) (fun hHeld => ?_)
  refine with_tabW reg_pput_3.tab reg_pput_3.bits (fun HT_ HW_ => ?_)
  obtain ⟨wd, hwd⟩ : ∃ wd, w1.drew = wd := ⟨_, rfl⟩
  have HBd : Aside0 (Below w1.heap.size w1 wd) := ⟨by rw [← hwd]; exact below_drew (Below.refl _ _)⟩
  rw [hwd] at hHeld ⊢
  clear hwd
  refine pure_ (i := 0) (N := (some 22)) (v := ?_) (a' := ?_) #[true, false, false, false, false, false, false, false, false, false, false, false] rfl rfl (any_of HT_.out (by kernel_rfl)) (fun _ _ _ h => h) (Or.inl ⟨by rfl, ?_⟩) ?_ ?_
  rotate_left
  · intro w'
    go_simp
    first | done | with_reducible rfl
  rotate_left
  · simp only [Act.put, List.setIfInBounds_toArray, List.set_cons_zero, List.set_cons_succ, i64_w, i32_w]
    rfl
  refine pure_ (i := 1) (N := (some 23)) (v := ?_) (a' := ?_) #[true, true, false, false, false, false, false, false, false, false, false, false] rfl rfl (any_of HT_.out (by kernel_rfl)) (fun _ _ _ h => h) (Or.inl ⟨by rfl, ?_⟩) ?_ ?_
  rotate_left
  · intro w'
    go_simp
    first | done | with_reducible rfl
  rotate_left
  · simp only [Act.put, List.setIfInBounds_toArray, List.set_cons_zero, List.set_cons_succ, i64_w, i32_w]
    rfl
  refine pure_ (i := 2) (N := (some 24)) (v := ?_) (a' := ?_) #[true, true, true, false, false, false, false, false, false, false, false, false] rfl rfl (any_of HT_.out (by kernel_rfl)) (fun _ _ _ h => h) (Or.inl ⟨by rfl, ?_⟩) ?_ ?_
  rotate_left
  · intro w'
    go_simp
    first | done | with_reducible rfl
  rotate_left
  · simp only [Act.put, List.setIfInBounds_toArray, List.set_cons_zero, List.set_cons_succ, i64_w, i32_w]
    rfl
  refine take_ (i := 3) (N := (some 25)) (v := ?_) (a' := ?_) #[true, true, true, true, false, false, false, false, false, false, false, false] rfl rfl (take_ofW HT_.out HW_.out (by kernel_rfl)) (fun _ _ _ h => h) (Or.inl ⟨by rfl, ?_⟩) hHeld ?_ ?_
  rotate_left
  · rintro w' ⟨s0, ⟨s1, s2⟩, s3⟩
    go_simp
    first | done | with_reducible rfl
  rotate_left
  · simp only [Act.put, List.setIfInBounds_toArray, List.set_cons_zero, List.set_cons_succ, i64_w, i32_w]
    rfl
  refine take_ (i := 4) (N := (some 26)) (v := ?_) (a' := ?_) #[true, true, true, true, true, false, false, false, false, false, false, false] rfl rfl (take_ofW HT_.out HW_.out (by kernel_rfl)) (fun _ _ _ h => h) (Or.inl ⟨by rfl, ?_⟩) hHeld ?_ ?_
  rotate_left
  · rintro w' ⟨s0, ⟨s1, s2⟩, s3⟩
    go_simp
    first | done | with_reducible rfl
  rotate_left
  · simp only [Act.put, List.setIfInBounds_toArray, List.set_cons_zero, List.set_cons_succ, i64_w, i32_w]
    rfl
  refine take_ (i := 5) (N := (some 27)) (v := ?_) (a' := ?_) #[true, true, true, true, true, true, false, false, false, false, false, false] rfl rfl (take_ofW HT_.out HW_.out (by kernel_rfl)) (fun _ _ _ h => h) (Or.inl ⟨by rfl, ?_⟩) hHeld ?_ ?_
  rotate_left
  · rintro w' ⟨s0, ⟨s1, s2⟩, s3⟩
    go_simp
    first | done | with_reducible rfl
  rotate_left
  · simp only [Act.put, List.setIfInBounds_toArray, List.set_cons_zero, List.set_cons_succ, i64_w, i32_w]
    rfl
  refine pure_ (i := 6) (N := (some 21)) (v := ?_) (a' := ?_) #[true, true, true, true, true, true, true, false, false, false, false, false] rfl rfl (any_of HT_.out (by kernel_rfl)) (fun _ _ _ h => h) (Or.inl ⟨by rfl, ?_⟩) ?_ ?_
  rotate_left
  · intro w'
    go_simp
    first | done | with_reducible rfl
  rotate_left
  · simp only [Act.put, List.setIfInBounds_toArray, List.set_cons_zero, List.set_cons_succ, i64_w, i32_w]
    rfl
  refine pure_ (i := 7) (N := (some 28)) (v := ?_) (a' := ?_) #[true, true, true, true, true, true, true, true, false, false, false, false] rfl rfl (any_of HT_.out (by kernel_rfl)) (fun _ _ _ h => h) (Or.inl ⟨by rfl, ?_⟩) ?_ ?_
  rotate_left
  · intro w'
    go_simp
    first | done | with_reducible rfl
  rotate_left
  · simp only [Act.put, List.setIfInBounds_toArray, List.set_cons_zero, List.set_cons_succ, i64_w, i32_w]
    rfl
  refine pure_ (i := 8) (N := (some 29)) (v := ?_) (a' := ?_) #[true, true, true, true, true, true, true, true, true, false, false, false] rfl rfl (any_of HT_.out (by kernel_rfl)) (fun _ _ _ h => h) (Or.inl ⟨by rfl, ?_⟩) ?_ ?_
  rotate_left
  · intro w'
    go_simp
    first | done | with_reducible rfl
  rotate_left
  · simp only [Act.put, List.setIfInBounds_toArray, List.set_cons_zero, List.set_cons_succ, i64_w, i32_w]
    rfl
  refine one_ (i := 9) (N := (some 7)) #[true, true, true, true, true, true, true, true, true, true, false, false] rfl rfl (one_of HT_.out (by kernel_rfl)) (by decide) (fun K hK => ?_)
  go_simp
  obtain ⟨w2, hw2⟩ : ∃ w2, wd.alloc (.cells #[.int .i64 0, .int .i64 0] 31) = w2 := ⟨_, rfl⟩
  obtain ⟨k7, hk7⟩ : ∃ x, wd.heap.size = x := ⟨_, rfl⟩
  have HB2 : Aside0 (Below w1.heap.size w1 w2) := ⟨by rw [← hw2]; exact below_alloc HBd.out _⟩
  have HZ2 : Aside0 (w2.heap[k7]? = some (.cells #[.int .i64 0, .int .i64 0] 31 (0, 0))) := ⟨by rw [← hw2, ← hk7]; exact blk_new wd _⟩
  have HK7 : Aside0 (w1.heap.size ≤ k7) := ⟨by rw [← hk7]; exact HBd.out.size⟩
  rw [hw2, hk7]
  clear hw2 hk7 HBd
  refine hK.out _ _ (putHeld HT1.out HSW.out HY1.out HN.out HB2.out) (fun hHeld => ?_)
  clear hK K
  refine one_ (i := 10) (N := none) #[true, true, true, true, true, true, true, true, true, true, true, false] rfl rfl (one_of HT_.out (by kernel_rfl)) (by decide) (fun K hK => ?_)
  obtain ⟨z0_, z1_⟩ := two HZ2.out
  have f0_ : w2.frozen? ⟨k7, 0, none⟩ = false := blk_frozen HZ2.out 0
  have f1_ : w2.frozen? ⟨k7, 1, none⟩ = false := blk_frozen HZ2.out 1
  go_simp
  clear z0_ z1_ f0_ f1_
  obtain ⟨w4, hw4⟩ : ∃ w4, (w2.setCell ⟨k7, 0, none⟩ (.int .i64 0)).setCell ⟨k7, 1, none⟩ (.int .i64 0) = w4 := ⟨_, rfl⟩
  have HB4 : Aside0 (Below w1.heap.size w1 w4) := ⟨by rw [← hw4]; exact (HB2.out.setCell (p := ⟨k7, 0, none⟩) HK7.out _).setCell (p := ⟨k7, 1, none⟩) HK7.out _⟩
  have HZ4 : Aside0 (w4.heap[k7]? = some (.cells #[.int .i64 0, .int .i64 0] 31 (0, 0))) := ⟨by rw [← hw4]; exact blk_put (blk_put HZ2.out 0 _ rfl) 1 _ rfl⟩
  rw [hw4]
  clear hw4 HB2 HZ2
  refine hK.out _ _ (putHeld HT1.out HSW.out HY1.out HN.out HB4.out) (fun hHeld => ?_)
  clear hK K
  refine pure_ (i := 11) (N := (some 8)) (v := ?_) (a' := ?_) #[true, true, true, true, true, true, true, true, true, true, true, true] rfl rfl (any_of HT_.out (by kernel_rfl)) (fun _ _ _ h => h) (Or.inl ⟨by rfl, ?_⟩) ?_ ?_
  rotate_left
  · intro w'
    go_simp
    first | done | with_reducible rfl
  rotate_left
  · simp only [Act.put, List.setIfInBounds_toArray, List.set_cons_zero, List.set_cons_succ, i64_w, i32_w]
    rfl
  refine done_ (done_of HT_.out (by kernel_rfl)) ?_
  clear hHeld HT_ HW_
  have HT4 := Aside0.mk (HT1.out.below HB4.out)
  have HX4 := Aside0.mk (blk_below HX1.out HB4.out)
  have HY4 := Aside0.mk (blk_below HY1.out HB4.out)
  have HKw4 : Aside0 (Below w.heap.size w w4) := ⟨below_step HB1.out HB4.out⟩
  obtain ⟨x0, x1⟩ := two HX4.out
  clear HT1 HX1 HY1 HB4 HZ4
  go_wp2_with fail
  have HKL := Aside0.mk (show n + 2 < k4 by rw [← HK4.out]; exact HT.out.lt)
  refine (pcut HT4.out r HRW.out).mono ?_
  rintro ev w5 ⟨rfl, hT5, hK5⟩
  have HT5 := Aside0.mk hT5
  have HX5 := Aside0.mk (hK5.blk HX4.out (by have := HKL.out; rintro (h | h) <;> omega))
  have HY5 := Aside0.mk (hK5.blk HY4.out (by have := HKL.out; have := HK5.out; rintro (h | h) <;> omega))
  have HKw5 := Aside0.mk ((Kp.of_below HKw4.out _).trans hK5)
  have HN5 : Aside0 (hasL (sw (L.filter (fun x => !rfB r x.1))) s = false ∧ hasL (L.filter (fun x => !rfB r x.1)) r = false) := ⟨by
    refine ⟨hasL_false.2 (fun x hx => ?_), hasL_false.2 (fun x hx e => ?_)⟩
    · obtain ⟨y, hy, rfl⟩ := List.mem_map.1 hx
      exact hasL_false.1 HN.out _ (List.mem_map.2 ⟨y, (List.mem_filter.1 hy).1, rfl⟩)
    · have := (List.mem_filter.1 hx).2
      rw [rfB_iff.2 e] at this
      cases this⟩
  obtain ⟨L5, hL5⟩ : ∃ M, L.filter (fun x => !rfB r x.1) = M := ⟨_, rfl⟩
  have HL5 : Aside0 (putL L r s = L5 ++ [(r, s)]) := ⟨by unfold putL; rw [hL5]⟩
  rw [hL5] at HT5 HN5
  clear hT5 hK5 hL5 HT4 HX4 HY4 HKw4 x0 x1
  go_upto_region 7 with fail
  refine start_ (n := 18) (S := fun w' => (w'.cell? ⟨n + 2, 0, none⟩ = some (.map (some n)) ∧ w'.cell? ⟨n + 2, 1, none⟩ = some (.map (some (n + 1)))) ∧ (w'.cell? ⟨k4, 0, none⟩ = some (.int .i64 r.1) ∧ w'.cell? ⟨k4, 1, none⟩ = some (.int .i64 r.2)) ∧ (w'.cell? ⟨k5, 0, none⟩ = some (.int .i64 s.1) ∧ w'.cell? ⟨k5, 1, none⟩ = some (.int .i64 s.2))) (ds := []) #[false, false, false, false, false, false, false, false, false, false, false, false, false, false, false, false, false, false] (by kernel_rfl) rfl rfl (seven (blk_below HT5.out.box (below_drew (Below.refl _ _))) (blk_below HX5.out (below_drew (Below.refl _ _))) (blk_below HY5.out (below_drew (Below.refl _ _)))) (fun hHeld => ?_)
  refine with_tabW reg_pput_7.tab reg_pput_7.bits (fun HT_ HW_ => ?_)
  obtain ⟨w6, hw6⟩ : ∃ wd, w5.drew = wd := ⟨_, rfl⟩
  have hb6_ : Below w5.heap.size w5 w6 := by rw [← hw6]; exact below_drew (Below.refl _ _)
  have HT6 := Aside0.mk (HT5.out.below hb6_)
  have HX6 := Aside0.mk (blk_below HX5.out hb6_)
  have HY6 := Aside0.mk (blk_below HY5.out hb6_)
  have HKw6 := Aside0.mk (HKw5.out.below hb6_)
  rw [hw6] at hHeld ⊢
  clear hw6 hb6_ HT5 HX5 HY5 HKw5
  refine pure_ (i := 0) (N := (some 39)) (v := ?_) (a' := ?_) #[true, false, false, false, false, false, false, false, false, false, false, false, false, false, false, false, false, false] rfl rfl (any_of HT_.out (by kernel_rfl)) (fun _ _ _ h => h) (Or.inl ⟨by rfl, ?_⟩) ?_ ?_
  rotate_left
  · intro w'
    go_simp
    first | done | with_reducible rfl
  rotate_left
  · simp only [Act.put, List.setIfInBounds_toArray, List.set_cons_zero, List.set_cons_succ, i64_w, i32_w]
    rfl
  refine pure_ (i := 1) (N := (some 40)) (v := ?_) (a' := ?_) #[true, true, false, false, false, false, false, false, false, false, false, false, false, false, false, false, false, false] rfl rfl (any_of HT_.out (by kernel_rfl)) (fun _ _ _ h => h) (Or.inl ⟨by rfl, ?_⟩) ?_ ?_
  rotate_left
  · intro w'
    go_simp
    first | done | with_reducible rfl
  rotate_left
  · simp only [Act.put, List.setIfInBounds_toArray, List.set_cons_zero, List.set_cons_succ, i64_w, i32_w]
    rfl
  refine pure_ (i := 2) (N := (some 41)) (v := ?_) (a' := ?_) #[true, true, true, false, false, false, false, false, false, false, false, false, false, false, false, false, false, false] rfl rfl (any_of HT_.out (by kernel_rfl)) (fun _ _ _ h => h) (Or.inl ⟨by rfl, ?_⟩) ?_ ?_
  rotate_left
  · intro w'
    go_simp
    first | done | with_reducible rfl
  rotate_left
  · simp only [Act.put, List.setIfInBounds_toArray, List.set_cons_zero, List.set_cons_succ, i64_w, i32_w]
    rfl
  refine take_ (i := 3) (N := (some 42)) (v := ?_) (a' := ?_) #[true, true, true, true, false, false, false, false, false, false, false, false, false, false, false, false, false, false] rfl rfl (take_ofW HT_.out HW_.out (by kernel_rfl)) (fun _ _ _ h => h) (Or.inl ⟨by rfl, ?_⟩) hHeld ?_ ?_
  rotate_left
  · rintro w' ⟨⟨s0, s1⟩, ⟨s2, s3⟩, s4, s5⟩
    go_simp
    first | done | with_reducible rfl
  rotate_left
  · simp only [Act.put, List.setIfInBounds_toArray, List.set_cons_zero, List.set_cons_succ, i64_w, i32_w]
    rfl
  refine take_ (i := 4) (N := (some 43)) (v := ?_) (a' := ?_) #[true, true, true, true, true, false, false, false, false, false, false, false, false, false, false, false, false, false] rfl rfl (take_ofW HT_.out HW_.out (by kernel_rfl)) (fun _ _ _ h => h) (Or.inl ⟨by rfl, ?_⟩) hHeld ?_ ?_
  rotate_left
  · rintro w' ⟨⟨s0, s1⟩, ⟨s2, s3⟩, s4, s5⟩
    go_simp
    first | done | with_reducible rfl
  rotate_left
  · simp only [Act.put, List.setIfInBounds_toArray, List.set_cons_zero, List.set_cons_succ, i64_w, i32_w]
    rfl
  refine pure_ (i := 5) (N := (some 44)) (v := ?_) (a' := ?_) #[true, true, true, true, true, true, false, false, false, false, false, false, false, false, false, false, false, false] rfl rfl (any_of HT_.out (by kernel_rfl)) (fun _ _ _ h => h) (Or.inl ⟨by rfl, ?_⟩) ?_ ?_
  rotate_left
  · intro w'
    go_simp
    first | done | with_reducible rfl
  rotate_left
  · simp only [Act.put, List.setIfInBounds_toArray, List.set_cons_zero, List.set_cons_succ, i64_w, i32_w]
    rfl
  refine pure_ (i := 6) (N := (some 45)) (v := ?_) (a' := ?_) #[true, true, true, true, true, true, true, false, false, false, false, false, false, false, false, false, false, false] rfl rfl (any_of HT_.out (by kernel_rfl)) (fun _ _ _ h => h) (Or.inl ⟨by rfl, ?_⟩) ?_ ?_
  rotate_left
  · intro w'
    go_simp
    first | done | with_reducible rfl
  rotate_left
  · simp only [Act.put, List.setIfInBounds_toArray, List.set_cons_zero, List.set_cons_succ, i64_w, i32_w]
    rfl
  refine pure_ (i := 7) (N := (some 46)) (v := ?_) (a' := ?_) #[true, true, true, true, true, true, true, true, false, false, false, false, false, false, false, false, false, false] rfl rfl (any_of HT_.out (by kernel_rfl)) (fun _ _ _ h => h) (Or.inl ⟨by rfl, ?_⟩) ?_ ?_
  rotate_left
  · intro w'
    go_simp
    first | done | with_reducible rfl
  rotate_left
  · simp only [Act.put, List.setIfInBounds_toArray, List.set_cons_zero, List.set_cons_succ, i64_w, i32_w]
    rfl
  refine take_ (i := 8) (N := (some 47)) (v := ?_) (a' := ?_) #[true, true, true, true, true, true, true, true, true, false, false, false, false, false, false, false, false, false] rfl rfl (take_ofW HT_.out HW_.out (by kernel_rfl)) (fun _ _ _ h => h) (Or.inl ⟨by rfl, ?_⟩) hHeld ?_ ?_
  rotate_left
  · rintro w' ⟨⟨s0, s1⟩, ⟨s2, s3⟩, s4, s5⟩
    go_simp
    first | done | with_reducible rfl
  rotate_left
  · simp only [Act.put, List.setIfInBounds_toArray, List.set_cons_zero, List.set_cons_succ, i64_w, i32_w]
    rfl
  refine take_ (i := 9) (N := (some 48)) (v := ?_) (a' := ?_) #[true, true, true, true, true, true, true, true, true, true, false, false, false, false, false, false, false, false] rfl rfl (take_ofW HT_.out HW_.out (by kernel_rfl)) (fun _ _ _ h => h) (Or.inl ⟨by rfl, ?_⟩) hHeld ?_ ?_
  rotate_left
  · rintro w' ⟨⟨s0, s1⟩, ⟨s2, s3⟩, s4, s5⟩
    go_simp
    first | done | with_reducible rfl
  rotate_left
  · simp only [Act.put, List.setIfInBounds_toArray, List.set_cons_zero, List.set_cons_succ, i64_w, i32_w]
    rfl
  refine take_ (i := 10) (N := (some 49)) (v := ?_) (a' := ?_) #[true, true, true, true, true, true, true, true, true, true, true, false, false, false, false, false, false, false] rfl rfl (take_ofW HT_.out HW_.out (by kernel_rfl)) (fun _ _ _ h => h) (Or.inl ⟨by rfl, ?_⟩) hHeld ?_ ?_
  rotate_left
  · rintro w' ⟨⟨s0, s1⟩, ⟨s2, s3⟩, s4, s5⟩
    go_simp
    first | done | with_reducible rfl
  rotate_left
  · simp only [Act.put, List.setIfInBounds_toArray, List.set_cons_zero, List.set_cons_succ, i64_w, i32_w]
    rfl
  refine take_ (i := 11) (N := (some 50)) (v := ?_) (a' := ?_) #[true, true, true, true, true, true, true, true, true, true, true, true, false, false, false, false, false, false] rfl rfl (take_ofW HT_.out HW_.out (by kernel_rfl)) (fun _ _ _ h => h) (Or.inl ⟨by rfl, ?_⟩) hHeld ?_ ?_
  rotate_left
  · rintro w' ⟨⟨s0, s1⟩, ⟨s2, s3⟩, s4, s5⟩
    go_simp
    first | done | with_reducible rfl
  rotate_left
  · simp only [Act.put, List.setIfInBounds_toArray, List.set_cons_zero, List.set_cons_succ, i64_w, i32_w]
    rfl
  refine one_ (i := 12) (N := (some 51)) #[true, true, true, true, true, true, true, true, true, true, true, true, true, false, false, false, false, false] rfl rfl (one_of HT_.out (by kernel_rfl)) (by decide) (fun K hK => ?_)
  obtain ⟨c1, w8, hme_, hT8_, hst_⟩ := HT6.out.sp.entry lawR keyR Try.underlying132 zeroS2 r HRW.out HN5.out.2
  unfold enc2 at hme_
  go_simp
  clear hme_
  have HST1 := Aside0.mk hst_
  have HX8 := Aside0.mk (hT8_.blk HX6.out (by have := HKL.out; omega))
  have HY8 := Aside0.mk (hT8_.blk HY6.out (by have := HKL.out; have := HK5.out; omega))
  have HBX8 := Aside0.mk (hT8_.blk HT6.out.box (by omega))
  have HR8 := Aside0.mk (HT6.out.rf.keep (hT8_.block _ (by omega)))
  have HK8 := Aside0.mk (hT8_.kp HKw6.out (Or.inl rfl))
  clear hst_ hT8_ HT6 HX6 HY6 HKw6
  refine hK.out _ _ (seven HBX8.out HX8.out HY8.out) (fun hHeld => ?_)
  clear hK K
  refine pure_ (i := 13) (N := (some 52)) (v := ?_) (a' := ?_) #[true, true, true, true, true, true, true, true, true, true, true, true, true, true, false, false, false, false] rfl rfl (any_of HT_.out (by kernel_rfl)) (fun _ _ _ h => h) (Or.inl ⟨by rfl, ?_⟩) ?_ ?_
  rotate_left
  · intro w'
    go_simp
    first | done | with_reducible rfl
  rotate_left
  · simp only [Act.put, List.setIfInBounds_toArray, List.set_cons_zero, List.set_cons_succ, i64_w, i32_w]
    rfl
  refine one_ (i := 14) (N := none) #[true, true, true, true, true, true, true, true, true, true, true, true, true, true, true, false, false, false] rfl rfl (one_of HT_.out (by kernel_rfl)) (by decide) (fun K hK => ?_)
  obtain ⟨w9, hst_, hM9_, hT9_⟩ := HST1.out s w8 rfl
  unfold enc2 at hst_
  go_simp
  clear hst_
  have HM9 := Aside0.mk hM9_
  have HX9 := Aside0.mk (hT9_.blk HX8.out (by have := HKL.out; omega))
  have HY9 := Aside0.mk (hT9_.blk HY8.out (by have := HKL.out; have := HK5.out; omega))
  have HBX9 := Aside0.mk (hT9_.blk HBX8.out (by omega))
  have HR9 := Aside0.mk (HR8.out.keep (hT9_.block _ (by omega)))
  have HK9 := Aside0.mk (hT9_.kp HK8.out (Or.inl rfl))
  clear hM9_ hT9_ HX8 HY8 HBX8 HR8 HK8 HST1
  refine hK.out _ _ (seven HBX9.out HX9.out HY9.out) (fun hHeld => ?_)
  clear hK K
  refine one_ (i := 15) (N := (some 53)) #[true, true, true, true, true, true, true, true, true, true, true, true, true, true, true, true, false, false] rfl rfl (one_of HT_.out (by kernel_rfl)) (by decide) (fun K hK => ?_)
  obtain ⟨c2, wx, hme_, hTx_, hst_⟩ := HR9.out.entry lawS keyS Try.underlying133 zeroR2 s HSW.out HN5.out.1
  unfold enc2 at hme_
  go_simp
  clear hme_
  have HST2 := Aside0.mk hst_
  have HXx := Aside0.mk (hTx_.blk HX9.out (by have := HKL.out; omega))
  have HYx := Aside0.mk (hTx_.blk HY9.out (by have := HKL.out; have := HK5.out; omega))
  have HBXx := Aside0.mk (hTx_.blk HBX9.out (by omega))
  have HMx := Aside0.mk (HM9.out.keep (hTx_.block _ (by omega)))
  have HKx := Aside0.mk (hTx_.kp HK9.out (Or.inr rfl))
  clear hst_ hTx_ HX9 HY9 HBX9 HR9 HM9 HK9
  refine hK.out _ _ (seven HBXx.out HXx.out HYx.out) (fun hHeld => ?_)
  clear hK K
  refine pure_ (i := 16) (N := (some 54)) (v := ?_) (a' := ?_) #[true, true, true, true, true, true, true, true, true, true, true, true, true, true, true, true, true, false] rfl rfl (any_of HT_.out (by kernel_rfl)) (fun _ _ _ h => h) (Or.inl ⟨by rfl, ?_⟩) ?_ ?_
  rotate_left
  · intro w'
    go_simp
    first | done | with_reducible rfl
  rotate_left
  · simp only [Act.put, List.setIfInBounds_toArray, List.set_cons_zero, List.set_cons_succ, i64_w, i32_w]
    rfl
  refine one_ (i := 17) (N := none) #[true, true, true, true, true, true, true, true, true, true, true, true, true, true, true, true, true, true] rfl rfl (one_of HT_.out (by kernel_rfl)) (by decide) (fun K hK => ?_)
  obtain ⟨wz, hst_, hMz_, hTz_⟩ := HST2.out r wx rfl
  unfold enc2 at hst_
  go_simp
  clear hst_
  have HXz := Aside0.mk (hTz_.blk HXx.out (by have := HKL.out; omega))
  have HYz := Aside0.mk (hTz_.blk HYx.out (by have := HKL.out; have := HK5.out; omega))
  have HBXz := Aside0.mk (hTz_.blk HBXx.out (by omega))
  have HTz : Aside0 (Tb wz n (L5 ++ [(r, s)])) := ⟨⟨HBXz.out, HMx.out.keep (hTz_.block _ (by omega)), by unfold sw; rw [List.map_append]; exact hMz_⟩⟩
  have HKz := Aside0.mk (hTz_.kp HKx.out (Or.inr rfl))
  clear hMz_ hTz_ HXx HYx HBXx HMx HKx HST2
  refine hK.out _ _ (seven HBXz.out HXz.out HYz.out) (fun hHeld => ?_)
  clear hK K
  refine done_ (done_of HT_.out (by kernel_rfl)) ?_
  clear hHeld HT_ HW_
  go_wp2
  go_ret
  rw [HL5.out]
  exact ⟨rfl, HTz.out, HKz.out⟩
end Go.Proofs.Ytkncmbbkehnagaa.Cm

set_option linter.unusedVariables false
set_option linter.unusedSimpArgs false
/-! How many of some Refs stand in each block: held. -/
namespace Go.Proofs.Ytkncmbbkehnagaa.Cm
open Go.RowKit Go.Maps Go.Proofs.YtkncmbbkehnagaaW.PrintWords Go.Proofs.YtkncmbbkehnagaaW.PrintLast Go.Proofs.YtkncmbbkehnagaaW.PrintMore Go.Proofs.Ytkncmbbkehnagaa.Kp Go.Proofs.Ytkncmbbkehnagaa.Cp Go.Proofs.Ytkncmbbkehnagaa.PAll Go.Proofs.Ytkncmbbkehnagaa.Iter Go.Proofs.Ytkncmbbkehnagaa.St Go.Proofs.Ytkncmbbkehnagaa.Sp
attribute [local go_sem] max2_int min2_int max_two min_two max_three min_three max_four min_four

/-! ### plainly -/
def rfOf (x : FD) : Rf := (x.p, x.q)
def spOf (x : FD) : Rf := (x.b, x.k)
abbrev Tab := Int → Option (List (Rf × Rf))
def heldS (live : List Rf) (t : Tab) (x : FD) : Tab := if live.any (rfB (rfOf x)) = true then fun j => if j = x.b then some (putL ((t x.b).getD []) (rfOf x) (spOf x)) else t j else t
def heldT (live : List Rf) (fs : List FD) : Tab := fs.foldl (heldS live) (fun _ => none)
def heldH (live : List Rf) (fs : List FD) (k : Int) : Int := ((heldT live fs k).map (fun L => (L.length : Int))).getD 0
theorem heldT_snoc (live : List Rf) (fs : List FD) (i : Nat) (x : FD) (h : fs[i]? = some x) : heldT live (fs.take (i + 1)) = heldS live (heldT live (fs.take i)) x := by
  unfold heldT
  rw [take_snoc2 fs i x h, List.foldl_append]
  rfl
/-- What is found, in its bounds. -/
def FDwf (x : FD) : Prop := FDok x ∧ Wf2 (rfOf x)
theorem FDwf.sp {x : FD} (h : FDwf x) : Wf2 (spOf x) := by
  obtain ⟨⟨h1, h2, h3, h4⟩, -⟩ := h
  exact ⟨rng_wf (by show (-9223372036854775808 : Int) ≤ x.b; omega) (by show x.b ≤ (9223372036854775807 : Int); omega), rng_wf (by show (-9223372036854775808 : Int) ≤ x.k; omega) (by show x.k ≤ (9223372036854775807 : Int); omega)⟩
def SpApart (fs : List FD) : Prop := fs.Pairwise (fun x y => spOf x ≠ spOf y)
/-- What a table holds was found. -/
theorem held_from (live : List Rf) (fs : List FD) : ∀ i, i ≤ fs.length → ∀ j L, heldT live (fs.take i) j = some L → L.length ≤ i ∧ ∀ r s, (r, s) ∈ L → ∃ x, x ∈ fs.take i ∧ spOf x = s := by
  intro i
  induction i with
  | zero => exact fun _ j L h => by simp [heldT] at h
  | succ i ih =>
    intro hi j L h
    obtain ⟨x, hx⟩ : ∃ x, fs[i]? = some x := ⟨_, List.getElem?_eq_getElem (by omega)⟩
    have ih' := ih (by omega)
    rw [heldT_snoc live fs i x hx] at h
    rw [take_snoc2 fs i x hx]
    have old : ∀ j L, heldT live (fs.take i) j = some L → L.length ≤ i + 1 ∧ ∀ r s, (r, s) ∈ L → ∃ y, y ∈ fs.take i ++ [x] ∧ spOf y = s := fun j L h => by
      obtain ⟨h1, h2⟩ := ih' j L h
      refine ⟨by omega, fun r s hm => ?_⟩
      obtain ⟨y, hy, hs⟩ := h2 r s hm
      exact ⟨y, List.mem_append_left _ hy, hs⟩
    unfold heldS at h
    split at h
    · simp only at h
      by_cases e : j = x.b
      · rw [if_pos e] at h
        obtain rfl := Option.some.inj h
        have hg : (((heldT live (fs.take i)) x.b).getD []).length ≤ i ∧ ∀ r s, (r, s) ∈ ((heldT live (fs.take i)) x.b).getD [] → ∃ y, y ∈ fs.take i ∧ spOf y = s := by
          cases ht : heldT live (fs.take i) x.b with
          | none => exact ⟨Nat.zero_le _, fun r s hm => by simp at hm⟩
          | some L0 => exact ih' _ _ ht
        refine ⟨?_, fun r s hm => ?_⟩
        · unfold putL
          rw [List.length_append, List.length_singleton]
          have := List.length_filter_le (fun y : Rf × Rf => !rfB (rfOf x) y.1) (((heldT live (fs.take i)) x.b).getD [])
          omega
        · unfold putL at hm
          rcases List.mem_append.1 hm with hm | hm
          · obtain ⟨y, hy, hs⟩ := hg.2 r s (List.mem_filter.1 hm).1
            exact ⟨y, List.mem_append_left _ hy, hs⟩
          · have := List.mem_singleton.1 hm
            injection this with e1 e2
            exact ⟨x, by simp, e2.symm⟩
      · rw [if_neg e] at h
        exact old j L h
    · exact old j L h
theorem held_new {live : List Rf} {fs : List FD} (hap : SpApart fs) {i : Nat} {x : FD} (hx : fs[i]? = some x) {L : List (Rf × Rf)} {j : Int} (h : heldT live (fs.take i) j = some L) : hasL (sw L) (spOf x) = false := by
  have hi := (List.getElem?_eq_some_iff.1 hx).1
  refine hasL_false.2 (fun y hy e => ?_)
  obtain ⟨⟨r, s⟩, hm, rfl⟩ := List.mem_map.1 hy
  obtain ⟨-, h2⟩ := held_from live fs i (by omega) j L h
  obtain ⟨z, hz, hs⟩ := h2 r s hm
  obtain ⟨k, hk, hkz⟩ := List.getElem_of_mem hz
  have hki : k < i := by rw [List.length_take] at hk; omega
  rw [List.getElem_take] at hkz
  have := List.pairwise_iff_getElem.1 hap k i (by omega) hi hki
  rw [hkz, (List.getElem?_eq_some_iff.1 hx).2] at this
  exact this (hs.trans e)
theorem heldH_rng (live : List Rf) (fs : List FD) (k : Int) : 0 ≤ heldH live fs k ∧ heldH live fs k ≤ fs.length := by
  unfold heldH
  cases h : heldT live fs k with
  | none => exact ⟨Int.le_refl _, Int.natCast_nonneg _⟩
  | some L =>
    have := held_from live fs fs.length (Nat.le_refl _) k L (by rw [List.take_length]; exact h)
    simp only [Option.map_some, Option.getD_some]
    omega
/-! ### in memory -/
def Rp : Value → Option (Dt × List MemPlace)
  | .pointer none => some (.nil, [])
  | .pointer (some ⟨n, 0, none⟩) => some (.lit (.int .i64 n), [])
  | _ => none
theorem Rp_nil {v : Value} {ps : List MemPlace} (h : Rp v = some (.nil, ps)) : v = .pointer none := by
  unfold Rp at h
  split at h
  · rfl
  · simp at h
  · simp at h
theorem Rp_some {v : Value} {n : Nat} {ps : List MemPlace} (h : Rp v = some (.lit (.int .i64 n), ps)) : v = .pointer (some ⟨n, 0, none⟩) := by
  unfold Rp at h
  split at h
  · simp at h
  · rename_i m
    simp only [Option.some.injEq, Prod.mk.injEq, DataW.lit.injEq, Lit.int.injEq, true_and] at h
    have e : m = n := by have := h.1; omega
    rw [e]
  · simp at h
theorem Rp_inv {v : Value} {y : Dt × List MemPlace} (h : Rp v = some y) : ∃ c : Option Nat, v = .pointer (c.map fun n => ⟨n, 0, none⟩) := by
  unfold Rp at h
  split at h
  · exact ⟨none, rfl⟩
  · rename_i n
    exact ⟨some n, rfl⟩
  · cases h
theorem zeroP (w : World) : (zeroValue 119).run Try.prog w = .ok (.pointer none) w := by kernel_rfl
/-- The tables of the blocks, each its three blocks; map bm holds them. -/
structure Hb (W : World) (bm N : Nat) (t : Int → Option (Nat × List (Rf × Rf))) : Prop where
  map : ∃ D : Dt, W.ownsMap Try.prog 3 Rp bm N D ∧ (∀ k : Int, (Lit.int .i64 k).wf = true → D.atKey (.int .i64 k) .nil = match t k with | none => .nil | some (n, _) => .lit (.int .i64 ((n + 2 : Nat) : Int))) ∧ ∀ k : Int, (Lit.int .i64 k).wf = true → Maps.has D (.int .i64 k) = (t k).isSome
  tb : ∀ k n L, t k = some (n, L) → Tb W n L ∧ bm < n
  apart : ∀ k k' n n' L L', t k = some (n, L) → t k' = some (n', L') → k ≠ k' → n + 2 < n' ∨ n' + 2 < n
theorem Hb.lt {W : World} {bm N : Nat} {t : Int → Option (Nat × List (Rf × Rf))} (h : Hb W bm N t) : bm < W.heap.size := by
  obtain ⟨D, h1, -⟩ := h.map
  exact h1.lt
theorem Hb.below {W W1 : World} {bm N : Nat} {t : Int → Option (Nat × List (Rf × Rf))} (h : Hb W bm N t) (hb : Below W.heap.size W W1) : Hb W1 bm N t := by
  obtain ⟨D, ⟨es, clock, e1, e2, e3, e4⟩, hat, hhas⟩ := h.map
  exact ⟨⟨D, ⟨es, clock, (hb.block bm (blk_lt e1)).trans e1, e2, e3, e4⟩, hat, hhas⟩, fun k n L hk => ⟨(h.tb k n L hk).1.below hb, (h.tb k n L hk).2⟩, h.apart⟩
/-- A table has taken something. -/
theorem Hb.put {W W1 : World} {bm N : Nat} {t : Int → Option (Nat × List (Rf × Rf))} (h : Hb W bm N t) {k : Int} {n : Nat} {L L1 : List (Rf × Rf)} (hk : t k = some (n, L)) (hT : Tb W1 n L1) (hK : Kp (fun j => j = n ∨ j = n + 1) W W1) :
    Hb W1 bm N (fun j => if j = k then some (n, L1) else t j) := by
  have hn := (h.tb k n L hk).2
  obtain ⟨D, ⟨es, clock, e1, e2, e3, e4⟩, hat, hhas⟩ := h.map
  refine ⟨⟨D, ⟨es, clock, (hK.block bm (blk_lt e1) (by omega)).trans e1, e2, e3, e4⟩, fun j wf => ?_, fun j wf => ?_⟩, fun j n' L' hj => ?_, fun j j' n1 n2 L1' L2' h1 h2 hne => ?_⟩
  · rw [hat j wf]
    by_cases e : j = k
    · subst e
      simp [hk]
    · simp [e]
  · rw [hhas j wf]
    by_cases e : j = k
    · subst e
      simp [hk]
    · simp [e]
  · by_cases e : j = k
    · rw [if_pos e] at hj
      injection hj with hj
      injection hj with e1 e2
      subst e1 e2
      exact ⟨hT, hn⟩
    · rw [if_neg e] at hj
      obtain ⟨q1, q2⟩ := h.tb j n' L' hj
      have ha := h.apart j k n' n L' L hj hk e
      have hl := q1.lt
      exact ⟨q1.keep (hK.block _ (by omega) (by omega)) (hK.block _ (by omega) (by omega)) (hK.block _ (by omega) (by omega)), q2⟩
  · have key : ∀ j n1 L1', (if j = k then some (n, L1) else t j) = some (n1, L1') → ∃ L3, t j = some (n1, L3) := fun j n1 L1' hj => by
      by_cases e : j = k
      · rw [if_pos e] at hj
        injection hj with hj
        injection hj with e1 e2
        subst e1
        exact ⟨L, by rw [e]; exact hk⟩
      · rw [if_neg e] at hj
        exact ⟨L1', hj⟩
    obtain ⟨L3, h3⟩ := key j n1 L1' h1
    obtain ⟨L4, h4⟩ := key j' n2 L2' h2
    exact h.apart j j' n1 n2 L3 L4 h3 h4 hne
/-- A table has come. -/
theorem Hb.new {W W1 W2 : World} {bm N : Nat} {t : Int → Option (Nat × List (Rf × Rf))} (h : Hb W bm N t) {k : Int} (wf : (Lit.int .i64 k).wf = true) (hk : t k = none) (hT : Tb W1 W.heap.size []) (hB : Below W.heap.size W W1) {D : Dt} (hD0 : W1.ownsMap Try.prog 3 Rp bm N D) (hat0 : ∀ k : Int, (Lit.int .i64 k).wf = true → D.atKey (.int .i64 k) .nil = match t k with | none => .nil | some (n, _) => .lit (.int .i64 ((n + 2 : Nat) : Int))) (hhas0 : ∀ k : Int, (Lit.int .i64 k).wf = true → Maps.has D (.int .i64 k) = (t k).isSome)
    (hM : W2.ownsMap Try.prog 3 Rp bm (N + 1) (D.put (.int .i64 k) (.lit (.int .i64 ((W.heap.size + 2 : Nat) : Int))))) (hm : W1.mapTurned W2 bm) : Hb W2 bm (N + 1) (fun j => if j = k then some (W.heap.size, []) else t j) := by
  have hg := hm.grown
  have keep : ∀ j, j < W1.heap.size → j ≠ bm → W2.heap[j]? = W1.heap[j]? := fun j hj hne => hg.block j hj (by simpa using hne)
  have hlt := h.lt
  refine ⟨⟨_, hM, fun j wj => ?_, fun j wj => ?_⟩, fun j n' L' hj => ?_, fun j j' n1 n2 L1' L2' h1 h2 hne => ?_⟩
  · by_cases e : j = k
    · subst e
      rw [Maps.atKey_put_same hD0.isMap (by trivial)]
      simp
    · rw [Maps.atKey_put_other (by simpa using e), hat0 j wj]
      simp [e]
  · by_cases e : j = k
    · subst e
      rw [Maps.has_put_same hD0.isMap (by trivial)]
      simp
    · rw [Maps.has_put_other (by simpa using e), hhas0 j wj]
      simp [e]
  · by_cases e : j = k
    · rw [if_pos e] at hj
      injection hj with hj
      injection hj with e1 e2
      subst e1 e2
      have hl := hT.lt
      exact ⟨hT.keep (keep _ (by omega) (by omega)) (keep _ (by omega) (by omega)) (keep _ (by omega) (by omega)), hlt⟩
    · rw [if_neg e] at hj
      obtain ⟨q1, q2⟩ := h.tb j n' L' hj
      have q3 := q1.below hB
      have hl := q3.lt
      exact ⟨q3.keep (keep _ (by omega) (by omega)) (keep _ (by omega) (by omega)) (keep _ (by omega) (by omega)), q2⟩
  · by_cases e : j = k
    · rw [if_pos e] at h1
      injection h1 with h1
      injection h1 with e1 e2
      subst e1
      rw [if_neg (fun e3 => hne (e.trans e3.symm))] at h2
      have := (h.tb j' n2 L2' h2).1.lt
      omega
    · rw [if_neg e] at h1
      have hl1 := (h.tb j n1 L1' h1).1.lt
      by_cases e3 : j' = k
      · rw [if_pos e3] at h2
        injection h2 with h2
        injection h2 with e1 e2
        subst e1
        omega
      · rw [if_neg e3] at h2
        exact h.apart j j' n1 n2 L1' L2' h1 h2 hne
theorem Hb.start (w : World) : Hb (w.alloc (.map #[] 0)) w.heap.size 0 (fun _ => none) :=
  ⟨⟨.map [], World.ownsMap_made w Try.prog 3 Rp, fun k _ => rfl, fun k _ => rfl⟩, fun k n L h => (by cases h), fun k k' n n' L L' h => (by cases h)⟩
/-- What a look-up finds. -/
theorem Hb.look {W : World} {bm N : Nat} {t : Int → Option (Nat × List (Rf × Rf))} (h : Hb W bm N t) (k : Int) (wf : (Lit.int .i64 k).wf = true) :
    (Instr.lookup 117 (.map (some bm)) (.int .i64 k) false).run Try.prog W = .ok (.pointer ((t k).map fun y => ⟨y.1 + 2, 0, none⟩)) W := by
  obtain ⟨D, hown, hat, -⟩ := h.map
  obtain ⟨v, ps, hrun, hR⟩ := hown.lookup lawI Try.underlying117 (zeroP W) (zd := .nil) (zp := []) rfl (keyOf_int_mk Try.underlying3 wf)
  rw [hat k wf] at hR
  cases ht : t k with
  | none =>
    rw [ht] at hR
    rw [hrun, Rp_nil hR]
    rfl
  | some y =>
    obtain ⟨n, L⟩ := y
    rw [ht] at hR
    rw [hrun, Rp_some hR]
    rfl
end Go.Proofs.Ytkncmbbkehnagaa.Cm

set_option linter.unusedVariables false
set_option linter.unusedSimpArgs false
/-! held, walked. -/
namespace Go.Proofs.Ytkncmbbkehnagaa.Cm
open Go.RowKit Go.Maps Go.Proofs.YtkncmbbkehnagaaW.PrintWords Go.Proofs.YtkncmbbkehnagaaW.PrintLast Go.Proofs.YtkncmbbkehnagaaW.PrintMore Go.Proofs.Ytkncmbbkehnagaa.Kp Go.Proofs.Ytkncmbbkehnagaa.Cp Go.Proofs.Ytkncmbbkehnagaa.PAll Go.Proofs.Ytkncmbbkehnagaa.Iter Go.Proofs.Ytkncmbbkehnagaa.St Go.Proofs.Ytkncmbbkehnagaa.Sp
attribute [local go_sem] max2_int min2_int max_two min_two max_three min_three max_four min_four

theorem fdHeld1 {W W1 : World} {b7 : Nat} {x : FD} (h : W.heap[b7]? = some (.cells #[.int .i64 x.p, .int .i64 x.q, .int .i64 x.b, .int .i64 x.k] 49 (0, 0))) (hb : Below W.heap.size W W1) : W1.cell? ⟨b7, 2, none⟩ = some (.int .i64 x.b) := (four (blk_below h hb)).1.2.2.1
abbrev Tn2 := Int → Option (Nat × List (Rf × Rf))

/-- The counts, block by block, as far as the range has come. -/
structure Og (w W : World) (bm N bo br : Nat) (D : Dt) (t : Tn2) (H : Int → Int) (left : Lit → Bool) (cnt : Nat) (Do : Dt) (M : Nat) : Prop where
  rg : W.ranges Try.prog 3 Rp bm br N D left cnt
  out : W.ownsMap Try.prog 3 (plainElem (H := Unit) Try.prog 3) bo M Do
  mc : M + cnt ≤ N
  at_ : ∀ k : Int, (Lit.int .i64 k).wf = true → Do.atKey (.int .i64 k) zd = if left (.int .i64 k) = true then zd else .lit (.int .i64 (H k))
  tb : ∀ k n L, t k = some (n, L) → Tb W n L
  bel : Below w.heap.size w W
def reg_mheld_7.T : Bool × List (List Nat × List Nat) := (true, [([], []), ([], []), ([1], [1]), ([2], [2]), ([], []), ([0, 3, 4, 4, 0, 1, 2, 3, 4], [0, 3, 4])])
def reg_mheld_7.B : List Nat := [0, 0, 2, 6, 0, 31]
theorem reg_mheld_7.tab : rtab .any (opsOf Try.f37 7) = reg_mheld_7.T := by kernel_rfl
theorem reg_mheld_7.bits : waitsOk reg_mheld_7.T.2 reg_mheld_7.B = true := by kernel_rfl
set_option maxHeartbeats 8000000 in
set_option maxRecDepth 100000 in
theorem mheld {w : World} {q g c cf cl : Nat} {A F Al : Option Addr} {n : Nat} {vh : Value} {fs : List FD} {live : List Rf} (h : w.heap[q]? = some (.cells (scCells g (.slice A n c) (.slice F fs.length cf) vh) 87 (0, 0))) (hC : Kd.C kFD w F fs.length fs) (hL : Kd.C k2 w Al live.length live) (hl : fs.length ≤ 100000) (hl2 : live.length ≤ 1000) (hwf : ∀ x ∈ fs, FDwf x) (hap : SpApart fs) :
    Calls Try.prog 37 #[.pointer (some ⟨q, 0, none⟩), .slice Al live.length cl] w fun e w' => ∃ bm, e = .returned (.map (some bm)) ∧ HM w' bm (heldH live fs) ∧ Below w.heap.size w w' := by
  have hmm := @run_makeMap Try.prog
  obtain ⟨w1, hw1⟩ : ∃ w1, w.alloc (.map #[] 0) = w1 := ⟨_, rfl⟩
  obtain ⟨bm, hbm⟩ : ∃ x, w.heap.size = x := ⟨_, rfl⟩
  have HB1 : Aside0 (Below w.heap.size w w1) := ⟨by rw [← hw1]; exact below_alloc (Below.refl _ _) _⟩
  have HH1 : Aside0 (Hb w1 bm 0 (fun _ => none)) := ⟨by rw [← hw1, ← hbm]; exact Hb.start w⟩
  obtain ⟨-, -, c2, -⟩ := scAt (blk_below h HB1.out)
  have HC := Aside0.mk hC
  have HLV := Aside0.mk hL
  have HL := Aside0.mk hl
  have HL2 := Aside0.mk hl2
  have HWF := Aside0.mk hwf
  have HAP := Aside0.mk hap
  have HW1 := Aside0.mk hw1
  have HBM := Aside0.mk hbm
  clear h hC hL hl hl2 hwf hap hw1 hbm
  go_enter Try.func37, Try.ntmps37
  go_upto_region 2 with fail
  rw [HW1.out, HBM.out]
  go_wp2_with fail
  clear c2
  go_loopw [17] (fun v17 wr => ∃ (i N : Nat) (t : Tn2), i ≤ fs.length ∧ v17 = .int .i64 (i : Int) ∧ Aside0 (Hb wr bm N t) ∧ Aside0 (∀ j, heldT live (fs.take i) j = (t j).map (·.2)) ∧ Aside0 (N ≤ i) ∧ Aside0 (Below w.heap.size w wr)) (fun v17 _ => fs.length - (intOf v17).toNat)
  case atStart => exact ⟨0, 0, fun _ => none, Nat.zero_le _, rfl, HH1, ⟨fun j => rfl⟩, ⟨Nat.le_refl _⟩, HB1⟩
  case round =>
    clear HH1
    obtain ⟨i, N, t, hi, rfl, HH, HT, HN, HBL⟩ := hrel
    by_cases hlt : i < fs.length
    · have hlt2 : (i : Int) < (fs.length : Int) := by omega
      have HLT := Aside0.mk hlt
      have hw3 : wrap64 ((i : Int) + 1) = ((i + 1 : Nat) : Int) := by rw [show (i : Int) + 1 = ((i + 1 : Nat) : Int) by omega]; exact wrap_small _ (by omega) (by have := HL.out; omega)
      have HW3 := Aside0.mk hw3
      obtain ⟨x, hx⟩ : ∃ x, fs[i]? = some x := ⟨_, List.getElem?_eq_getElem hlt⟩
      have hg : fs.getD i zFD = x := by rw [List.getD_eq_getElem?_getD, hx]; rfl
      obtain ⟨ad, rfl, x0, x1, x2, x3⟩ := fdAt (Kd.C_below HC.out HBL.out) i hlt
      rw [hg] at x0 x1 x2 x3
      have HX := Aside0.mk hx
      have HXW := Aside0.mk (HWF.out x (List.mem_of_getElem? hx))
      clear hi hlt hx hg
      go_upto_region 5 with fail
      obtain ⟨w5, hw5⟩ : ∃ w5, wr.alloc (.cells #[.int .i64 x.p, .int .i64 x.q, .int .i64 x.b, .int .i64 x.k] 49) = w5 := ⟨_, rfl⟩
      obtain ⟨b7, hb7⟩ : ∃ b, wr.heap.size = b := ⟨_, rfl⟩
      have hb5_ : Below wr.heap.size wr w5 := by rw [← hw5]; exact below_alloc (Below.refl _ _) _
      have HX5 : Aside0 (w5.heap[b7]? = some (.cells #[.int .i64 x.p, .int .i64 x.q, .int .i64 x.b, .int .i64 x.k] 49 (0, 0))) := ⟨by rw [← hw5, ← hb7]; exact blk_new wr _⟩
      have HH5 := Aside0.mk (HH.out.below hb5_)
      have HB5 := Aside0.mk (below_step HBL.out hb5_)
      rw [hw5, hb7]
      obtain ⟨⟨y0, y1, y2, y3⟩, -⟩ := four HX5.out
      clear hw5 hb7 hb5_ HH HBL x0 x1 x2 x3 hw3
      go_wp2_with fail
      have hcc := containsr (c := cl) (r := rfOf x) (Kd.C_below HLV.out HB5.out) HL2.out
      have HCC := Aside0.mk hcc
      clear hcc
      refine HCC.out.mono ?_
      rintro ev w6 ⟨rfl, hb6⟩
      have HX6 := Aside0.mk (blk_below HX5.out hb6)
      have HH6 := Aside0.mk (HH5.out.below hb6)
      have HB6 := Aside0.mk (below_step HB5.out hb6)
      clear hb6 HCC HX5 HH5 HB5 y0 y1 y2 y3
      obtain ⟨⟨y0, y1, y2, y3⟩, -⟩ := four HX6.out
      have hw3 := HW3.out
      cases hin : live.any (rfB (rfOf x)) with
      | false =>
        have HIN := Aside0.mk hin
        clear hin
        go_wp2_with fail
        go_roundw
        case measure =>
          have hm : fs.length - ((i + 1 : Nat) : Int).toNat < fs.length - ((i : Nat) : Int).toNat := by
            rw [Int.toNat_natCast, Int.toNat_natCast]
            exact Nat.sub_lt_sub_left HLT.out (Nat.lt_succ_self i)
          first | exact hm | (rw [hw3]; exact hm)
        case rel => exact ⟨i + 1, N, t, HLT.out, by first | rw [hw3] | rfl, HH6, ⟨fun j => by rw [heldT_snoc live fs i x HX.out]; unfold heldS; rw [HIN.out]; exact HT.out j⟩, ⟨Nat.le_succ_of_le HN.out⟩, HB6⟩
      | true =>
        have HIN := Aside0.mk hin
        have wfb : (Lit.int .i64 x.b).wf = true := HXW.out.sp.1
        have HWB := Aside0.mk wfb
        have hlk := HH6.out.look x.b wfb
        have HSTEP : Aside0 (∀ j, heldT live (fs.take (i + 1)) j = if j = x.b then some (putL (((t x.b).map (·.2)).getD []) (rfOf x) (spOf x)) else (t j).map (·.2)) := ⟨fun j => by
          rw [heldT_snoc live fs i x HX.out]
          unfold heldS
          rw [HIN.out, if_pos rfl]
          by_cases e : j = x.b
          · rw [if_pos e, if_pos e, HT.out]
          · rw [if_neg e, if_neg e, HT.out]⟩
        clear hin wfb
        cases ht : t x.b with
        | none =>
          rw [ht] at hlk
          have HTN := Aside0.mk ht
          clear ht
          simp only [Option.map_none] at hlk
          go_upto_region 7 with fail
          clear hlk y0 y1 y2 y3 hw3
          refine start_ (n := 6) (S := fun w' => w'.cell? ⟨b7, 2, none⟩ = some (.int .i64 x.b)) (ds := []) #[false, false, false, false, false, false] (by kernel_rfl) rfl rfl (fdHeld1 HX6.out (below_drew (Below.refl _ _))) (fun hHeld => ?_)
          refine with_tabW reg_mheld_7.tab reg_mheld_7.bits (fun HT_ HW_ => ?_)
          obtain ⟨wd, hwd⟩ : ∃ wd, w6.drew = wd := ⟨_, rfl⟩
          have hbd_ : Below w6.heap.size w6 wd := by rw [← hwd]; exact below_drew (Below.refl _ _)
          have HXd := Aside0.mk (blk_below HX6.out hbd_)
          have HHd := Aside0.mk (HH6.out.below hbd_)
          have HBd := Aside0.mk (below_step HB6.out hbd_)
          obtain ⟨nb, hnb⟩ : ∃ n, wd.heap.size = n := ⟨_, rfl⟩
          have HNB := Aside0.mk hnb
          rw [hwd] at hHeld ⊢
          clear hwd hnb hbd_ HX6 HH6 HB6
          refine pure_ (i := 0) (N := (some 32)) (v := ?_) (a' := ?_) #[true, false, false, false, false, false] rfl rfl (any_of HT_.out (by kernel_rfl)) (fun _ _ _ h => h) (Or.inl ⟨by rfl, ?_⟩) ?_ ?_
          rotate_left
          · intro w'
            go_simp
            first | done | with_reducible rfl
          rotate_left
          · simp only [Act.put, List.setIfInBounds_toArray, List.set_cons_zero, List.set_cons_succ, i64_w, i32_w]
            rfl
          refine pure_ (i := 1) (N := (some 33)) (v := ?_) (a' := ?_) #[true, true, false, false, false, false] rfl rfl (any_of HT_.out (by kernel_rfl)) (fun _ _ _ h => h) (Or.inl ⟨by rfl, ?_⟩) ?_ ?_
          rotate_left
          · intro w'
            go_simp
            first | done | with_reducible rfl
          rotate_left
          · simp only [Act.put, List.setIfInBounds_toArray, List.set_cons_zero, List.set_cons_succ, i64_w, i32_w]
            rfl
          refine pure_ (i := 2) (N := (some 34)) (v := ?_) (a' := ?_) #[true, true, true, false, false, false] rfl rfl (any_of HT_.out (by kernel_rfl)) (fun _ _ _ h => h) (Or.inl ⟨by rfl, ?_⟩) ?_ ?_
          rotate_left
          · intro w'
            go_simp
            first | done | with_reducible rfl
          rotate_left
          · simp only [Act.put, List.setIfInBounds_toArray, List.set_cons_zero, List.set_cons_succ, i64_w, i32_w]
            rfl
          refine take_ (i := 3) (N := (some 35)) (v := ?_) (a' := ?_) #[true, true, true, true, false, false] rfl rfl (take_ofW HT_.out HW_.out (by kernel_rfl)) (fun _ _ _ h => h) (Or.inl ⟨by rfl, ?_⟩) hHeld ?_ ?_
          rotate_left
          · rintro w' s0
            go_simp
            first | done | with_reducible rfl
          rotate_left
          · simp only [Act.put, List.setIfInBounds_toArray, List.set_cons_zero, List.set_cons_succ, i64_w, i32_w]
            rfl
          refine one_ (i := 4) (N := (some 36)) #[true, true, true, true, true, false] rfl rfl (one_of HT_.out (by kernel_rfl)) (by decide) (fun K hK => ?_)
          refine goes_ Try.func59 (by kernel_rfl) rfl #[] (by rfl) rfl rfl (by (try simp only [List.map_toArray, List.map_cons, List.map_nil]); first | done | rfl) ?_
          with_reducible refine (pnew wd).mono ?_
          rintro ev_ w8 ⟨rfl, hT8_, hb8_⟩
          refine ⟨_, rfl, ?_⟩
          rw [HNB.out]
          have HT8 := Aside0.mk hT8_
          have HB8 := Aside0.mk hb8_
          have HX8 := Aside0.mk (blk_below HXd.out hb8_)
          clear hT8_ hb8_
          refine hK.out _ _ (fdHeld1 HX8.out (Below.refl _ _)) (fun hHeld => ?_)
          clear hK K
          refine norm_ (a' := ?_) ?_ ?_
          rotate_left
          · show Act.put _ (some 36) _ = _
            simp only [Act.put, List.setIfInBounds_toArray, List.set_cons_zero, List.set_cons_succ, i64_w, i32_w]
            rfl
          refine one_ (i := 5) (N := none) #[true, true, true, true, true, true] rfl rfl (one_of HT_.out (by kernel_rfl)) (by decide) (fun K hK => ?_)
          have hat0_ := (HHd.out.below HB8.out).map
          obtain ⟨D_, hown_, hat_, hhas_⟩ := hat0_
          obtain ⟨w9, hst_, hown9_, hturn_⟩ := hown_.store lawI Try.underlying117 (by have := HN.out; have := HLT.out; have := HL.out; unfold maxLen; omega) (keyOf_int_mk Try.underlying3 HWB.out) (val := .pointer (some ⟨nb + 2, 0, none⟩)) (d := .lit (.int .i64 ((nb + 2 : Nat) : Int))) (ps := []) rfl
          go_simp
          clear hst_
          have HH9 : Aside0 (Hb w9 bm (N + 1) (fun j => if j = x.b then some (nb, []) else t j)) := ⟨by have h9_ := HHd.out.new HWB.out HTN.out HT8.out HB8.out hown_ hat_ hhas_ (by rw [HNB.out]; exact hown9_) hturn_; rw [HNB.out] at h9_; exact h9_⟩
          have HX9 := Aside0.mk ((hturn_.grown.block b7 (blk_lt HX8.out) (fun e => by injection e with e; have h1_ := HHd.out.lt; subst e; obtain ⟨D2_, ⟨es_, cl_, e1_, -⟩, -⟩ := HHd.out.map; rw [HXd.out] at e1_; cases e1_)).trans HX8.out)
          have HB9 : Aside0 (Below w.heap.size w w9) := ⟨(below_step HBd.out HB8.out).grown hturn_.grown (by have h1_ := HBd.out.size; have h2_ := HB8.out.size; omega) (fun j hj => by injection hj with hj; rw [← hj, HBM.out]; exact Nat.le_refl _)⟩
          clear hown_ hat_ hhas_ hown9_ hturn_ HT8 HB8 HX8 HXd HHd HBd
          refine hK.out _ _ (fdHeld1 HX9.out (Below.refl _ _)) (fun hHeld => ?_)
          clear hK K
          refine done_ (done_of HT_.out (by kernel_rfl)) ?_
          clear hHeld HT_ HW_
          obtain ⟨t9, ht9⟩ : ∃ f : Tn2, (fun j => if j = x.b then some (nb, []) else t j) = f := ⟨_, rfl⟩
          rw [ht9] at HH9
          have HT9 : Aside0 (∀ j, t9 j = if j = x.b then some (nb, []) else t j) := ⟨fun j => by rw [← ht9]⟩
          have HK9 : Aside0 (t9 x.b = some (nb, [])) := ⟨by rw [HT9.out]; simp⟩
          clear ht9
          have HL9 := Aside0.mk (HH9.out.tb x.b _ _ HK9.out)
          have hlk9 := HH9.out.look x.b HWB.out
          rw [HK9.out] at hlk9
          simp only [Option.map_some] at hlk9
          obtain ⟨⟨y0, y1, y2, y3⟩, -⟩ := four HX9.out
          have HPU := Aside0.mk (pput HL9.out.1 (rfOf x) (spOf x) HXW.out.2 HXW.out.sp HXW.out.1.1 HXW.out.1.2.2.1 (hasL_false.2 (fun y hy => absurd hy (by simp [sw]))))
          go_wp2_with fail
          refine HPU.out.mono ?_
          rintro ev wz ⟨rfl, hTz, hKz⟩
          have HHz := Aside0.mk (HH9.out.put HK9.out hTz hKz)
          have HBz : Aside0 (Below w.heap.size w wz) := ⟨hKz.elder HB9.out HB9.out.size (fun k hk => by have h1 := HL9.out.2; have h2 := HBM.out; rcases hk with hk | hk <;> omega)⟩
          clear hTz hKz HPU y0 y1 y2 y3 hlk9
          have hw3 := HW3.out
          go_wp2_with fail
          go_roundw
          case measure =>
            have hm : fs.length - ((i + 1 : Nat) : Int).toNat < fs.length - ((i : Nat) : Int).toNat := by
              rw [Int.toNat_natCast, Int.toNat_natCast]
              exact Nat.sub_lt_sub_left HLT.out (Nat.lt_succ_self i)
            first | exact hm | (rw [hw3]; exact hm)
          case rel => exact ⟨i + 1, N + 1, _, HLT.out, by first | rw [hw3] | rfl, HHz, ⟨fun j => (by rw [HSTEP.out j, HTN.out]; by_cases e : j = x.b <;> simp [e, HT9.out])⟩, ⟨Nat.succ_le_succ HN.out⟩, HBz⟩
        | some y =>
          obtain ⟨m, L⟩ := y
          have HK6 := Aside0.mk ht
          rw [ht] at hlk
          simp only [Option.map_some] at hlk
          go_upto_region 8 with fail
          clear hlk y0 y1 y2 y3 ht hw3
          have HL9 := Aside0.mk (HH6.out.tb x.b _ _ HK6.out)
          have hlk9 := HH6.out.look x.b HWB.out
          rw [HK6.out] at hlk9
          simp only [Option.map_some] at hlk9
          obtain ⟨⟨y0, y1, y2, y3⟩, -⟩ := four HX6.out
          have HPU := Aside0.mk (pput HL9.out.1 (rfOf x) (spOf x) HXW.out.2 HXW.out.sp HXW.out.1.1 HXW.out.1.2.2.1 (held_new HAP.out HX.out (j := x.b) (by rw [HT.out, HK6.out]; rfl)))
          go_wp2_with fail
          refine HPU.out.mono ?_
          rintro ev wz ⟨rfl, hTz, hKz⟩
          have HHz := Aside0.mk (HH6.out.put HK6.out hTz hKz)
          have HBz : Aside0 (Below w.heap.size w wz) := ⟨hKz.elder HB6.out HB6.out.size (fun k hk => by have h1 := HL9.out.2; have h2 := HBM.out; rcases hk with hk | hk <;> omega)⟩
          clear hTz hKz HPU y0 y1 y2 y3 hlk9
          have hw3 := HW3.out
          go_wp2_with fail
          go_roundw
          case measure =>
            have hm : fs.length - ((i + 1 : Nat) : Int).toNat < fs.length - ((i : Nat) : Int).toNat := by
              rw [Int.toNat_natCast, Int.toNat_natCast]
              exact Nat.sub_lt_sub_left HLT.out (Nat.lt_succ_self i)
            first | exact hm | (rw [hw3]; exact hm)
          case rel => exact ⟨i + 1, N, _, HLT.out, by first | rw [hw3] | rfl, HHz, ⟨fun j => (by rw [HSTEP.out j, HK6.out]; by_cases e : j = x.b <;> simp [e])⟩, ⟨Nat.le_succ_of_le HN.out⟩, HBz⟩
    · have he : i = fs.length := by omega
      subst he
      have hnn : ¬ (((fs.length : Nat) : Int) < (fs.length : Int)) := by omega
      clear hlt hi
      obtain ⟨D, hown, hat, hhas⟩ := HH.out.map
      obtain ⟨w2, hw2⟩ : ∃ w2, wr.alloc (.map #[] 0) = w2 := ⟨_, rfl⟩
      obtain ⟨bo, hbo⟩ : ∃ x, wr.heap.size = x := ⟨_, rfl⟩
      have hb2_ : Below wr.heap.size wr w2 := by rw [← hw2]; exact below_alloc (Below.refl _ _) _
      have hown2 : w2.ownsMap Try.prog 3 Rp bm N D := by rw [← hw2]; exact hown.alloc _
      have HO2 : Aside0 (w2.ownsMap Try.prog 3 (plainElem (H := Unit) Try.prog 3) bo 0 (.map [])) := ⟨by rw [← hw2, ← hbo]; exact World.ownsMap_made wr Try.prog 3 _⟩
      have HH2 := Aside0.mk (HH.out.below hb2_)
      have HB2 := Aside0.mk (below_step HBL.out hb2_)
      have HBO : Aside0 (bm < bo ∧ w.heap.size ≤ bo) := ⟨by rw [← hbo]; exact ⟨HH.out.lt, HBL.out.size⟩⟩
      have HTA : Aside0 (∀ k n L, t k = some (n, L) → n + 2 < bo) := ⟨fun k n L hk => by rw [← hbo]; exact (HH.out.tb k n L hk).1.lt⟩
      have HAT := Aside0.mk hat
      have HHAS := Aside0.mk hhas
      have HTT : Aside0 (∀ k, heldH live fs k = ((t k).map (fun y => (y.2.length : Int))).getD 0) := ⟨fun k => by
        unfold heldH
        have := HT.out k
        rw [List.take_length] at this
        rw [this]
        cases t k <;> rfl⟩
      have HOW := Aside0.mk hown2
      have HW2 := Aside0.mk hw2
      have HBOE := Aside0.mk hbo
      clear hown hat hhas hw2 hbo hb2_ hown2 HH HT HBL
      go_upto_region 11 with fail
      rw [HW2.out, HBOE.out]
      have hown2 := HOW.out
      go_wp2_with (first | (at_range; refine wpList_range_own _ rfl _ 117 rfl 3 119 lawI Try.underlying117 _ bm N D rfl hown2 ?_; intro w0 hrg0 hg0 hs0) | fail)
      obtain ⟨br, hbr⟩ : ∃ x, w2.heap.size = x := ⟨_, rfl⟩
      rw [hbr] at hrg0 ⊢
      have HOG : Aside0 (Og w w0 bm N bo br D t (heldH live fs) (Maps.has D) (Maps.size D) (.map []) 0) := ⟨{
        rg := hrg0
        out := HO2.out.kept hg0 (by simp)
        mc := by have := hown2.size_le; omega
        at_ := fun k wf => by
          show zd = _
          cases hh : Maps.has D (.int .i64 k) with
          | true => rw [if_pos rfl]
          | false =>
            rw [if_neg (by decide), HTT.out k]
            have h1 := HHAS.out k wf
            rw [hh] at h1
            cases htk : t k with
            | none => rfl
            | some y => rw [htk] at h1; cases h1
        tb := fun k n L hk => (HH2.out.tb k n L hk).1.keep (hg0.block _ (by have := HTA.out k n L hk; have := HO2.out.lt; omega) (by simp)) (hg0.block _ (by have := HTA.out k n L hk; have := HO2.out.lt; omega) (by simp)) (hg0.block _ (by have := HTA.out k n L hk; have := HO2.out.lt; omega) (by simp))
        bel := HB2.out.grown hg0 HB2.out.size (fun j hj => by cases hj) }⟩
      have HBR : Aside0 (bo < br ∧ w.heap.size ≤ br) := ⟨by rw [← hbr]; exact ⟨HO2.out.lt, HB2.out.size⟩⟩
      have HNL := Aside0.mk (show N ≤ 100000 by have := HN.out; have := HL.out; omega)
      clear hrg0 hg0 hs0 hown2 hbr HO2 HOW HH2 HB2
      go_loopw [9] (fun _ wx => ∃ (left : Lit → Bool) (cnt M : Nat) (Do : Dt), Aside0 (Og w wx bm N bo br D t (heldH live fs) left cnt Do M)) (fun _ wx => wx.rangeLeft bm br)
      case atStart => exact ⟨_, _, _, _, HOG⟩
      case round =>
        clear HOG
        obtain ⟨left, cnt, M, Do, HO⟩ := hrel
        have hrg := HO.out.rg
        go_wp2_with (first
          | (at_next; refine wpList_next_ranges _ rfl _ rfl 3 lawI Rp (Value.int .i64) (fun c : Option Nat => .pointer (c.map fun n => ⟨n, 0, none⟩)) (fun key kl hkey => by obtain ⟨x, rfl, _⟩ := Maps.keyOf_int_inv Try.underlying3 hkey; exact ⟨x, rfl⟩) (fun v y hv => Rp_inv hv) bm br N D left cnt rfl hrg ?_ ?_)
          | fail)
        · intro hc0 hl0
          have HL0 := Aside0.mk hl0
          clear hc0 hl0 hrg
          go_wp2
          go_ret
          refine ⟨bo, rfl, ⟨⟨M, Do, HO.out.out, fun k wf => ?_⟩, fun k => ?_⟩, HO.out.bel⟩
          · rw [HO.out.at_ k wf, HL0.out, if_neg (by decide)]
          · obtain ⟨h1, h2⟩ := heldH_rng live fs k
            have := HL.out
            exact ⟨h1, by omega⟩
        · intro x c kl y ps w7 cnt7 hkey hlk hR hat hrg7 hlt hg7 hs7 hen
          obtain ⟨x', ex, rfl, hwx⟩ := Maps.keyOf_int_inv Try.underlying3 hkey
          cases ex
          have hsome : ∃ n L, t x = some (n, L) := by
            have h1 := HHAS.out x hwx
            rw [Maps.has_true_of_atKey hat] at h1
            cases htx : t x with
            | none => rw [htx] at h1; cases h1
            | some y => exact ⟨y.1, y.2, rfl⟩
          obtain ⟨n, L, htx⟩ := hsome
          have hy : y = .lit (.int .i64 ((n + 2 : Nat) : Int)) := by
            rw [← hat .nil, HAT.out x hwx, htx]
          rw [hy] at hR
          have hc := Rp_some hR
          rw [hc] at hen ⊢
          have hll : (L.length : Int) = heldH live fs x := by rw [HTT.out x, htx]; rfl
          have hrl := heldH_rng live fs x
          have WFL := Aside0.mk (show (Lit.int .i64 (L.length : Int)).wf = true from rng_wf (by omega) (by have := HL.out; omega))
          have HLL := Aside0.mk hll
          have HT7 := Aside0.mk ((HO.out.tb x n L htx).keep (hg7.block _ (by have := (HO.out.tb x n L htx).lt; omega) (by have := HTA.out x n L htx; have := HBR.out.1; intro e; injection e with e; omega)) (hg7.block _ (by have := (HO.out.tb x n L htx).lt; omega) (by have := HTA.out x n L htx; have := HBR.out.1; intro e; injection e with e; omega)) (hg7.block _ (by have := (HO.out.tb x n L htx).lt; omega) (by have := HTA.out x n L htx; have := HBR.out.1; intro e; injection e with e; omega)))
          have hout7 := HO.out.out.kept hg7 (by have := HBR.out.1; intro e; injection e with e; omega)
          have HTB7 : Aside0 (∀ k n L, t k = some (n, L) → Tb w7 n L) := ⟨fun k n L hk => (HO.out.tb k n L hk).keep (hg7.block _ (by have := (HO.out.tb k n L hk).lt; omega) (by have := HTA.out k n L hk; have := HBR.out.1; intro e; injection e with e; omega)) (hg7.block _ (by have := (HO.out.tb k n L hk).lt; omega) (by have := HTA.out k n L hk; have := HBR.out.1; intro e; injection e with e; omega)) (hg7.block _ (by have := (HO.out.tb k n L hk).lt; omega) (by have := HTA.out k n L hk; have := HBR.out.1; intro e; injection e with e; omega))⟩
          have HB7 : Aside0 (Below w.heap.size w w7) := ⟨HO.out.bel.grown hg7 HO.out.bel.size (fun j hj => by injection hj with hj; have := HBR.out.2; omega)⟩
          have HRG7 := Aside0.mk hrg7
          have HLT7 := Aside0.mk hlt
          have HHX := Aside0.mk hwx
          have HMC := Aside0.mk (show M + 1 + cnt7 ≤ N by have := HO.out.mc; omega)
          have HCE := Aside0.mk hrg.left_eq
          have HATO := Aside0.mk HO.out.at_
          clear hkey hlk hR hat hrg7 hlt hg7 hs7 hc hy htx hll hrl hrg HO
          go_wp2_with fail
          clear hen
          refine (plen HT7.out).mono ?_
          rintro ev w8 ⟨rfl, rfl⟩
          go_wp2_with (first
            | (at_mapUpdate; refine wpList_mapUpdate_own _ rfl _ _ _ 94 rfl 3 3 lawI Try.underlying94 _ bo M Do rfl hout7 (by have := HMC.out; have := HNL.out; unfold maxLen; omega) _ _ _ rfl rfl (keyOf_int_mk Try.underlying3 HHX.out) _ [] (plainElem_int Try.underlying3 WFL.out) ?_; intro w9 hout9 hg9; go_frame)
            | fail)
          have HRG9 := Aside0.mk (HRG7.out.kept hg9 (by have := HBO.out.1; intro e; injection e with e; omega) (by have := HBR.out.1; intro e; injection e with e; omega))
          have HOG9 : Aside0 (Og w w9 bm N bo br D t (heldH live fs) (fun z => left z && !z.sameKey (.int .i64 x)) cnt7 (Do.put (.int .i64 x) (.lit (.int .i64 (L.length : Int)))) (M + 1)) := ⟨{
            rg := HRG9.out
            out := hout9
            mc := HMC.out
            at_ := fun k wf => by
              by_cases e : k = x
              · subst e
                rw [Maps.atKey_put_same hout7.isMap (by trivial), HLL.out, if_neg (by rw [WideAt.sameKey_self (by trivial)]; simp)]
              · rw [Maps.atKey_put_other (by simpa using e), HATO.out k wf, Maps.sameKey_ne (by simpa using e)]
                simp
            tb := fun k n L hk => (HTB7.out k n L hk).keep (hg9.block _ (by have := (HTB7.out k n L hk).lt; omega) (by have := HTA.out k n L hk; intro e; injection e with e; omega)) (hg9.block _ (by have := (HTB7.out k n L hk).lt; omega) (by have := HTA.out k n L hk; intro e; injection e with e; omega)) (hg9.block _ (by have := (HTB7.out k n L hk).lt; omega) (by have := HTA.out k n L hk; intro e; injection e with e; omega))
            bel := HB7.out.grown hg9 HB7.out.size (fun j hj => by injection hj with hj; have := HBO.out.2; omega) }⟩
          clear hout7 hout9 hg9
          go_roundw
          case rel => exact ⟨_, _, _, _, HOG9⟩
          case measure => rw [HRG9.out.left_eq, HCE.out]; exact HLT7.out
end Go.Proofs.Ytkncmbbkehnagaa.Cm

set_option linter.unusedVariables false
set_option linter.unusedSimpArgs false
/-! Pick. -/
namespace Go.Proofs.Ytkncmbbkehnagaa.Cm
open Go.RowKit Go.Maps Go.Proofs.YtkncmbbkehnagaaW.PrintWords Go.Proofs.YtkncmbbkehnagaaW.PrintLast Go.Proofs.YtkncmbbkehnagaaW.PrintMore Go.Proofs.Ytkncmbbkehnagaa.Kp Go.Proofs.Ytkncmbbkehnagaa.Cp Go.Proofs.Ytkncmbbkehnagaa.PAll Go.Proofs.Ytkncmbbkehnagaa.Iter Go.Proofs.Ytkncmbbkehnagaa.St Go.Proofs.Ytkncmbbkehnagaa.Sp
attribute [local go_sem] max2_int min2_int max_two min_two max_three min_three max_four min_four

set_option maxHeartbeats 2000000 in
set_option maxRecDepth 100000 in
theorem indexffNil (w : World) (b : Nat) : Calls Try.prog 62 #[.slice none 0 0, .func (.func 42) #[] #[.pointer (some ⟨b, 0, none⟩)]] w fun e w' => e = .returned (.int .i64 (-1)) ∧ w' = w := by
  go_enter Try.func62, Try.ntmps62
  go_wp2_with fail
  go_loop [8] (fun v8 => v8 = .int .i64 0) (fun v8 => 0)
  case atStart => rfl
  case round =>
    subst hrel
    go_wp2
    go_ret
    exact ⟨rfl, rfl⟩
set_option maxHeartbeats 2000000 in
set_option maxRecDepth 100000 in
theorem delfNil (w : World) (b : Nat) : Calls Try.prog 40 #[.slice none 0 0, .func (.func 42) #[] #[.pointer (some ⟨b, 0, none⟩)]] w fun e w' => e = .returned (.slice none 0 0) ∧ w' = w := by
  go_enter Try.func40, Try.ntmps40
  go_wp2_with fail
  refine (indexffNil w b).mono ?_
  rintro ev w1 ⟨rfl, rfl⟩
  go_wp2
  go_ret
  exact ⟨rfl, rfl⟩
/-- DeleteFunc of a row of one's own: empty, or a row again. -/
theorem delfR {w : World} {b base : Nat} {r : Rf} {v : Value} {l : List FD} (hb : w.heap[b]? = some (.cells #[.int .i64 r.1, .int .i64 r.2] 31 (0, 0))) (hR : kFD.R 49 w base (fun _ => True) v l) (hl : l.length ≤ 100000) :
    Calls Try.prog 40 #[v, .func (.func 42) #[] #[.pointer (some ⟨b, 0, none⟩)]] w fun e w' => ∃ A c, e = .returned (.slice A (keepF l r).length c) ∧ (∀ k, base ≤ k ∨ k < base) ∧ (keepF l r ≠ [] → ∃ blk, A = some ⟨blk, 0, none⟩ ∧ RowF w' blk (keepF l r)) ∧ Kp (fun k => base ≤ k) w w' := by
  obtain ⟨-, inner, ho, hreps⟩ := hR
  obtain ⟨hil, h⟩ := ho
  rcases h with ⟨rfl, hn⟩ | ⟨blk, cap, cur, rfl, hbk, hh, hnc, -, hsz, hx⟩
  · have hnil : l = [] := List.eq_nil_of_length_eq_zero hn
    subst hnil
    refine (delfNil w b).mono ?_
    rintro e w' ⟨rfl, rfl⟩
    exact ⟨none, 0, rfl, fun k => by omega, fun h => absurd rfl h, Kp.refl _ _⟩
  · have hrow : RowF w blk l := by
      refine ⟨cur, hh, fun i x hi j u hu => ?_⟩
      have hj : j < 4 := (List.getElem?_eq_some_iff.1 hu).1
      have hil2 := (List.getElem?_eq_some_iff.1 hi).1
      have h1 := hreps.2 i x hi
      have h2 : (inner.drop (i * 4)).take 4 = fdCells x := by
        have := fdOpen (kFD.K_of_M h1)
        exact this
      have h3 : inner[i * 4 + j]? = some u := by
        have h4 : ((inner.drop (i * 4)).take 4)[j]? = some u := by rw [h2]; exact hu
        rw [List.getElem?_take, if_pos hj, List.getElem?_drop] at h4
        exact h4
      rw [← hx] at h3
      rw [List.getElem?_take] at h3
      split at h3
      · simpa using h3
      · cases h3
    refine (delf (c := cap) hb hrow hnc hl).mono ?_
    rintro e w' ⟨rfl, h1, h2⟩
    exact ⟨_, _, rfl, fun k => by omega, fun _ => ⟨blk, rfl, h1⟩, h2.mono (fun k hk => by rw [hk]; exact hbk)⟩
/-! ### plainly -/
def pickOne (live : List Rf) (fs : List FD) (r : Rf) : FD := minF (heldH live fs) (keepF fs r)
def pickL (live : List Rf) (fs : List FD) : List FD × Int :=
  if twiceB live = true then ([], 1) else if live.any (fun r => (keepF fs r).isEmpty) = true then ([], 8) else (live.map (pickOne live fs), 0)
/-- Pick's round. -/
structure Pk (w W : World) (bt bm : Nat) (live : List Rf) (fs : List FD) (k : Nat) (v : Value) (l : List FD) : Prop where
  bel : Below w.heap.size w W
  hm : HM W bm (heldH live fs)
  bx : W.heap[bt]? = some (.cells #[.map (some bm)] 94 (0, 0))
  out : kFD.R 49 W w.heap.size (fun _ => True) v l
  eq : l = (live.take k).map (pickOne live fs)
  none_ : (live.take k).any (fun r => (keepF fs r).isEmpty) = false
theorem Pk.step {w W W1 : World} {bt bm k : Nat} {live : List Rf} {fs : List FD} {v : Value} {l : List FD} (h : Pk w W bt bm live fs k v l) (hb : Below W.heap.size W W1) : Pk w W1 bt bm live fs k v l :=
  ⟨below_step h.bel hb, h.hm.below hb, blk_below h.bx hb, Kd.R_below h.out hb, h.eq, h.none_⟩
theorem Pk.app {w W W1 : World} {bt bm k : Nat} {live : List Rf} {fs : List FD} {v v1 : Value} {l : List FD} {r : Rf} {m : FD} (h : Pk w W bt bm live fs k v l) (hr : live[k]? = some r) (hm : m = pickOne live fs r) (hn : (keepF fs r).isEmpty = false)
    (hR : kFD.R 49 W1 w.heap.size (fun _ => True) v1 (l ++ [m])) (hb : Below w.heap.size w W1) (hg : W.grownBy W1 v.ownBlock) : Pk w W1 bt bm live fs (k + 1) v1 (l ++ [m]) := by
  refine ⟨hb, h.hm.keep (hg.block bm h.hm.lt (fun e => ?_)), (hg.block bt (blk_lt h.bx) (fun e => Kd.R_ne h.out h.bx (by decide) e)).trans h.bx, hR, ?_, ?_⟩
  · obtain ⟨n, D, ⟨es, clock, h1, -⟩, -⟩ := h.hm.map
    obtain ⟨inner, ho⟩ := Kd.R_own h.out
    obtain ⟨cells, hc⟩ := own_typed ho bm e.symm
    rw [hc] at h1
    cases h1
  · rw [take_snoc2 live k r hr, List.map_append, h.eq, hm]
    rfl
  · rw [any_snoc _ _ _ _ hr, h.none_, hn]
    rfl
set_option maxHeartbeats 8000000 in
set_option maxRecDepth 100000 in
theorem mpick {w : World} {q g c cf cl : Nat} {A F Al : Option Addr} {vh : Value} {fs : List FD} {live : List Rf} (h : w.heap[q]? = some (.cells (scCells g (.slice A 0 c) (.slice F fs.length cf) vh) 87 (0, 0))) (hC : Kd.C kFD w F fs.length fs) (hL : Kd.C k2 w Al live.length live) (hcl : live.length ≤ cl) (hl : fs.length ≤ 100000) (hl2 : live.length ≤ 1000) (hwf : ∀ x ∈ fs, FDwf x) (hap : SpApart fs) :
    Calls Try.prog 16 #[.pointer (some ⟨q, 0, none⟩), .slice Al live.length cl] w fun e w' => ∃ v, e = .returned (.tuple #[v, .int .i64 (pickL live fs).2]) ∧ kFD.R 49 w' w.heap.size (fun _ => True) v (pickL live fs).1 ∧ Below w.heap.size w w' := by
  have hov := over h
  have HQ := Aside0.mk h
  have HC := Aside0.mk hC
  have HLV := Aside0.mk hL
  have HL := Aside0.mk hl
  have HL2 := Aside0.mk hl2
  have HWF := Aside0.mk hwf
  have HAP := Aside0.mk hap
  have HCL := Aside0.mk hcl
  have HTW := Aside0.mk (twice (c := cl) hL hcl hl2)
  obtain ⟨P, hP⟩ : ∃ P, pickL live fs = P := ⟨_, rfl⟩
  have HPE := Aside0.mk hP
  rw [hP]
  clear h hC hL hl hl2 hwf hap hcl hP
  go_enter Try.func16, Try.ntmps16
  go_wp2_with fail
  refine hov.mono ?_
  clear hov
  rintro ev w1 ⟨rfl, rfl⟩
  go_wp2_with fail
  refine HTW.out.mono ?_
  rintro ev w2 ⟨rfl, hb2⟩
  have HB2 := Aside0.mk hb2
  clear hb2 HTW
  cases htw : twiceB live with
  | true =>
    have HTW := Aside0.mk htw
    clear htw
    go_wp2_with fail
    go_ret2
    have hp := HPE.out
    unfold pickL at hp
    rw [if_pos HTW.out] at hp
    subst hp
    exact ⟨_, rfl, Kd.R_nil _ _ _ _ _, HB2.out⟩
  | false =>
    have HTW := Aside0.mk htw
    clear htw
    have HHE := Aside0.mk (mheld (cl := cl) (blk_below HQ.out HB2.out) (Kd.C_below HC.out HB2.out) (Kd.C_below HLV.out HB2.out) HL.out HL2.out HWF.out HAP.out)
    go_wp2_with fail
    refine HHE.out.mono ?_
    rintro ev w3 ⟨bm, rfl, hm3, hb3⟩
    have HM3 := Aside0.mk hm3
    have HB3 := Aside0.mk (below_step HB2.out hb3)
    clear hm3 hb3 HHE
    go_wp2_with fail
    obtain ⟨w4, hw4⟩ : ∃ w4, w3.alloc (.cells #[.map (some bm)] 94) = w4 := ⟨_, rfl⟩
    obtain ⟨bt, hbt⟩ : ∃ x, w3.heap.size = x := ⟨_, rfl⟩
    have HPK : Aside0 (Pk w1 w4 bt bm live fs 0 (.slice none 0 0) []) := ⟨by
      rw [← hw4, ← hbt]
      exact ⟨below_alloc HB3.out _, HM3.out.below (below_alloc (Below.refl _ _) _), blk_new w3 _, Kd.R_nil _ _ _ _ _, rfl, rfl⟩⟩
    rw [hw4, hbt]
    clear hw4 hbt HM3 HB3 HB2
    go_loopw [8, 27] (fun v8 v27 wr => ∃ (k : Nat) (l : List FD), k ≤ live.length ∧ v27 = .int .i64 (k : Int) ∧ Aside0 (Pk w1 wr bt bm live fs k v8 l)) (fun _ v27 _ => live.length - (intOf v27).toNat)
    case atStart => exact ⟨0, [], Nat.zero_le _, rfl, HPK⟩
    case round =>
      clear HPK
      obtain ⟨k, l, hk, rfl, HP⟩ := hrel
      by_cases hlt : k < live.length
      · have hlt2 : (k : Int) < (live.length : Int) := by omega
        have HLT := Aside0.mk hlt
        have hw3 : wrap64 ((k : Int) + 1) = ((k + 1 : Nat) : Int) := by rw [show (k : Int) + 1 = ((k + 1 : Nat) : Int) by omega]; exact wrap_small _ (by omega) (by have := HL2.out; omega)
        have HW3 := Aside0.mk hw3
        obtain ⟨r, hr⟩ : ∃ r, live[k]? = some r := ⟨_, List.getElem?_eq_getElem hlt⟩
        have HR := Aside0.mk hr
        clear hr
        obtain ⟨ad, rfl, x0, x1⟩ := rfAt (Kd.C_below HLV.out HP.out.bel) k r HR.out
        clear hk hlt hw3
        go_upto_region 13 with fail
        obtain ⟨w5, hw5⟩ : ∃ w5, wr.alloc (.cells #[.int .i64 r.1, .int .i64 r.2] 31) = w5 := ⟨_, rfl⟩
        obtain ⟨b10, hb10⟩ : ∃ b, wr.heap.size = b := ⟨_, rfl⟩
        have hb5_ : Below wr.heap.size wr w5 := by rw [← hw5]; exact below_alloc (Below.refl _ _) _
        have HX5 : Aside0 (w5.heap[b10]? = some (.cells #[.int .i64 r.1, .int .i64 r.2] 31 (0, 0))) := ⟨by rw [← hw5, ← hb10]; exact blk_new wr _⟩
        have HP5 := Aside0.mk (HP.out.step hb5_)
        obtain ⟨-, -, c2, -⟩ := scAt (blk_below HQ.out HP5.out.bel)
        rw [hw5, hb10]
        clear hw5 hb10 hb5_ HP x0 x1
        go_wp2_with fail
        refine (cloneF F cf fs w5 (Kd.C_below HC.out HP5.out.bel) (by have := HL.out; omega)).mono ?_
        rintro ev w6 ⟨v6, rfl, hR6, hb6⟩
        have HR6 := Aside0.mk hR6
        have HB6 := Aside0.mk hb6
        have HX6 := Aside0.mk (blk_below HX5.out hb6)
        obtain ⟨A6, n6, c6, rfl⟩ := R_shapeA hR6
        clear hR6 hb6 c2
        go_wp2_with fail
        refine (delfR HX6.out HR6.out HL.out).mono ?_
        rintro ev w7 ⟨A7, c7, rfl, -, hrow7, hk7⟩
        have HROW := Aside0.mk hrow7
        have HP7 : Aside0 (Pk w1 w7 bt bm live fs k u8 l) := ⟨HP5.out.step (hk7.elder HB6.out HB6.out.size (fun k hk => hk))⟩
        clear hrow7 hk7 HR6 HB6 HX6 HX5 HP5
        obtain ⟨kf, hkf⟩ : ∃ kf, keepF fs r = kf := ⟨_, rfl⟩
        have HKF := Aside0.mk hkf
        have HKS : Aside0 (∀ x ∈ kf, FDok x) := ⟨fun x hx => by
          rw [← hkf] at hx
          exact (HWF.out x (List.mem_filter.1 hx).1).1⟩
        have HKN := Aside0.mk (show kf.length ≤ 100000 by rw [← hkf]; have := keepF_le fs r; have := HL.out; omega)
        rw [hkf] at HROW ⊢
        clear hkf
        cases kf with
        | nil =>
          go_wp2_with fail
          go_ret2
          have hp := HPE.out
          have hany : live.any (fun r => (keepF fs r).isEmpty) = true := List.any_eq_true.2 ⟨r, List.mem_of_getElem? HR.out, by rw [HKF.out]; rfl⟩
          unfold pickL at hp
          rw [if_neg (by rw [HTW.out]; decide), if_pos hany] at hp
          subst hp
          exact ⟨_, rfl, Kd.R_nil _ _ _ _ _, HP7.out.bel⟩
        | cons y ys =>
          obtain ⟨blk, rfl, hrow⟩ := HROW.out (by simp)
          obtain ⟨L, hLd⟩ : ∃ L, y :: ys = L := ⟨_, rfl⟩
          have HLD := Aside0.mk hLd
          have HLP := Aside0.mk (show 0 < L.length by rw [← hLd]; simp)
          rw [hLd] at hrow HKS HKN HKF ⊢
          have HMF := Aside0.mk (minf (c := c7) HP7.out.hm HP7.out.bx hrow HLP.out HKN.out HKS.out)
          obtain ⟨nl, hnl⟩ : ∃ n, L.length = n := ⟨_, rfl⟩
          rw [hnl] at HMF HLP ⊢
          have hz : ((nl : Int) == 0) = false := beq_eq_false_iff_ne.2 (by have := HLP.out; omega)
          have hz2 : (nl == 0) = false := beq_eq_false_iff_ne.2 (by have := HLP.out; omega)
          clear hrow hLd hnl HROW
          go_wp2_with fail
          refine HMF.out.mono ?_
          rintro ev w8 ⟨rfl, hb8⟩
          have HP8 := Aside0.mk (HP7.out.step hb8)
          have HMI : Aside0 (minF (heldH live fs) L = pickOne live fs r) := ⟨by unfold pickOne; rw [HKF.out]⟩
          have HKE : Aside0 ((keepF fs r).isEmpty = false) := ⟨by rw [HKF.out, ← HLD.out]; rfl⟩
          obtain ⟨m, hm⟩ : ∃ m, minF (heldH live fs) L = m := ⟨_, rfl⟩
          rw [hm] at HMI ⊢
          clear hm hb8 HMF HP7 hz hz2
          have hw3 := HW3.out
          have hll : l.length = k := by rw [HP8.out.eq, List.length_map, List.length_take]; have := HLT.out; omega
          have HLL := Aside0.mk hll
          clear hll
          go_wp2_with ((with_reducible refine gate_builtin (b := .append) (xs := #[.tmp 41, .tmp 45]) rfl ?_); at_builtin; refine Kd.R_append kFD (w0 := w1) w1.heap.size rfl (.tmp 41) (.tmp 45) 45 49 (.agg #[.int .i64 0, .int .i64 0, .int .i64 0, .int .i64 0]) 32 rfl Try.underlying45 infoF rfl (by decide) (by decide) u8 l m [.int .i64 m.p, .int .i64 m.q, .int .i64 m.b, .int .i64 m.k] (fun _ => True) (fun _ => False) rfl rfl (kFD_mkM _ _ _ _) (fun _ hk => hk.elim) (fun _ _ => trivial) HP8.out.out HP8.out.bel HP8.out.bel.size ?aL ?_; (case aL => rw [HLL.out]; have := HLT.out; have := HL2.out; omega); intro v9 w9 ho hb9 hg9 hat9; have HO := Aside0.mk ho; have HB9 := Aside0.mk hb9; have HG9 := Aside0.mk hg9; clear ho hb9 hg9 hat9)
          have HP9 := Aside0.mk (HP8.out.app HR.out HMI.out HKE.out HO.out HB9.out HG9.out)
          go_roundw
          case measure =>
            have hm : live.length - ((k + 1 : Nat) : Int).toNat < live.length - ((k : Nat) : Int).toNat := by
              rw [Int.toNat_natCast, Int.toNat_natCast]
              exact Nat.sub_lt_sub_left HLT.out (Nat.lt_succ_self k)
            first | exact hm | (rw [hw3]; exact hm)
          case rel => exact ⟨k + 1, _, HLT.out, by first | rw [hw3] | rfl, HP9⟩
      · have he : k = live.length := by omega
        subst he
        have hnn : ¬ (((live.length : Nat) : Int) < (live.length : Int)) := by omega
        clear hlt hk
        go_wp2_with fail
        go_ret2
        have hp := HPE.out
        have hne := HP.out.none_
        have heq := HP.out.eq
        rw [List.take_length] at hne heq
        unfold pickL at hp
        rw [if_neg (by rw [HTW.out]; decide), if_neg (by rw [hne]; decide)] at hp
        subst hp
        exact ⟨_, rfl, by rw [← heq]; exact HP.out.out, HP.out.bel⟩
end Go.Proofs.Ytkncmbbkehnagaa.Cm

