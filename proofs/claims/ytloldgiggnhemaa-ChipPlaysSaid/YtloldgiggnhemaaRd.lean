import Derived.Test.YtloldgiggnhemaaCm2
import Derived.Test.YtloldgiggnhemaaCloneByte
set_option linter.unusedVariables false
set_option linter.unusedSimpArgs false
/-! The chip's Read. -/
namespace Go.Proofs.Ytloldgiggnhemaa.Cm
open Go.RowKit Go.Proofs.YtloldgiggnhemaaW.PrintWords Go.Proofs.YtloldgiggnhemaaW.PrintLast Go.Proofs.YtloldgiggnhemaaW.PrintMore Go.Proofs.Ytloldgiggnhemaa.Kp Go.Proofs.Ytloldgiggnhemaa.Cp
attribute [local go_sem] max2_int min2_int max_two min_two max_three min_three max_four min_four

theorem spot_at {s : Chp} {b p : Int} (hv : s.Inv) (h : spotB s b p = true) : ∃ (i j : Nat) (B : Blk) (xs : List Int), b = i ∧ p = j ∧ s.blocks[i]? = some B ∧ B.pages[j]? = some xs ∧ i < s.blocks.length ∧ j < B.pages.length := by
  unfold spotB hasB at h
  simp only [Bool.and_eq_true, decide_eq_true_eq] at h
  obtain ⟨⟨h1, h2⟩, h3, h4⟩ := h
  have hi : b.toNat < s.blocks.length := by omega
  have hl := hv.len _ (List.getElem_mem hi)
  have hj : p.toNat < (s.blocks[b.toNat]).pages.length := by omega
  exact ⟨b.toNat, p.toNat, _, _, by omega, by omega, List.getElem?_eq_getElem hi, List.getElem?_eq_getElem hj, hi, hj⟩
def pageOf (s : Chp) (b p : Int) : List Int := ((s.blocks[b.toNat]?.map (·.pages)).getD [])[p.toNat]?.getD []
def readS (s : Chp) (b p : Int) : Chp := if spotB s b p = true ∧ s.down = false then { s with br := wrap64 (s.br + 1) } else s
def readE (s : Chp) (b p : Int) : Int := if spotB s b p = true then (if s.down = true then 2 else 0) else 1
def readX (s : Chp) (b p : Int) : List Int := if spotB s b p = true ∧ s.down = false then pageOf s b p else []
theorem two {w : World} {b t : Nat} {x y : Value} (h : w.heap[b]? = some (.cells #[x, y] t (0, 0))) : w.cell? ⟨b, 0, none⟩ = some x ∧ w.cell? ⟨b, 1, none⟩ = some y := ⟨(blk_cell h 0).trans rfl, (blk_cell h 1).trans rfl⟩
/-- The cells of a block of the chip's. -/
theorem rowCells {W : World} {base : Nat} {ok : Nat → Prop} {g h cap : Nat} {cs : Array Value} {pg : Nat → Nat} {s : Chp} (r : Rep W base ok g h cap cs pg s) {i : Nat} {B : Blk} (hB : s.blocks[i]? = some B) :
    W.cell? ⟨h, i * 4, none⟩ = some (.bool B.bad) ∧ W.cell? ⟨h, i * 4 + 1, none⟩ = some (.int .i64 B.next) ∧ W.cell? ⟨h, i * 4 + 2, none⟩ = some (.int .i64 B.count) ∧ W.cell? ⟨h, i * 4 + 3, none⟩ = some (.slice (some ⟨pg i, 0, none⟩) B.pages.length B.pages.length) := by
  obtain ⟨r0, r1, r2, r3⟩ := r.row i B hB
  exact ⟨(blk_cell r.hh _).trans r0, (blk_cell r.hh _).trans r1, (blk_cell r.hh _).trans r2, (blk_cell r.hh _).trans r3⟩
theorem pageCell {W : World} {base : Nat} {ok : Nat → Prop} {g h cap : Nat} {cs : Array Value} {pg : Nat → Nat} {s : Chp} (r : Rep W base ok g h cap cs pg s) {i j : Nat} {B : Blk} {xs : List Int} (hB : s.blocks[i]? = some B) (hx : B.pages[j]? = some xs) :
    ∃ A c, W.cell? ⟨pg i, j, none⟩ = some (.slice A xs.length c) ∧ xs.length ≤ c ∧ Kd.C (Kd.int .u8) W A xs.length xs ∧ Kd.R (Kd.int .u8) 5 W base ok (.slice A xs.length c) xs := by
  obtain ⟨ps, h1, h2⟩ := r.pgs i B hB
  obtain ⟨v, h3, h4⟩ := h2 j xs hx
  obtain ⟨A, c, rfl, h5, h6⟩ := Kd.R_reads h4
  exact ⟨A, c, (blk_cell h1 _).trans h3, h5, h6, h4⟩
/-- What the read of a page looks at. -/
theorem readHeld {w w' : World} {base : Nat} {ok : Nat → Prop} {g h cap bx : Nat} {cs : Array Value} {pg : Nat → Nat} {s : Chp} {i j : Nat} {B : Blk} {A : Option Addr} {n c : Nat} (r : Rep w base ok g h cap cs pg s) (hbx : w.heap[bx]? = some (.cells #[.int .i64 (i : Int), .int .i64 (j : Int)] 29 (0, 0)))
    (hB : s.blocks[i]? = some B) (hp : w.cell? ⟨pg i, j, none⟩ = some (.slice A n c)) (hb : Below w.heap.size w w') :
    (w'.cell? ⟨bx, 0, none⟩ = some (.int .i64 (i : Int)) ∧ w'.cell? ⟨bx, 1, none⟩ = some (.int .i64 (j : Int))) ∧ w'.cell? ⟨g, 0, none⟩ = some (.slice (some ⟨h, 0, none⟩) s.blocks.length cap) ∧ w'.cell? ⟨h, i * 4 + 3, none⟩ = some (.slice (some ⟨pg i, 0, none⟩) B.pages.length B.pages.length) ∧ w'.cell? ⟨pg i, j, none⟩ = some (.slice A n c) :=
  ⟨⟨pw_cell_below hb (two hbx).1, pw_cell_below hb (two hbx).2⟩, pw_cell_below hb (ten r).1.1, pw_cell_below hb (rowCells r hB).2.2.2, pw_cell_below hb hp⟩
def reg_read_6.T : Bool × List (List Nat × List Nat) := (true, [([], []), ([0], [0]), ([1], [1]), ([2], [2]), ([], []), ([4], [4]), ([3, 5], [3, 5]), ([6], [6]), ([7], [7]), ([], []), ([9], [9]), ([8, 10], [8, 10]), ([11], [11]), ([12], [12]), ([13, 13, 0, 1, 2, 3, 4, 5, 6, 7, 8, 9, 10, 11, 12, 13], [13]), ([14, 0, 1, 2, 3, 4, 5, 6, 7, 8, 9, 10, 11, 12, 13, 14], [])])
def reg_read_6.B : List Nat := [0, 1, 3, 7, 0, 16, 63, 127, 255, 0, 512, 2047, 4095, 8191, 16383, 32767]
theorem reg_read_6.tab : rtab .any (opsOf Try.f15 6) = reg_read_6.T := by kernel_rfl
theorem reg_read_6.bits : waitsOk reg_read_6.T.2 reg_read_6.B = true := by kernel_rfl
set_option maxHeartbeats 4000000 in
set_option maxRecDepth 100000 in
theorem read {w : World} {base : Nat} {ok : Nat → Prop} {g : Nat} {s : Chp} (hI : IsChip w base ok g s) (b p : Int) (hx : (readX s b p).length ≤ 100000) :
    Calls Try.prog 15 #[.pointer (some ⟨g, 0, none⟩), .agg #[.int .i64 b, .int .i64 p]] w fun e w' => ∃ v : Value, e = .returned (.tuple #[v, .int .i64 (readE s b p)]) ∧ Kd.R (Kd.int .u8) 5 w' w.heap.size (fun _ => True) v (readX s b p) ∧ Now w base ok g (readS s b p) w' := by
  have HB := Aside0.mk (below_alloc (Below.refl _ w) (.cells #[.int .i64 b, .int .i64 p] 29))
  have hI1 := hI.below HB.out
  obtain ⟨w1, hw1⟩ : ∃ w1, w.alloc (.cells #[.int .i64 b, .int .i64 p] 29) = w1 := ⟨_, rfl⟩
  obtain ⟨bx, hbx⟩ : ∃ bx, w.heap.size = bx := ⟨_, rfl⟩
  have hbox : w1.heap[bx]? = some (.cells #[.int .i64 b, .int .i64 p] 29 (0, 0)) := by rw [← hw1, ← hbx]; simpa using heap_alloc_new w (.cells #[.int .i64 b, .int .i64 p] 29)
  rw [hw1] at HB hI1
  have HI1 := Aside0.mk hI1
  have HI := Aside0.mk hI
  have HBX := Aside0.mk hbox
  have HW := Aside0.mk hw1
  have HX := Aside0.mk hbx
  obtain ⟨x0, x1⟩ := two hbox
  clear hI hI1 hbox hw1 hbx
  cases hs : spotB s b p with
  | false =>
    have h1 : readE s b p = 1 := by unfold readE; rw [if_neg (by rw [hs]; decide)]
    have h2 : readX s b p = [] := by unfold readX; rw [if_neg (by rw [hs]; simp)]
    have h3 : readS s b p = s := by unfold readS; rw [if_neg (by rw [hs]; simp)]
    rw [h1, h2, h3]
    have HS := Aside0.mk hs
    clear hs h1 h2 h3 hx
    go_enter Try.func15, Try.ntmps15
    go_wp2_with fail
    rw [HW.out, HX.out]
    have hcc := spot HI1.out b p
    rw [HS.out] at hcc
    refine hcc.mono ?_
    clear hcc
    rintro ev w2 ⟨rfl, hb⟩
    go_wp2_with fail
    go_ret2
    exact ⟨_, rfl, Kd.R_nil _ _ _ _ _, HI1.out.below hb, (Kp.of_below HB.out _).below hb⟩
  | true =>
    cases hd : s.down with
    | true =>
      have h1 : readE s b p = 2 := by unfold readE; rw [if_pos hs, if_pos hd]
      have h2 : readX s b p = [] := by unfold readX; rw [if_neg (by rw [hd]; simp)]
      have h3 : readS s b p = s := by unfold readS; rw [if_neg (by rw [hd]; simp)]
      rw [h1, h2, h3]
      have HS := Aside0.mk hs
      have HD := Aside0.mk hd
      clear hs h1 h2 h3 hx hd
      go_enter Try.func15, Try.ntmps15
      go_wp2_with fail
      rw [HW.out, HX.out]
      have hcc := spot HI1.out b p
      rw [HS.out] at hcc
      refine hcc.mono ?_
      clear hcc
      rintro ev w2 ⟨rfl, hb⟩
      have hI2 := HI1.out.below hb
      have HK2 := Aside0.mk ((Kp.of_below HB.out ok).below hb)
      have HI2 := Aside0.mk hI2
      obtain ⟨h, cap, cs, pg, r⟩ := hI2
      obtain ⟨-, ⟨-, -, -, -, c9⟩, -⟩ := ten r
      rw [HD.out] at c9
      clear r hb
      go_wp2_with fail
      go_ret2
      exact ⟨_, rfl, Kd.R_nil _ _ _ _ _, HI2.out, HK2.out⟩
    | false =>
      have h1 : readE s b p = 0 := by unfold readE; rw [if_pos hs, if_neg (by rw [hd]; decide)]
      have h2 : readX s b p = pageOf s b p := by unfold readX; rw [if_pos ⟨hs, hd⟩]
      have h3 : readS s b p = { s with br := wrap64 (s.br + 1) } := by unfold readS; rw [if_pos ⟨hs, hd⟩]
      rw [h2] at hx
      rw [h1, h2, h3]
      obtain ⟨i, j, B, xs, rfl, rfl, hB, hxs, hi, hj⟩ := spot_at HI1.out.inv hs
      have hpo : pageOf s (i : Int) (j : Int) = xs := by simp [pageOf, hB, hxs]
      rw [hpo] at hx ⊢
      have HXL := Aside0.mk hx
      have HS := Aside0.mk hs
      have HD := Aside0.mk hd
      have HBk := Aside0.mk hB
      have HXs := Aside0.mk hxs
      have hin : ((i : Nat) : Int) < (s.blocks.length : Int) := by omega
      have hjn : ((j : Nat) : Int) < (B.pages.length : Int) := by omega
      clear hs h1 h2 h3 hx hd hpo hB hxs
      go_enter Try.func15, Try.ntmps15
      go_wp2_with fail
      rw [HW.out, HX.out]
      have hcc := spot HI1.out (i : Int) (j : Int)
      rw [HS.out] at hcc
      refine hcc.mono ?_
      clear hcc
      rintro ev w2 ⟨rfl, hb⟩
      have HBX2 := Aside0.mk ((hb.block bx (blk_lt HBX.out)).trans HBX.out)
      have HK2 := Aside0.mk ((Kp.of_below HB.out ok).below hb)
      have hI2 := HI1.out.below hb
      obtain ⟨h, cap, cs, pg, r⟩ := hI2
      obtain ⟨⟨-, -, c2, -⟩, ⟨-, -, -, -, c9⟩, fz⟩ := ten r
      have f2 := fz 2
      rw [HD.out] at c9
      have HR2 := Aside0.mk r
      clear r fz hb x0 x1
      go_upto_region 6 with fail
      obtain ⟨w3, hw3⟩ : ∃ w3, w2.setCell ⟨g, 2, none⟩ (.int .i64 (wrap64 (s.br + 1))) = w3 := ⟨_, rfl⟩
      have hN : Now w base ok g { s with br := wrap64 (s.br + 1) } w3 := by
        rw [← hw3]
        exact now_G HR2.out HK2.out 2 _ (by simp [Chp.cells]) rfl { HR2.out.inv with }
      have hbx3 : w3.heap[bx]? = some (.cells #[.int .i64 (i : Int), .int .i64 (j : Int)] 29 (0, 0)) := by
        rw [← hw3]
        refine blk_far HBX2.out (p := ⟨g, 2, none⟩) ?_ _
        have := HI.out.lt
        have := HX.out
        show bx ≠ g
        omega
      obtain ⟨⟨h', cap', cs', pg', r'⟩, hk3⟩ := hN
      obtain ⟨A, c, hp, hcl, hCx, hRx⟩ := pageCell r' HBk.out HXs.out
      have HR3 := Aside0.mk r'
      have HK3 := Aside0.mk hk3
      have HBX3 := Aside0.mk hbx3
      have HP := Aside0.mk hp
      have HCX := Aside0.mk hCx
      have HCL := Aside0.mk hcl
      rw [hw3]
      clear hw3 hbx3 r' hk3 hp hcl hCx hRx HR2 HBX2 HK2 c2 c9 f2
      refine start_ (n := 16) (S := fun w' => (w'.cell? ⟨bx, 0, none⟩ = some (.int .i64 (i : Int)) ∧ w'.cell? ⟨bx, 1, none⟩ = some (.int .i64 (j : Int))) ∧ w'.cell? ⟨g, 0, none⟩ = some (.slice (some ⟨h', 0, none⟩) s.blocks.length cap') ∧ w'.cell? ⟨h', i * 4 + 3, none⟩ = some (.slice (some ⟨pg' i, 0, none⟩) B.pages.length B.pages.length) ∧ w'.cell? ⟨pg' i, j, none⟩ = some (.slice A xs.length c)) (ds := []) #[false, false, false, false, false, false, false, false, false, false, false, false, false, false, false, false] (by kernel_rfl) rfl rfl (readHeld (s := { s with br := wrap64 (s.br + 1) }) HR3.out HBX3.out HBk.out HP.out (below_drew (Below.refl _ _))) (fun hHeld => ?_)
      refine with_tabW reg_read_6.tab reg_read_6.bits (fun HT_ HW_ => ?_)
      refine pure_ (i := 0) (N := (some 25)) (v := ?_) (a' := ?_) #[true, false, false, false, false, false, false, false, false, false, false, false, false, false, false, false] rfl rfl (any_of HT_.out (by kernel_rfl)) (fun _ _ _ h => h) (Or.inl ⟨by rfl, ?_⟩) ?_ ?_
      rotate_left
      · intro w'
        go_simp
        first | done | with_reducible rfl
      rotate_left
      · simp only [Act.put, List.setIfInBounds_toArray, List.set_cons_zero, List.set_cons_succ, i64_w, i32_w]
        rfl
      refine pure_ (i := 1) (N := (some 26)) (v := ?_) (a' := ?_) #[true, true, false, false, false, false, false, false, false, false, false, false, false, false, false, false] rfl rfl (any_of HT_.out (by kernel_rfl)) (fun _ _ _ h => h) (Or.inl ⟨by rfl, ?_⟩) ?_ ?_
      rotate_left
      · intro w'
        go_simp
        first | done | with_reducible rfl
      rotate_left
      · simp only [Act.put, List.setIfInBounds_toArray, List.set_cons_zero, List.set_cons_succ, i64_w, i32_w]
        rfl
      refine pure_ (i := 2) (N := (some 27)) (v := ?_) (a' := ?_) #[true, true, true, false, false, false, false, false, false, false, false, false, false, false, false, false] rfl rfl (any_of HT_.out (by kernel_rfl)) (fun _ _ _ h => h) (Or.inl ⟨by rfl, ?_⟩) ?_ ?_
      rotate_left
      · intro w'
        go_simp
        first | done | with_reducible rfl
      rotate_left
      · simp only [Act.put, List.setIfInBounds_toArray, List.set_cons_zero, List.set_cons_succ, i64_w, i32_w]
        rfl
      refine take_ (i := 3) (N := (some 28)) (v := ?_) (a' := ?_) #[true, true, true, true, false, false, false, false, false, false, false, false, false, false, false, false] rfl rfl (take_ofW HT_.out HW_.out (by kernel_rfl)) (fun _ _ _ h => h) (Or.inl ⟨by rfl, ?_⟩) hHeld ?_ ?_
      rotate_left
      · rintro w' ⟨⟨s0, s1⟩, s2, s3, s4⟩
        go_simp
        first | done | with_reducible rfl
      rotate_left
      · simp only [Act.put, List.setIfInBounds_toArray, List.set_cons_zero, List.set_cons_succ, i64_w, i32_w]
        rfl
      refine pure_ (i := 4) (N := (some 29)) (v := ?_) (a' := ?_) #[true, true, true, true, true, false, false, false, false, false, false, false, false, false, false, false] rfl rfl (any_of HT_.out (by kernel_rfl)) (fun _ _ _ h => h) (Or.inl ⟨by rfl, ?_⟩) ?_ ?_
      rotate_left
      · intro w'
        go_simp
        first | done | with_reducible rfl
      rotate_left
      · simp only [Act.put, List.setIfInBounds_toArray, List.set_cons_zero, List.set_cons_succ, i64_w, i32_w]
        rfl
      refine take_ (i := 5) (N := (some 30)) (v := ?_) (a' := ?_) #[true, true, true, true, true, true, false, false, false, false, false, false, false, false, false, false] rfl rfl (take_ofW HT_.out HW_.out (by kernel_rfl)) (fun _ _ _ h => h) (Or.inl ⟨by rfl, ?_⟩) hHeld ?_ ?_
      rotate_left
      · rintro w' ⟨⟨s0, s1⟩, s2, s3, s4⟩
        go_simp
        first | done | with_reducible rfl
      rotate_left
      · simp only [Act.put, List.setIfInBounds_toArray, List.set_cons_zero, List.set_cons_succ, i64_w, i32_w]
        rfl
      refine take_ (i := 6) (N := (some 31)) (v := ?_) (a' := ?_) #[true, true, true, true, true, true, true, false, false, false, false, false, false, false, false, false] rfl rfl (take_ofW HT_.out HW_.out (by kernel_rfl)) (fun _ _ _ h => h) (Or.inl ⟨by rfl, ?_⟩) hHeld ?_ ?_
      rotate_left
      · rintro w' ⟨⟨s0, s1⟩, s2, s3, s4⟩
        go_simp
        first | done | with_reducible rfl
      rotate_left
      · simp only [Act.put, List.setIfInBounds_toArray, List.set_cons_zero, List.set_cons_succ, i64_w, i32_w]
        rfl
      refine pure_ (i := 7) (N := (some 32)) (v := ?_) (a' := ?_) #[true, true, true, true, true, true, true, true, false, false, false, false, false, false, false, false] rfl rfl (any_of HT_.out (by kernel_rfl)) (fun _ _ _ h => h) (Or.inl ⟨by rfl, ?_⟩) ?_ ?_
      rotate_left
      · intro w'
        go_simp
        first | done | with_reducible rfl
      rotate_left
      · simp only [Act.put, List.setIfInBounds_toArray, List.set_cons_zero, List.set_cons_succ, i64_w, i32_w]
        rfl
      refine take_ (i := 8) (N := (some 33)) (v := ?_) (a' := ?_) #[true, true, true, true, true, true, true, true, true, false, false, false, false, false, false, false] rfl rfl (take_ofW HT_.out HW_.out (by kernel_rfl)) (fun _ _ _ h => h) (Or.inl ⟨by rfl, ?_⟩) hHeld ?_ ?_
      rotate_left
      · rintro w' ⟨⟨s0, s1⟩, s2, s3, s4⟩
        go_simp
        first | done | with_reducible rfl
      rotate_left
      · simp only [Act.put, List.setIfInBounds_toArray, List.set_cons_zero, List.set_cons_succ, i64_w, i32_w]
        rfl
      refine pure_ (i := 9) (N := (some 34)) (v := ?_) (a' := ?_) #[true, true, true, true, true, true, true, true, true, true, false, false, false, false, false, false] rfl rfl (any_of HT_.out (by kernel_rfl)) (fun _ _ _ h => h) (Or.inl ⟨by rfl, ?_⟩) ?_ ?_
      rotate_left
      · intro w'
        go_simp
        first | done | with_reducible rfl
      rotate_left
      · simp only [Act.put, List.setIfInBounds_toArray, List.set_cons_zero, List.set_cons_succ, i64_w, i32_w]
        rfl
      refine take_ (i := 10) (N := (some 35)) (v := ?_) (a' := ?_) #[true, true, true, true, true, true, true, true, true, true, true, false, false, false, false, false] rfl rfl (take_ofW HT_.out HW_.out (by kernel_rfl)) (fun _ _ _ h => h) (Or.inl ⟨by rfl, ?_⟩) hHeld ?_ ?_
      rotate_left
      · rintro w' ⟨⟨s0, s1⟩, s2, s3, s4⟩
        go_simp
        first | done | with_reducible rfl
      rotate_left
      · simp only [Act.put, List.setIfInBounds_toArray, List.set_cons_zero, List.set_cons_succ, i64_w, i32_w]
        rfl
      refine take_ (i := 11) (N := (some 36)) (v := ?_) (a' := ?_) #[true, true, true, true, true, true, true, true, true, true, true, true, false, false, false, false] rfl rfl (take_ofW HT_.out HW_.out (by kernel_rfl)) (fun _ _ _ h => h) (Or.inl ⟨by rfl, ?_⟩) hHeld ?_ ?_
      rotate_left
      · rintro w' ⟨⟨s0, s1⟩, s2, s3, s4⟩
        go_simp
        first | done | with_reducible rfl
      rotate_left
      · simp only [Act.put, List.setIfInBounds_toArray, List.set_cons_zero, List.set_cons_succ, i64_w, i32_w]
        rfl
      refine take_ (i := 12) (N := (some 37)) (v := ?_) (a' := ?_) #[true, true, true, true, true, true, true, true, true, true, true, true, true, false, false, false] rfl rfl (take_ofW HT_.out HW_.out (by kernel_rfl)) (fun _ _ _ h => h) (Or.inl ⟨by rfl, ?_⟩) hHeld ?_ ?_
      rotate_left
      · rintro w' ⟨⟨s0, s1⟩, s2, s3, s4⟩
        go_simp
        first | done | with_reducible rfl
      rotate_left
      · simp only [Act.put, List.setIfInBounds_toArray, List.set_cons_zero, List.set_cons_succ, i64_w, i32_w]
        rfl
      refine one_ (i := 13) (N := (some 38)) #[true, true, true, true, true, true, true, true, true, true, true, true, true, true, false, false] rfl rfl (one_of HT_.out (by kernel_rfl)) (by decide) (fun K hK => ?_)
      refine goes_ Try.func47 (by kernel_rfl) rfl #[.slice A xs.length c] (by rfl) rfl rfl (by (try simp only [List.map_toArray, List.map_cons, List.map_nil]); first | done | rfl) ?_
      with_reducible refine (CloneByte.calls A c xs _ (Kd.C_drew HCX.out) HCL.out (by have := HXL.out; omega)).mono ?_
      rintro ev_ w4 ⟨v4, rfl, hR4, hb4⟩
      refine ⟨_, rfl, ?_⟩
      have HB4 := Aside0.mk (below_step (below_drew (Below.refl _ w3)) hb4)
      have HR4 := Aside0.mk hR4
      clear hb4 hR4
      refine hK.out _ _ (readHeld (s := { s with br := wrap64 (s.br + 1) }) HR3.out HBX3.out HBk.out HP.out HB4.out) (fun hHeld => ?_)
      clear hK K
      refine norm_ (a' := ?_) ?_ ?_
      rotate_left
      · show Act.put _ (some 38) _ = _
        simp only [Act.put, List.setIfInBounds_toArray, List.set_cons_zero, List.set_cons_succ, i64_w, i32_w]
        rfl
      refine pure_ (i := 14) (N := (some 4)) (v := ?_) (a' := ?_) #[true, true, true, true, true, true, true, true, true, true, true, true, true, true, true, false] rfl rfl (any_of HT_.out (by kernel_rfl)) (fun _ _ _ h => h) (Or.inl ⟨by rfl, ?_⟩) ?_ ?_
      rotate_left
      · intro w'
        go_simp
        first | done | with_reducible rfl
      rotate_left
      · simp only [Act.put, List.setIfInBounds_toArray, List.set_cons_zero, List.set_cons_succ, i64_w, i32_w]
        rfl
      refine pure_ (i := 15) (N := (some 5)) (v := ?_) (a' := ?_) #[true, true, true, true, true, true, true, true, true, true, true, true, true, true, true, true] rfl rfl (any_of HT_.out (by kernel_rfl)) (fun _ _ _ h => h) (Or.inl ⟨by rfl, ?_⟩) ?_ ?_
      rotate_left
      · intro w'
        go_simp
        first | done | with_reducible rfl
      rotate_left
      · simp only [Act.put, List.setIfInBounds_toArray, List.set_cons_zero, List.set_cons_succ, i64_w, i32_w]
        rfl
      refine done_ (done_of HT_.out (by kernel_rfl)) ?_
      go_wp2
      go_ret2
      have hb : Below w3.heap.size w3 w4 := HB4.out
      exact ⟨_, rfl, Kd.R_lower HR4.out HK3.out.bel.size, ⟨_, _, _, _, HR3.out.below hb⟩, HK3.out.below hb⟩
end Go.Proofs.Ytloldgiggnhemaa.Cm
