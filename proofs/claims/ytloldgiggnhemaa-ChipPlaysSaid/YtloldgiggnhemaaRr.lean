import Derived.Test.YtloldgiggnhemaaRm
set_option linter.unusedVariables false
set_option linter.unusedSimpArgs false
/-! The reference's chip: Read; at. -/
namespace Go.Proofs.Ytloldgiggnhemaa.Cm
open Go.RowKit Go.Proofs.YtloldgiggnhemaaW.PrintWords Go.Proofs.YtloldgiggnhemaaW.PrintLast Go.Proofs.YtloldgiggnhemaaW.PrintMore Go.Proofs.Ytloldgiggnhemaa.Kp Go.Proofs.Ytloldgiggnhemaa.Cp
attribute [local go_sem] max2_int min2_int max_two min_two max_three min_three max_four min_four

/-- What the read of a page looks at. -/
theorem rreadHeld {w w' : World} {bx i j n c : Nat} {B : Blk} {A : Option Addr} {base : Nat} {ok : Nat → Prop} {g h cap : Nat} {cs : Array Value} {pg : Nat → Nat} {s : Chp} (r : RRep w base ok g h cap cs pg s) (hbx : w.heap[bx]? = some (.cells #[.int .i64 (i : Int), .int .i64 (j : Int)] 29 (0, 0)))
    (hB : s.blocks[i]? = some B) (hp : w.cell? ⟨pg i, j, none⟩ = some (.slice A n c)) (hb : Below w.heap.size w w') :
    (w'.cell? ⟨bx, 0, none⟩ = some (.int .i64 (i : Int)) ∧ w'.cell? ⟨bx, 1, none⟩ = some (.int .i64 (j : Int))) ∧ w'.cell? ⟨g, 0, none⟩ = some (.slice (some ⟨h, 0, none⟩) s.blocks.length cap) ∧ w'.cell? ⟨h, i * 4 + 3, none⟩ = some (.slice (some ⟨pg i, 0, none⟩) B.pages.length B.pages.length) ∧ w'.cell? ⟨pg i, j, none⟩ = some (.slice A n c) :=
  ⟨⟨pw_cell_below hb (two hbx).1, pw_cell_below hb (two hbx).2⟩, pw_cell_below hb (rten r).1.1, pw_cell_below hb (rrowCells r hB).2.2.2, pw_cell_below hb hp⟩
def reg_rread_6.T : Bool × List (List Nat × List Nat) := (true, [([], []), ([0], [0]), ([1], [1]), ([2], [2]), ([], []), ([4], [4]), ([3, 5], [3, 5]), ([6], [6]), ([7], [7]), ([], []), ([9], [9]), ([8, 10], [8, 10]), ([11], [11]), ([12], [12]), ([13, 13, 0, 1, 2, 3, 4, 5, 6, 7, 8, 9, 10, 11, 12, 13], [13]), ([14, 0, 1, 2, 3, 4, 5, 6, 7, 8, 9, 10, 11, 12, 13, 14], [])])
def reg_rread_6.B : List Nat := [0, 1, 3, 7, 0, 16, 63, 127, 255, 0, 512, 2047, 4095, 8191, 16383, 32767]
theorem reg_rread_6.tab : rtab .any (opsOf Try.f25 6) = reg_rread_6.T := by kernel_rfl
theorem reg_rread_6.bits : waitsOk reg_rread_6.T.2 reg_rread_6.B = true := by kernel_rfl
set_option maxHeartbeats 4000000 in
set_option maxRecDepth 100000 in
theorem rread {w : World} {base : Nat} {ok : Nat → Prop} {g : Nat} {s : Chp} (hI : IsRef w base ok g s) (b p : Int) (hx : (readX s b p).length ≤ 100000) :
    Calls Try.prog 25 #[.pointer (some ⟨g, 0, none⟩), .agg #[.int .i64 b, .int .i64 p]] w fun e w' => ∃ v : Value, e = .returned (.tuple #[v, .int .i64 (readE s b p)]) ∧ Kd.R (Kd.int .u8) 5 w' w.heap.size (fun _ => True) v (readX s b p) ∧ RNow w base ok g (readS s b p) w' := by
  have HB := Aside0.mk (below_alloc (Below.refl _ w) (.cells #[.int .i64 b, .int .i64 p] 29))
  have hI1 := hI.below HB.out
  obtain ⟨w1, hw1⟩ : ∃ w1, w.alloc (.cells #[.int .i64 b, .int .i64 p] 29) = w1 := ⟨_, rfl⟩
  obtain ⟨bx, hbx⟩ : ∃ bx, w.heap.size = bx := ⟨_, rfl⟩
  have hbox : w1.heap[bx]? = some (.cells #[.int .i64 b, .int .i64 p] 29 (0, 0)) := by rw [← hw1, ← hbx]; simpa using heap_alloc_new w (.cells #[.int .i64 b, .int .i64 p] 29)
  rw [hw1] at HB hI1
  have HI1 := Aside0.mk hI1
  have HI := Aside0.mk hI
  have HBX := Aside0.mk hbox
  have HW := Aside0.mk hw1
  have HX := Aside0.mk hbx
  obtain ⟨x0, x1⟩ := two hbox
  clear hI hI1 hbox hw1 hbx
  cases hs : spotB s b p with
  | false =>
    have h1 : readE s b p = 1 := by unfold readE; rw [if_neg (by rw [hs]; decide)]
    have h2 : readX s b p = [] := by unfold readX; rw [if_neg (by rw [hs]; simp)]
    have h3 : readS s b p = s := by unfold readS; rw [if_neg (by rw [hs]; simp)]
    rw [h1, h2, h3]
    have HS := Aside0.mk hs
    clear hs h1 h2 h3 hx
    go_enter Try.func25, Try.ntmps25
    go_wp2_with fail
    rw [HW.out, HX.out]
    have hcc := rhas HI1.out b p
    rw [HS.out] at hcc
    refine hcc.mono ?_
    clear hcc
    rintro ev w2 ⟨rfl, hb⟩
    go_wp2_with fail
    go_ret2
    exact ⟨_, rfl, Kd.R_nil _ _ _ _ _, HI1.out.below hb, (Kp.of_below HB.out _).below hb⟩
  | true =>
    cases hd : s.down with
    | true =>
      have h1 : readE s b p = 2 := by unfold readE; rw [if_pos hs, if_pos hd]
      have h2 : readX s b p = [] := by unfold readX; rw [if_neg (by rw [hd]; simp)]
      have h3 : readS s b p = s := by unfold readS; rw [if_neg (by rw [hd]; simp)]
      rw [h1, h2, h3]
      have HS := Aside0.mk hs
      have HD := Aside0.mk hd
      clear hs h1 h2 h3 hx hd
      go_enter Try.func25, Try.ntmps25
      go_wp2_with fail
      rw [HW.out, HX.out]
      have hcc := rhas HI1.out b p
      rw [HS.out] at hcc
      refine hcc.mono ?_
      clear hcc
      rintro ev w2 ⟨rfl, hb⟩
      have hI2 := HI1.out.below hb
      have HK2 := Aside0.mk ((Kp.of_below HB.out ok).below hb)
      have HI2 := Aside0.mk hI2
      obtain ⟨h, cap, cs, pg, r⟩ := hI2
      obtain ⟨-, ⟨-, c9, -⟩, -⟩ := rten r
      rw [HD.out] at c9
      clear r hb
      go_wp2_with fail
      go_ret2
      exact ⟨_, rfl, Kd.R_nil _ _ _ _ _, HI2.out, HK2.out⟩
    | false =>
      have h1 : readE s b p = 0 := by unfold readE; rw [if_pos hs, if_neg (by rw [hd]; decide)]
      have h2 : readX s b p = pageOf s b p := by unfold readX; rw [if_pos ⟨hs, hd⟩]
      have h3 : readS s b p = { s with br := wrap64 (s.br + 1) } := by unfold readS; rw [if_pos ⟨hs, hd⟩]
      rw [h2] at hx
      rw [h1, h2, h3]
      obtain ⟨i, j, B, xs, rfl, rfl, hB, hxs, hi, hj⟩ := spot_at HI1.out.inv.toInv hs
      have hpo : pageOf s (i : Int) (j : Int) = xs := by simp [pageOf, hB, hxs]
      rw [hpo] at hx ⊢
      have HXL := Aside0.mk hx
      have HS := Aside0.mk hs
      have HD := Aside0.mk hd
      have HBk := Aside0.mk hB
      have HXs := Aside0.mk hxs
      have hin : ((i : Nat) : Int) < (s.blocks.length : Int) := by omega
      have hjn : ((j : Nat) : Int) < (B.pages.length : Int) := by omega
      clear hs h1 h2 h3 hx hd hpo hB hxs
      go_enter Try.func25, Try.ntmps25
      go_wp2_with fail
      rw [HW.out, HX.out]
      have hcc := rhas HI1.out (i : Int) (j : Int)
      rw [HS.out] at hcc
      refine hcc.mono ?_
      clear hcc
      rintro ev w2 ⟨rfl, hb⟩
      have HBX2 := Aside0.mk ((hb.block bx (blk_lt HBX.out)).trans HBX.out)
      have HK2 := Aside0.mk ((Kp.of_below HB.out ok).below hb)
      have hI2 := HI1.out.below hb
      obtain ⟨h, cap, cs, pg, r⟩ := hI2
      obtain ⟨-, ⟨-, c9, c2, -⟩, fz⟩ := rten r
      have f2 := fz 7
      rw [HD.out] at c9
      have HR2 := Aside0.mk r
      clear r fz hb x0 x1
      go_upto_region 6 with fail
      obtain ⟨w3, hw3⟩ : ∃ w3, w2.setCell ⟨g, 7, none⟩ (.int .i64 (wrap64 (s.br + 1))) = w3 := ⟨_, rfl⟩
      have hN : RNow w base ok g { s with br := wrap64 (s.br + 1) } w3 := by
        rw [← hw3]
        exact rnow_G HR2.out HK2.out 7 _ (by simp [Chp.rcells]) rfl { HR2.out.inv with }
      have hbx3 : w3.heap[bx]? = some (.cells #[.int .i64 (i : Int), .int .i64 (j : Int)] 29 (0, 0)) := by
        rw [← hw3]
        refine blk_far HBX2.out (p := ⟨g, 7, none⟩) ?_ _
        have := HI.out.lt
        have := HX.out
        show bx ≠ g
        omega
      obtain ⟨⟨h', cap', cs', pg', r'⟩, hk3⟩ := hN
      obtain ⟨A, c, hp, hcl, hCx, hRx⟩ := rpageCell r' HBk.out HXs.out
      have HR3 := Aside0.mk r'
      have HK3 := Aside0.mk hk3
      have HBX3 := Aside0.mk hbx3
      have HP := Aside0.mk hp
      have HCX := Aside0.mk hCx
      have HCL := Aside0.mk hcl
      rw [hw3]
      clear hw3 hbx3 r' hk3 hp hcl hCx hRx HR2 HBX2 HK2 c2 c9 f2
      refine start_ (n := 16) (S := fun w' => (w'.cell? ⟨bx, 0, none⟩ = some (.int .i64 (i : Int)) ∧ w'.cell? ⟨bx, 1, none⟩ = some (.int .i64 (j : Int))) ∧ w'.cell? ⟨g, 0, none⟩ = some (.slice (some ⟨h', 0, none⟩) s.blocks.length cap') ∧ w'.cell? ⟨h', i * 4 + 3, none⟩ = some (.slice (some ⟨pg' i, 0, none⟩) B.pages.length B.pages.length) ∧ w'.cell? ⟨pg' i, j, none⟩ = some (.slice A xs.length c)) (ds := []) #[false, false, false, false, false, false, false, false, false, false, false, false, false, false, false, false] (by kernel_rfl) rfl rfl (rreadHeld (s := { s with br := wrap64 (s.br + 1) }) HR3.out HBX3.out HBk.out HP.out (below_drew (Below.refl _ _))) (fun hHeld => ?_)
      refine with_tabW reg_rread_6.tab reg_rread_6.bits (fun HT_ HW_ => ?_)
      refine pure_ (i := 0) (N := (some 25)) (v := ?_) (a' := ?_) #[true, false, false, false, false, false, false, false, false, false, false, false, false, false, false, false] rfl rfl (any_of HT_.out (by kernel_rfl)) (fun _ _ _ h => h) (Or.inl ⟨by rfl, ?_⟩) ?_ ?_
      rotate_left
      · intro w'
        go_simp
        first | done | with_reducible rfl
      rotate_left
      · simp only [Act.put, List.setIfInBounds_toArray, List.set_cons_zero, List.set_cons_succ, i64_w, i32_w]
        rfl
      refine pure_ (i := 1) (N := (some 26)) (v := ?_) (a' := ?_) #[true, true, false, false, false, false, false, false, false, false, false, false, false, false, false, false] rfl rfl (any_of HT_.out (by kernel_rfl)) (fun _ _ _ h => h) (Or.inl ⟨by rfl, ?_⟩) ?_ ?_
      rotate_left
      · intro w'
        go_simp
        first | done | with_reducible rfl
      rotate_left
      · simp only [Act.put, List.setIfInBounds_toArray, List.set_cons_zero, List.set_cons_succ, i64_w, i32_w]
        rfl
      refine pure_ (i := 2) (N := (some 27)) (v := ?_) (a' := ?_) #[true, true, true, false, false, false, false, false, false, false, false, false, false, false, false, false] rfl rfl (any_of HT_.out (by kernel_rfl)) (fun _ _ _ h => h) (Or.inl ⟨by rfl, ?_⟩) ?_ ?_
      rotate_left
      · intro w'
        go_simp
        first | done | with_reducible rfl
      rotate_left
      · simp only [Act.put, List.setIfInBounds_toArray, List.set_cons_zero, List.set_cons_succ, i64_w, i32_w]
        rfl
      refine take_ (i := 3) (N := (some 28)) (v := ?_) (a' := ?_) #[true, true, true, true, false, false, false, false, false, false, false, false, false, false, false, false] rfl rfl (take_ofW HT_.out HW_.out (by kernel_rfl)) (fun _ _ _ h => h) (Or.inl ⟨by rfl, ?_⟩) hHeld ?_ ?_
      rotate_left
      · rintro w' ⟨⟨s0, s1⟩, s2, s3, s4⟩
        go_simp
        first | done | with_reducible rfl
      rotate_left
      · simp only [Act.put, List.setIfInBounds_toArray, List.set_cons_zero, List.set_cons_succ, i64_w, i32_w]
        rfl
      refine pure_ (i := 4) (N := (some 29)) (v := ?_) (a' := ?_) #[true, true, true, true, true, false, false, false, false, false, false, false, false, false, false, false] rfl rfl (any_of HT_.out (by kernel_rfl)) (fun _ _ _ h => h) (Or.inl ⟨by rfl, ?_⟩) ?_ ?_
      rotate_left
      · intro w'
        go_simp
        first | done | with_reducible rfl
      rotate_left
      · simp only [Act.put, List.setIfInBounds_toArray, List.set_cons_zero, List.set_cons_succ, i64_w, i32_w]
        rfl
      refine take_ (i := 5) (N := (some 30)) (v := ?_) (a' := ?_) #[true, true, true, true, true, true, false, false, false, false, false, false, false, false, false, false] rfl rfl (take_ofW HT_.out HW_.out (by kernel_rfl)) (fun _ _ _ h => h) (Or.inl ⟨by rfl, ?_⟩) hHeld ?_ ?_
      rotate_left
      · rintro w' ⟨⟨s0, s1⟩, s2, s3, s4⟩
        go_simp
        first | done | with_reducible rfl
      rotate_left
      · simp only [Act.put, List.setIfInBounds_toArray, List.set_cons_zero, List.set_cons_succ, i64_w, i32_w]
        rfl
      refine take_ (i := 6) (N := (some 31)) (v := ?_) (a' := ?_) #[true, true, true, true, true, true, true, false, false, false, false, false, false, false, false, false] rfl rfl (take_ofW HT_.out HW_.out (by kernel_rfl)) (fun _ _ _ h => h) (Or.inl ⟨by rfl, ?_⟩) hHeld ?_ ?_
      rotate_left
      · rintro w' ⟨⟨s0, s1⟩, s2, s3, s4⟩
        go_simp
        first | done | with_reducible rfl
      rotate_left
      · simp only [Act.put, List.setIfInBounds_toArray, List.set_cons_zero, List.set_cons_succ, i64_w, i32_w]
        rfl
      refine pure_ (i := 7) (N := (some 32)) (v := ?_) (a' := ?_) #[true, true, true, true, true, true, true, true, false, false, false, false, false, false, false, false] rfl rfl (any_of HT_.out (by kernel_rfl)) (fun _ _ _ h => h) (Or.inl ⟨by rfl, ?_⟩) ?_ ?_
      rotate_left
      · intro w'
        go_simp
        first | done | with_reducible rfl
      rotate_left
      · simp only [Act.put, List.setIfInBounds_toArray, List.set_cons_zero, List.set_cons_succ, i64_w, i32_w]
        rfl
      refine take_ (i := 8) (N := (some 33)) (v := ?_) (a' := ?_) #[true, true, true, true, true, true, true, true, true, false, false, false, false, false, false, false] rfl rfl (take_ofW HT_.out HW_.out (by kernel_rfl)) (fun _ _ _ h => h) (Or.inl ⟨by rfl, ?_⟩) hHeld ?_ ?_
      rotate_left
      · rintro w' ⟨⟨s0, s1⟩, s2, s3, s4⟩
        go_simp
        first | done | with_reducible rfl
      rotate_left
      · simp only [Act.put, List.setIfInBounds_toArray, List.set_cons_zero, List.set_cons_succ, i64_w, i32_w]
        rfl
      refine pure_ (i := 9) (N := (some 34)) (v := ?_) (a' := ?_) #[true, true, true, true, true, true, true, true, true, true, false, false, false, false, false, false] rfl rfl (any_of HT_.out (by kernel_rfl)) (fun _ _ _ h => h) (Or.inl ⟨by rfl, ?_⟩) ?_ ?_
      rotate_left
      · intro w'
        go_simp
        first | done | with_reducible rfl
      rotate_left
      · simp only [Act.put, List.setIfInBounds_toArray, List.set_cons_zero, List.set_cons_succ, i64_w, i32_w]
        rfl
      refine take_ (i := 10) (N := (some 35)) (v := ?_) (a' := ?_) #[true, true, true, true, true, true, true, true, true, true, true, false, false, false, false, false] rfl rfl (take_ofW HT_.out HW_.out (by kernel_rfl)) (fun _ _ _ h => h) (Or.inl ⟨by rfl, ?_⟩) hHeld ?_ ?_
      rotate_left
      · rintro w' ⟨⟨s0, s1⟩, s2, s3, s4⟩
        go_simp
        first | done | with_reducible rfl
      rotate_left
      · simp only [Act.put, List.setIfInBounds_toArray, List.set_cons_zero, List.set_cons_succ, i64_w, i32_w]
        rfl
      refine take_ (i := 11) (N := (some 36)) (v := ?_) (a' := ?_) #[true, true, true, true, true, true, true, true, true, true, true, true, false, false, false, false] rfl rfl (take_ofW HT_.out HW_.out (by kernel_rfl)) (fun _ _ _ h => h) (Or.inl ⟨by rfl, ?_⟩) hHeld ?_ ?_
      rotate_left
      · rintro w' ⟨⟨s0, s1⟩, s2, s3, s4⟩
        go_simp
        first | done | with_reducible rfl
      rotate_left
      · simp only [Act.put, List.setIfInBounds_toArray, List.set_cons_zero, List.set_cons_succ, i64_w, i32_w]
        rfl
      refine take_ (i := 12) (N := (some 37)) (v := ?_) (a' := ?_) #[true, true, true, true, true, true, true, true, true, true, true, true, true, false, false, false] rfl rfl (take_ofW HT_.out HW_.out (by kernel_rfl)) (fun _ _ _ h => h) (Or.inl ⟨by rfl, ?_⟩) hHeld ?_ ?_
      rotate_left
      · rintro w' ⟨⟨s0, s1⟩, s2, s3, s4⟩
        go_simp
        first | done | with_reducible rfl
      rotate_left
      · simp only [Act.put, List.setIfInBounds_toArray, List.set_cons_zero, List.set_cons_succ, i64_w, i32_w]
        rfl
      refine one_ (i := 13) (N := (some 38)) #[true, true, true, true, true, true, true, true, true, true, true, true, true, true, false, false] rfl rfl (one_of HT_.out (by kernel_rfl)) (by decide) (fun K hK => ?_)
      refine Kd.R_append_rows_step (Kd.int .u8) (w0 := w3) w3.heap.size (by rfl) (.const (.slice none 0 0)) (.tmp 37) 22 5 (.int .u8 0) 1 rfl Try.underlying22 info5 rfl (by decide) (by omega) (.slice none 0 0) [] xs A xs.length c (fun _ => True) (fun _ => False) rfl rfl (Kd.R_nil _ _ _ _ _) (Kd.C_drew HCX.out) (fun _ _ h => h) (fun _ h => h.elim) (fun _ _ => trivial) (below_drew (Below.refl _ _)) (Nat.le_refl _) ?aL ?_
      (case aL => have := HXL.out; simp; omega)
      intro v4 w4 ho hb hg hat
      have HB4 := Aside0.mk (show Below w3.heap.size w3 w4 from hb)
      have HR4 := Aside0.mk (show Kd.R (Kd.int .u8) 5 w4 w3.heap.size (fun _ => True) v4 xs from ho)
      clear ho hb hg hat
      refine hK.out _ _ (rreadHeld (s := { s with br := wrap64 (s.br + 1) }) HR3.out HBX3.out HBk.out HP.out HB4.out) (fun hHeld => ?_)
      clear hK K
      refine norm_ (a' := ?_) ?_ ?_
      rotate_left
      · show Act.put _ (some 38) _ = _
        simp only [Act.put, List.setIfInBounds_toArray, List.set_cons_zero, List.set_cons_succ, i64_w, i32_w]
        rfl
      refine pure_ (i := 14) (N := (some 4)) (v := ?_) (a' := ?_) #[true, true, true, true, true, true, true, true, true, true, true, true, true, true, true, false] rfl rfl (any_of HT_.out (by kernel_rfl)) (fun _ _ _ h => h) (Or.inl ⟨by rfl, ?_⟩) ?_ ?_
      rotate_left
      · intro w'
        go_simp
        first | done | with_reducible rfl
      rotate_left
      · simp only [Act.put, List.setIfInBounds_toArray, List.set_cons_zero, List.set_cons_succ, i64_w, i32_w]
        rfl
      refine pure_ (i := 15) (N := (some 5)) (v := ?_) (a' := ?_) #[true, true, true, true, true, true, true, true, true, true, true, true, true, true, true, true] rfl rfl (any_of HT_.out (by kernel_rfl)) (fun _ _ _ h => h) (Or.inl ⟨by rfl, ?_⟩) ?_ ?_
      rotate_left
      · intro w'
        go_simp
        first | done | with_reducible rfl
      rotate_left
      · simp only [Act.put, List.setIfInBounds_toArray, List.set_cons_zero, List.set_cons_succ, i64_w, i32_w]
        rfl
      refine done_ (done_of HT_.out (by kernel_rfl)) ?_
      go_wp2
      go_ret2
      have hb : Below w3.heap.size w3 w4 := HB4.out
      exact ⟨_, rfl, Kd.R_lower HR4.out HK3.out.bel.size, ⟨_, _, _, _, HR3.out.below hb⟩, HK3.out.below hb⟩
set_option maxHeartbeats 4000000 in
set_option maxRecDepth 100000 in
theorem PgR.nil (W : World) : PgR W (.slice none 0 0) [] := ⟨none, 0, rfl, Nat.le_refl _, fun j xs h => by simp at h⟩
/-- at: a block as it lies there. -/
theorem rat {w : World} {base : Nat} {ok : Nat → Prop} {g : Nat} {s : Chp} (hI : IsRef w base ok g s) (b : Int) :
    Calls Try.prog 34 #[.pointer (some ⟨g, 0, none⟩), .int .i64 b] w fun e w' => ∃ v, e = .returned v ∧ BlkR w' v (blockB s b) ∧ Below w.heap.size w w' := by
  have HB0 := below_alloc (Below.refl _ w) (.cells #[.bool false, .int .i64 0, .int .i64 0, .slice none 0 0] 36)
  have HB := Aside0.mk HB0
  obtain ⟨h, cap, cs, pg, r0⟩ := hI
  have r := r0.below HB0
  have HR0 := Aside0.mk r0
  have HR := Aside0.mk r
  obtain ⟨⟨c0, -⟩, -, -⟩ := rten r
  clear HB0 r r0
  cases hs : hasB s b with
  | false =>
    have e : blockB s b = noB := by unfold blockB; rw [if_neg (by rw [hs]; decide)]
    rw [e]
    unfold hasB at hs
    by_cases h1 : b < 0
    · have d1 : decide (b < 0) = true := decide_eq_true h1
      clear hs e h1
      go_enter Try.func34, Try.ntmps34
      go_wp2
      exact bodyPost_ret (results_single rfl (.cell w.heap.size 36 #[.bool false, .int .i64 0, .int .i64 0, .slice none 0 0] (0, 0) _ rfl (by simpa using heap_alloc_new w _) Try.underlying36 rfl (by kernel_rfl) .nil)) rfl ⟨_, rfl, ⟨_, rfl, PgR.nil _⟩, HB.out⟩
    · have d1 : decide (b < 0) = false := decide_eq_false h1
      have h2 : ¬ b < s.blocks.length := fun h2 => by simp [h2] at hs; omega
      have d2 : decide (b ≥ s.blocks.length) = true := decide_eq_true (by omega)
      clear hs e h1 h2
      go_enter Try.func34, Try.ntmps34
      go_wp2
      exact bodyPost_ret (results_single rfl (.cell w.heap.size 36 #[.bool false, .int .i64 0, .int .i64 0, .slice none 0 0] (0, 0) _ rfl (by simpa using heap_alloc_new w _) Try.underlying36 rfl (by kernel_rfl) .nil)) rfl ⟨_, rfl, ⟨_, rfl, PgR.nil _⟩, HB.out⟩
  | true =>
    obtain ⟨i, B, rfl, hB, hi⟩ := has_at hs
    have e : blockB s (i : Int) = B := by unfold blockB; rw [if_pos hs]; simp [hB]
    rw [e]
    obtain ⟨e0, e1, e2, e3⟩ := rrowCells HR.out hB
    have HBk := Aside0.mk hB
    have hin : ((i : Nat) : Int) < (s.blocks.length : Int) := by omega
    have d2 : decide ((i : Int) ≥ s.blocks.length) = false := decide_eq_false (by omega)
    have d3 : decide (s.blocks.length ≤ i) = false := decide_eq_false (by omega)
    clear hs e hi hB
    go_enter Try.func34, Try.ntmps34
    go_wp2
    exact bodyPost_ret (results_single rfl (.cell w.heap.size 36 #[.bool B.bad, .int .i64 B.next, .int .i64 B.count, .slice (some ⟨pg i, 0, none⟩) B.pages.length B.pages.length] (0, 0) _ rfl (by simpa using heap_alloc_new w _) Try.underlying36 rfl (by kernel_rfl) .nil)) rfl ⟨_, rfl, ⟨_, rfl, PgR.below (RRep.pgR HR0.out HBk.out) (below_alloc (Below.refl _ _) _)⟩, below_alloc (Below.refl _ _) _⟩
end Go.Proofs.Ytloldgiggnhemaa.Cm
