/-  LeastPlays returns true whatever the pairs.  -/
import Derived.Test.YthnicdafglohbaaPs
import Derived.Deep.CutBlock
import Derived.Test.YthnicdafglohbaaWTab
import Derived.Test.YthnicdafglohbaaWKept
set_option linter.unusedVariables false
set_option linter.unusedSimpArgs false
namespace Go.Proofs.Ythnicdafglohbaa.Lw
open Go.RowKit Go.Maps Go.Sort Go.Lib Go.WideMaps Go.Proofs.YthnicdafglohbaaW.PrintWords Go.Proofs.YthnicdafglohbaaW.PrintLast Go.Proofs.YthnicdafglohbaaW.PrintMore
attribute [local go_sem] max2_int min2_int max_two min_two max_three min_three max_four min_four

theorem add_big {c v : Int} (h0 : 0 ≤ c) (h : 1099511627776 ≤ v) : Li.addZ c v = 1099511627776 := by
  unfold Li.addZ Li.mn
  split <;> (try split) <;> (try split) <;> omega
theorem add_low {c v : Int} (h0 : c ≤ 1099511627776) (h : v ≤ -1099511627776) : Li.addZ c v = 0 := by
  unfold Li.addZ Li.mn
  split <;> (try split) <;> (try split) <;> omega
theorem add_mid {c v : Int} (h : v < 1099511627776) (h2 : 0 ≤ c) : Li.addZ c v = if (if (1099511627776 : Int) < c + v then 1099511627776 else c + v) < 0 then 0 else (if (1099511627776 : Int) < c + v then 1099511627776 else c + v) := by
  unfold Li.addZ Li.mn
  split <;> (try split) <;> (try split) <;> (try split) <;> (try split) <;> omega
def reg_pl14.T : Bool × List (List Nat × List Nat) := (true, [([], []), ([], []), ([1], [1]), ([], []), ([3], [3]), ([0, 2, 4], [0, 2, 4]), ([], []), ([], []), ([7], [7]), ([6, 8], [6, 8]), ([5, 9], [5, 9]), ([10, 5], [10]), ([11], [11]), ([11], [11]), ([13, 11], [11, 13]), ([12, 14, 11, 11], [11, 12, 14]), ([11], [11]), ([11], [11]), ([17, 11], [11, 17]), ([16, 18, 11], [11, 16, 18]), ([15, 19, 11], [11, 15, 19]), ([11, 20], [11, 20])])
def reg_pl14.B : List Nat := [0, 0, 2, 0, 8, 31, 0, 0, 128, 448, 1023, 2047, 4095, 4095, 12287, 32767, 4095, 4095, 135167, 462847, 1048575, 2097151]
theorem reg_pl14.tab : rtab .any (opsOf Try.f6 14) = reg_pl14.T := by kernel_rfl
theorem reg_pl14.bits : waitsOk reg_pl14.T.2 reg_pl14.B = true := by kernel_rfl
set_option maxHeartbeats 8000000 in
set_option maxRecDepth 100000 in
theorem plays (W : World) (A : Option Addr) (cp : Nat) (l : List S33) (hC : Kd.C k33 W A l.length l) (hok : ∀ x ∈ l, (Lit.int .i64 x.f0).wf = true ∧ (Lit.int .i64 x.f1).wf = true) :
    Calls Try.prog 6 #[.slice A l.length cp] W fun e W' => e = .returned (.bool true) ∧ Below W.heap.size W W' := by
  have HC := Aside0.mk hC
  have HOK := Aside0.mk hok
  clear hC hok
  by_cases h100 : 100 < l.length
  · have d1 : decide ((l.length : Int) > 100) = true := decide_eq_true (by omega)
    have d1n : decide (100 < l.length) = true := decide_eq_true h100
    clear h100
    go_enter Try.func6, Try.ntmps6
    go_wp2_with fail
    refine (awake W).mono ?_
    rintro ev w6 ⟨rfl, hb6⟩
    have HB6 := Aside0.mk hb6
    clear hb6
    go_wp2_with fail
    go_ret
    exact ⟨rfl, HB6.out⟩
  have d1 : decide ((l.length : Int) > 100) = false := decide_eq_false (by omega)
  have d1n : decide (100 < l.length) = false := decide_eq_false h100
  have HL := Aside0.mk (show l.length ≤ 100 by omega)
  clear h100
  have hmm := @run_makeMap Try.prog
  go_enter Try.func6, Try.ntmps6
  go_wp2_with fail
  refine (Li.new W).mono ?_
  rintro ev w1 ⟨rfl, hT, hb⟩
  have HB1 := Aside0.mk hb
  have HT1 := Aside0.mk hT
  obtain ⟨tb, htb⟩ : ∃ x, W.heap.size + 1 = x := ⟨_, rfl⟩
  obtain ⟨b, hb'⟩ : ∃ x, W.heap.size = x := ⟨_, rfl⟩
  rw [htb, hb'] at HT1
  rw [htb]
  have HBB := Aside0.mk (show W.heap.size ≤ b ∧ W.heap.size ≤ tb by omega)
  clear hT hb htb hb' d1 d1n
  obtain ⟨w2, hw2⟩ : ∃ w2, w1.alloc (.map #[] 0) = w2 := ⟨_, rfl⟩
  obtain ⟨mb, hmb⟩ : ∃ x, w1.heap.size = x := ⟨_, rfl⟩
  have hb2 : Below w1.heap.size w1 w2 := by rw [← hw2]; exact below_alloc (Below.refl _ _) _
  have HT2 := Aside0.mk (HT1.out.below hb2)
  have HB2 := Aside0.mk (below_step HB1.out hb2)
  have HM2 : Aside0 (Wm w2 mb (fun _ => 0) 0) := ⟨by rw [← hw2, ← hmb]; exact ⟨.map [], World.ownsMap_made w1 Try.prog 3 _, fun k _ => rfl⟩⟩
  have HAP := Aside0.mk (show mb ≠ b ∧ mb ≠ tb ∧ W.heap.size ≤ b ∧ W.heap.size ≤ mb by have := HT1.out.lt; have := HB1.out.size; have := HBB.out; omega)
  clear hb2 HT1 HB1
  go_upto_region 5 with fail
  clear hw2 hmb hmm
  go_wp2_with fail
  go_loopw [30] (fun v30 wr => ∃ (i : Nat) (c : Int → Int), i ≤ l.length ∧ v30 = .int .i64 (i : Int) ∧ Aside0 (Li.Tl wr tb b c i) ∧ Aside0 (Wm wr mb c i) ∧ Aside0 (Below W.heap.size W wr)) (fun v30 _ => l.length - (intOf v30).toNat)
  case atStart => exact ⟨0, _, Nat.zero_le _, rfl, HT2, HM2, HB2⟩
  case round =>
    clear HT2 HM2 HB2
    obtain ⟨i, c, hi, rfl, HT, HM, HB⟩ := hrel
    by_cases hlt : i < l.length
    · have hlt2 : (i : Int) < (l.length : Int) := by omega
      have HLT := Aside0.mk hlt
      have hw2 : wrap64 ((i : Int) + 1) = ((i + 1 : Nat) : Int) := by rw [show (i : Int) + 1 = ((i + 1 : Nat) : Int) by omega]; exact Li.wrapS _ (by omega) (by have := HL.out; omega)
      have HW2 := Aside0.mk hw2
      have HI := Aside0.mk (show i ≤ 1000000 by have := HL.out; omega)
      have HCr := Aside0.mk (Kd.C_below HC.out HB.out)
      obtain ⟨ad, rfl, x0, x1⟩ := pairAt HCr.out i hlt
      have hwf := HOK.out (l.getD i z33) (by rw [getD_at l z33 i hlt]; exact List.getElem_mem hlt)
      obtain ⟨d, hd⟩ : ∃ d, l.getD i z33 = d := ⟨_, rfl⟩
      rw [hd] at x0 x1 hwf
      have HWF := Aside0.mk hwf.1
      have HWN := Aside0.mk hwf.2
      clear hd hwf hlt hi HCr hw2
      go_upto_region 8 with fail
      obtain ⟨w4, hw4⟩ : ∃ w4, wr.alloc (.cells #[.int .i64 d.f0, .int .i64 d.f1] 33) = w4 := ⟨_, rfl⟩
      obtain ⟨bx, hbx⟩ : ∃ x, wr.heap.size = x := ⟨_, rfl⟩
      have hb4 : Below wr.heap.size wr w4 := by rw [← hw4]; exact below_alloc (Below.refl _ _) _
      have HX4 : Aside0 (w4.heap[bx]? = some (.cells #[.int .i64 d.f0, .int .i64 d.f1] 33 (0, 0))) := ⟨by rw [← hw4, ← hbx]; exact blk_new wr _⟩
      have HT4 := Aside0.mk (HT.out.below hb4)
      have HM4 := Aside0.mk (HM.out.below hb4)
      have HB4 := Aside0.mk (below_step HB.out hb4)
      have h3s : w4.heap.size = wr.heap.size + 1 := by rw [← hw4]; simp
      have HXL4 := Aside0.mk (show bx < w4.heap.size ∧ bx ≠ b ∧ bx ≠ mb by have h1 := HT.out.lt; have h2 := HM.out.lt; omega)
      clear h3s
      rw [hw4, hbx]
      clear hb4 hw4 hbx HT HM HB x0 x1 hlt2
      have y0 : w4.cell? ⟨bx, 0, none⟩ = some (.int .i64 d.f0) := (blk_cell HX4.out 0).trans rfl
      have y1 : w4.cell? ⟨bx, 1, none⟩ = some (.int .i64 d.f1) := (blk_cell HX4.out 1).trans rfl
      have hlk := HM4.out.look HWF.out
      go_upto_block 2 with fail
      clear hlk
      go_cut [] from 32 to 100 (fun wc => Aside0 (Wm wc mb (Li.updZ c d.f0 (Li.addZ (c d.f0) d.f1)) (i + 1)) ∧ Aside0 (w4.grownBy wc (some mb)))
      case first =>
        have HMC := HM4
        obtain ⟨D, hown, hat⟩ := HM4.out
        have HAT := Aside0.mk hat
        have hkey : keyOf Try.prog 3 (.int .i64 d.f0) = some (.int .i64 d.f0) := keyOf_int_mk Try.underlying3 HWF.out
        obtain ⟨r0, r1⟩ := HT4.out.rng d.f0
        obtain ⟨n0, n1⟩ := Li.wf_rng HWN.out
        have HOWN := Aside0.mk hown
        clear hat hown
        obtain ⟨v, hv⟩ : ∃ x, d.f1 = x := ⟨_, rfl⟩
        rw [hv] at n0 n1 y1
        have HAD := Aside0.mk (show Li.addZ (c d.f0) d.f1 = Li.addZ (c d.f0) v by rw [hv])
        clear hv
        by_cases h1 : 1099511627776 ≤ v
        · have d1 : decide (v ≥ 1099511627776) = true := decide_eq_true h1
          have HA := Aside0.mk (add_big r0 h1)
          have HR := Aside0.mk (Li.rng_wf (x := 1099511627776) (by decide) (by decide))
          clear r0 r1 n0 n1 h1
          have hown := HOWN.out
          go_wp2_with (first
            | (at_mapUpdate; refine wpList_mapUpdate_own _ rfl _ _ _ 44 rfl 3 3 Li.law Try.underlying44 _ mb i D rfl hown (by have := HI.out; unfold maxLen; omega) _ _ _ rfl rfl hkey _ [] (plainElem_int Try.underlying3 (a := 1099511627776) HR.out) ?_; intro w1 hown1 hgrow1; have HO := Aside0.mk hown1; have HG := Aside0.mk hgrow1; clear hown1 hgrow1)
            | fail)
          go_meet
          rw [HAD.out, HA.out]
          exact ⟨⟨Wm.put HOWN.out HAT.out HO.out⟩, HG⟩
        · have d1 : decide (v ≥ 1099511627776) = false := decide_eq_false h1
          by_cases h2 : v ≤ -1099511627776
          · have d2 : decide (v ≤ -1099511627776) = true := decide_eq_true h2
            have HA := Aside0.mk (add_low r1 h2)
            have HR := Aside0.mk (Li.rng_wf (x := 0) (by decide) (by decide))
            clear r0 r1 n0 n1 h1 h2
            have hown := HOWN.out
            go_wp2_with (first
              | (at_mapUpdate; refine wpList_mapUpdate_own _ rfl _ _ _ 44 rfl 3 3 Li.law Try.underlying44 _ mb i D rfl hown (by have := HI.out; unfold maxLen; omega) _ _ _ rfl rfl hkey _ [] (plainElem_int Try.underlying3 (a := 0) HR.out) ?_; intro w1 hown1 hgrow1; have HO := Aside0.mk hown1; have HG := Aside0.mk hgrow1; clear hown1 hgrow1)
              | fail)
            go_meet
            rw [HAD.out, HA.out]
            exact ⟨⟨Wm.put HOWN.out HAT.out HO.out⟩, HG⟩
          · have d2 : decide (v ≤ -1099511627776) = false := decide_eq_false h2
            have e0 := add_mid (c := c d.f0) (v := v) (by omega) r0
            have e2 : wrap64 (c d.f0 + v) = c d.f0 + v := Li.wrapS _ (by omega) (by omega)
            have rr := Li.addZ_rng (c d.f0) v
            obtain ⟨r, hr⟩ : ∃ r, Li.addZ (c d.f0) v = r := ⟨_, rfl⟩
            rw [hr] at e0 rr
            have HA := Aside0.mk hr
            obtain ⟨s, hs⟩ : ∃ s, c d.f0 + v = s := ⟨_, rfl⟩
            rw [hs] at e0 e2
            obtain ⟨m, hm⟩ : ∃ m, (if (1099511627776 : Int) < s then 1099511627776 else s) = m := ⟨_, rfl⟩
            rw [hm] at e0
            have e3 : (if (0 : Int) < m then m else 0) = r := by rw [e0]; split <;> split <;> omega
            have HR := Aside0.mk (Li.rng_wf (x := r) (by omega) (by omega))
            clear r0 r1 n0 n1 h1 h2 rr hr e0
            have hown := HOWN.out
            go_wp2_with (first
              | (at_mapUpdate; refine wpList_mapUpdate_own _ rfl _ _ _ 44 rfl 3 3 Li.law Try.underlying44 _ mb i D rfl hown (by have := HI.out; unfold maxLen; omega) _ _ _ rfl rfl hkey _ [] (plainElem_int Try.underlying3 (a := r) HR.out) ?_; intro w1 hown1 hgrow1; have HO := Aside0.mk hown1; have HG := Aside0.mk hgrow1; clear hown1 hgrow1)
              | fail)
            go_meet
            rw [HAD.out, HA.out]
            exact ⟨⟨Wm.put HOWN.out HAT.out HO.out⟩, HG⟩
      case rest =>
        obtain ⟨HM5, HG5⟩ := hcut
        go_upto_region 14 with fail
        obtain ⟨c2, hc2⟩ : ∃ c2, Li.updZ c d.f0 (Li.addZ (c d.f0) d.f1) = c2 := ⟨_, rfl⟩
        rw [hc2] at HM5
        have HADD := Aside0.mk hc2
        have HCN : Aside0 (Li.addZ (c d.f0) d.f1 = c2 d.f0) := ⟨by rw [← hc2]; unfold Li.updZ; rw [if_pos rfl]⟩
        have HX9 := Aside0.mk (blk_below ((HG5.out.block _ HXL4.out.1 (by simpa using HXL4.out.2.2)).trans HX4.out) (below_drew (Below.refl _ _)))
        have HT9 := Aside0.mk ((HT4.out.grown HG5.out (Ne.symm HAP.out.2.1) (Ne.symm HAP.out.1)).below (below_drew (Below.refl _ _)))
        have HM9 := Aside0.mk (HM5.out.below (below_drew (Below.refl _ _)))
        have HB9 := Aside0.mk (below_step (HB4.out.grown HG5.out HB4.out.size (fun j hj => by cases hj; exact HAP.out.2.2.2)) (below_drew (Below.refl _ _)))
        have HXL := Aside0.mk (show bx < wc.drew.heap.size ∧ bx ≠ b ∧ mb ≠ b from ⟨Nat.lt_of_lt_of_le HXL4.out.1 HG5.out.size, HXL4.out.2.1, HAP.out.1⟩)
        clear hc2 HX4 HT4 HM4 HB4 HXL4 HM5 HG5 y0 y1
        refine start_ (n := 22) (S := fun w' => w'.cell? ⟨bx, 0, none⟩ = some (.int .i64 d.f0) ∧ w'.cell? ⟨bx, 1, none⟩ = some (.int .i64 d.f1) ∧ (Instr.lookup 44 (.map (some mb)) (.int .i64 d.f0) false).run Try.prog w' = .ok (.int .i64 (c2 d.f0)) w') (ds := []) #[false, false, false, false, false, false, false, false, false, false, false, false, false, false, false, false, false, false, false, false, false, false] (by kernel_rfl) rfl rfl ⟨(blk_cell HX9.out 0).trans rfl, (blk_cell HX9.out 1).trans rfl, HM9.out.look HWF.out⟩ (fun hHeld => ?_)
        refine with_tabW reg_pl14.tab reg_pl14.bits (fun HT_ HW_ => ?_)
        refine pure_ (i := 0) (N := (some 61)) (v := ?_) (a' := ?_) #[true, false, false, false, false, false, false, false, false, false, false, false, false, false, false, false, false, false, false, false, false, false] rfl rfl (any_of HT_.out (by kernel_rfl)) (fun _ _ _ h => h) (Or.inl ⟨by rfl, ?_⟩) ?_ ?_
        rotate_left
        · intro w'
          go_simp
          first | done | with_reducible rfl
        rotate_left
        · simp only [Act.put, List.setIfInBounds_toArray, List.set_cons_zero, List.set_cons_succ, i64_w, i32_w]
          rfl
        refine pure_ (i := 1) (N := (some 62)) (v := ?_) (a' := ?_) #[true, true, false, false, false, false, false, false, false, false, false, false, false, false, false, false, false, false, false, false, false, false] rfl rfl (any_of HT_.out (by kernel_rfl)) (fun _ _ _ h => h) (Or.inl ⟨by rfl, ?_⟩) ?_ ?_
        rotate_left
        · intro w'
          go_simp
          first | done | with_reducible rfl
        rotate_left
        · simp only [Act.put, List.setIfInBounds_toArray, List.set_cons_zero, List.set_cons_succ, i64_w, i32_w]
          rfl
        refine take_ (i := 2) (N := (some 63)) (v := ?_) (a' := ?_) #[true, true, true, false, false, false, false, false, false, false, false, false, false, false, false, false, false, false, false, false, false, false] rfl rfl (take_ofW HT_.out HW_.out (by kernel_rfl)) (fun _ _ _ h => h) (Or.inl ⟨by rfl, ?_⟩) hHeld ?_ ?_
        rotate_left
        · rintro w' ⟨s0, s1, s2⟩
          go_simp
          first | done | with_reducible rfl
        rotate_left
        · simp only [Act.put, List.setIfInBounds_toArray, List.set_cons_zero, List.set_cons_succ, i64_w, i32_w]
          rfl
        refine pure_ (i := 3) (N := (some 64)) (v := ?_) (a' := ?_) #[true, true, true, true, false, false, false, false, false, false, false, false, false, false, false, false, false, false, false, false, false, false] rfl rfl (any_of HT_.out (by kernel_rfl)) (fun _ _ _ h => h) (Or.inl ⟨by rfl, ?_⟩) ?_ ?_
        rotate_left
        · intro w'
          go_simp
          first | done | with_reducible rfl
        rotate_left
        · simp only [Act.put, List.setIfInBounds_toArray, List.set_cons_zero, List.set_cons_succ, i64_w, i32_w]
          rfl
        refine take_ (i := 4) (N := (some 65)) (v := ?_) (a' := ?_) #[true, true, true, true, true, false, false, false, false, false, false, false, false, false, false, false, false, false, false, false, false, false] rfl rfl (take_ofW HT_.out HW_.out (by kernel_rfl)) (fun _ _ _ h => h) (Or.inl ⟨by rfl, ?_⟩) hHeld ?_ ?_
        rotate_left
        · rintro w' ⟨s0, s1, s2⟩
          go_simp
          first | done | with_reducible rfl
        rotate_left
        · simp only [Act.put, List.setIfInBounds_toArray, List.set_cons_zero, List.set_cons_succ, i64_w, i32_w]
          rfl
        refine pure_ (i := 6) (N := (some 67)) (v := ?_) (a' := ?_) #[true, true, true, true, true, false, true, false, false, false, false, false, false, false, false, false, false, false, false, false, false, false] rfl rfl (any_of HT_.out (by kernel_rfl)) (fun _ _ _ h => h) (Or.inl ⟨by rfl, ?_⟩) ?_ ?_
        rotate_left
        · intro w'
          go_simp
          first | done | with_reducible rfl
        rotate_left
        · simp only [Act.put, List.setIfInBounds_toArray, List.set_cons_zero, List.set_cons_succ, i64_w, i32_w]
          rfl
        refine pure_ (i := 7) (N := (some 68)) (v := ?_) (a' := ?_) #[true, true, true, true, true, false, true, true, false, false, false, false, false, false, false, false, false, false, false, false, false, false] rfl rfl (any_of HT_.out (by kernel_rfl)) (fun _ _ _ h => h) (Or.inl ⟨by rfl, ?_⟩) ?_ ?_
        rotate_left
        · intro w'
          go_simp
          first | done | with_reducible rfl
        rotate_left
        · simp only [Act.put, List.setIfInBounds_toArray, List.set_cons_zero, List.set_cons_succ, i64_w, i32_w]
          rfl
        refine take_ (i := 8) (N := (some 69)) (v := ?_) (a' := ?_) #[true, true, true, true, true, false, true, true, true, false, false, false, false, false, false, false, false, false, false, false, false, false] rfl rfl (take_ofW HT_.out HW_.out (by kernel_rfl)) (fun _ _ _ h => h) (Or.inl ⟨by rfl, ?_⟩) hHeld ?_ ?_
        rotate_left
        · rintro w' ⟨s0, s1, s2⟩
          go_simp
          first | done | with_reducible rfl
        rotate_left
        · simp only [Act.put, List.setIfInBounds_toArray, List.set_cons_zero, List.set_cons_succ, i64_w, i32_w]
          rfl
        refine take_ (i := 9) (N := (some 70)) (v := ?_) (a' := ?_) #[true, true, true, true, true, false, true, true, true, true, false, false, false, false, false, false, false, false, false, false, false, false] rfl rfl (take_ofW HT_.out HW_.out (by kernel_rfl)) (fun _ _ _ h => h) (Or.inl ⟨by rfl, ?_⟩) hHeld ?_ ?_
        rotate_left
        · rintro w' ⟨s0, s1, s2⟩
          go_simp
          first | done | with_reducible rfl
        rotate_left
        · simp only [Act.put, List.setIfInBounds_toArray, List.set_cons_zero, List.set_cons_succ, i64_w, i32_w]
          rfl
        refine one_ (i := 5) (N := (some 66)) #[true, true, true, true, true, true, true, true, true, true, false, false, false, false, false, false, false, false, false, false, false, false] rfl rfl (one_of HT_.out (by kernel_rfl)) (by decide) (fun K hK => ?_)
        refine goes_ Try.func15 (by kernel_rfl) rfl #[.pointer (some ⟨tb, 0, none⟩), .int .i64 d.f0, .int .i64 d.f1] (by rfl) rfl rfl (by (try simp only [List.map_toArray, List.map_cons, List.map_nil]); first | done | rfl) ?_
        with_reducible refine (Li.add HT9.out HI.out d.f0 HWF.out d.f1 HWN.out).mono ?_
        rintro ev_ uw ⟨rfl, hT_, hg_⟩
        refine ⟨_, rfl, ?_⟩
        rw [HADD.out] at hT_
        have HX10 := Aside0.mk ((hg_.block _ HXL.out.1 (by simpa using HXL.out.2.1)).trans HX9.out)
        have HM10 := Aside0.mk (HM9.out.grown hg_ (by simpa using HXL.out.2.2))
        have HB10 := Aside0.mk (HB9.out.grown hg_ HB9.out.size (fun j hj => by cases hj; exact HAP.out.2.2.1))
        have HT10 := Aside0.mk hT_
        rw [HCN.out]
        clear hT_ hg_ HT9 HX9 HM9 HB9
        refine hK.out _ _ ⟨(blk_cell HX10.out 0).trans rfl, (blk_cell HX10.out 1).trans rfl, HM10.out.look HWF.out⟩ (fun hHeld => ?_)
        clear hK K
        refine norm_ (a' := ?_) ?_ ?_
        rotate_left
        · show Act.put _ (some 66) _ = _
          simp only [Act.put, List.setIfInBounds_toArray, List.set_cons_zero, List.set_cons_succ, i64_w, i32_w]
          rfl
        refine pure_ (i := 10) (N := (some 71)) (v := ?_) (a' := ?_) #[true, true, true, true, true, true, true, true, true, true, true, false, false, false, false, false, false, false, false, false, false, false] rfl rfl (any_of HT_.out (by kernel_rfl)) (fun _ _ _ h => h) (Or.inl ⟨by rfl, ?_⟩) ?_ ?_
        rotate_left
        · intro w'
          go_simp
          first | done | with_reducible rfl
        rotate_left
        · simp only [Act.put, List.setIfInBounds_toArray, List.set_cons_zero, List.set_cons_succ, i64_w, i32_w]
          rfl
        refine pure_ (i := 11) (N := (some 72)) (v := ?_) (a' := ?_) #[true, true, true, true, true, true, true, true, true, true, true, true, false, false, false, false, false, false, false, false, false, false] rfl rfl (any_of HT_.out (by kernel_rfl)) (fun _ _ _ h => h) (Or.inl ⟨by rfl, ?_⟩) ?_ ?_
        rotate_left
        · intro w'
          go_simp
          first | done | with_reducible rfl
        rotate_left
        · simp only [Act.put, List.setIfInBounds_toArray, List.set_cons_zero, List.set_cons_succ, i64_w, i32_w]
          rfl
        refine pure_ (i := 12) (N := (some 73)) (v := ?_) (a' := ?_) #[true, true, true, true, true, true, true, true, true, true, true, true, true, false, false, false, false, false, false, false, false, false] rfl rfl (any_of HT_.out (by kernel_rfl)) (fun _ _ _ h => h) (Or.inl ⟨by rfl, ?_⟩) ?_ ?_
        rotate_left
        · intro w'
          go_simp
          first | done | with_reducible rfl
        rotate_left
        · simp only [Act.put, List.setIfInBounds_toArray, List.set_cons_zero, List.set_cons_succ, i64_w, i32_w]
          rfl
        refine pure_ (i := 13) (N := (some 74)) (v := ?_) (a' := ?_) #[true, true, true, true, true, true, true, true, true, true, true, true, true, true, false, false, false, false, false, false, false, false] rfl rfl (any_of HT_.out (by kernel_rfl)) (fun _ _ _ h => h) (Or.inl ⟨by rfl, ?_⟩) ?_ ?_
        rotate_left
        · intro w'
          go_simp
          first | done | with_reducible rfl
        rotate_left
        · simp only [Act.put, List.setIfInBounds_toArray, List.set_cons_zero, List.set_cons_succ, i64_w, i32_w]
          rfl
        refine take_ (i := 14) (N := (some 75)) (v := ?_) (a' := ?_) #[true, true, true, true, true, true, true, true, true, true, true, true, true, true, true, false, false, false, false, false, false, false] rfl rfl (take_ofW HT_.out HW_.out (by kernel_rfl)) (fun _ _ _ h => h) (Or.inl ⟨by rfl, ?_⟩) hHeld ?_ ?_
        rotate_left
        · rintro w' ⟨s0, s1, s2⟩
          go_simp
          first | done | with_reducible rfl
        rotate_left
        · simp only [Act.put, List.setIfInBounds_toArray, List.set_cons_zero, List.set_cons_succ, i64_w, i32_w]
          rfl
        refine pure_ (i := 16) (N := (some 77)) (v := ?_) (a' := ?_) #[true, true, true, true, true, true, true, true, true, true, true, true, true, true, true, false, true, false, false, false, false, false] rfl rfl (any_of HT_.out (by kernel_rfl)) (fun _ _ _ h => h) (Or.inl ⟨by rfl, ?_⟩) ?_ ?_
        rotate_left
        · intro w'
          go_simp
          first | done | with_reducible rfl
        rotate_left
        · simp only [Act.put, List.setIfInBounds_toArray, List.set_cons_zero, List.set_cons_succ, i64_w, i32_w]
          rfl
        refine pure_ (i := 17) (N := (some 78)) (v := ?_) (a' := ?_) #[true, true, true, true, true, true, true, true, true, true, true, true, true, true, true, false, true, true, false, false, false, false] rfl rfl (any_of HT_.out (by kernel_rfl)) (fun _ _ _ h => h) (Or.inl ⟨by rfl, ?_⟩) ?_ ?_
        rotate_left
        · intro w'
          go_simp
          first | done | with_reducible rfl
        rotate_left
        · simp only [Act.put, List.setIfInBounds_toArray, List.set_cons_zero, List.set_cons_succ, i64_w, i32_w]
          rfl
        refine take_ (i := 18) (N := (some 79)) (v := ?_) (a' := ?_) #[true, true, true, true, true, true, true, true, true, true, true, true, true, true, true, false, true, true, true, false, false, false] rfl rfl (take_ofW HT_.out HW_.out (by kernel_rfl)) (fun _ _ _ h => h) (Or.inl ⟨by rfl, ?_⟩) hHeld ?_ ?_
        rotate_left
        · rintro w' ⟨s0, s1, s2⟩
          go_simp
          first | done | with_reducible rfl
        rotate_left
        · simp only [Act.put, List.setIfInBounds_toArray, List.set_cons_zero, List.set_cons_succ, i64_w, i32_w]
          rfl
        refine take_ (i := 19) (N := (some 80)) (v := ?_) (a' := ?_) #[true, true, true, true, true, true, true, true, true, true, true, true, true, true, true, false, true, true, true, true, false, false] rfl rfl (take_ofW HT_.out HW_.out (by kernel_rfl)) (fun _ _ _ h => h) (Or.inl ⟨by rfl, ?_⟩) hHeld ?_ ?_
        rotate_left
        · rintro w' ⟨s0, s1, s2⟩
          go_simp
          first | done | with_reducible rfl
        rotate_left
        · simp only [Act.put, List.setIfInBounds_toArray, List.set_cons_zero, List.set_cons_succ, i64_w, i32_w]
          rfl
        refine one_ (i := 15) (N := (some 76)) #[true, true, true, true, true, true, true, true, true, true, true, true, true, true, true, true, true, true, true, true, false, false] rfl rfl (one_of HT_.out (by kernel_rfl)) (by decide) (fun K hK => ?_)
        refine goes_ Try.func16 (by kernel_rfl) rfl #[.pointer (some ⟨tb, 0, none⟩), .int .i64 d.f0] (by rfl) rfl rfl (by (try simp only [List.map_toArray, List.map_cons, List.map_nil]); first | done | rfl) ?_
        with_reducible refine (Li.of' HT10.out d.f0 HWF.out).mono ?_
        rintro ev_ u2 ⟨rfl, hw_⟩
        refine ⟨_, rfl, ?_⟩
        rw [hw_]
        clear hw_ u2
        refine hK.out _ _ ⟨(blk_cell HX10.out 0).trans rfl, (blk_cell HX10.out 1).trans rfl, HM10.out.look HWF.out⟩ (fun hHeld => ?_)
        clear hK K
        refine norm_ (a' := ?_) ?_ ?_
        rotate_left
        · show Act.put _ (some 76) _ = _
          simp only [Act.put, List.setIfInBounds_toArray, List.set_cons_zero, List.set_cons_succ, i64_w, i32_w]
          rfl
        refine pure_ (i := 20) (N := (some 81)) (v := ?_) (a' := ?_) #[true, true, true, true, true, true, true, true, true, true, true, true, true, true, true, true, true, true, true, true, true, false] rfl rfl (any_of HT_.out (by kernel_rfl)) (fun _ _ _ h => h) (Or.inl ⟨by rfl, ?_⟩) ?_ ?_
        rotate_left
        · intro w'
          go_simp
          first | done | with_reducible rfl
        rotate_left
        · simp only [Act.put, List.setIfInBounds_toArray, List.set_cons_zero, List.set_cons_succ, i64_w, i32_w]
          rfl
        refine pure_ (i := 21) (N := (some 82)) (v := ?_) (a' := ?_) #[true, true, true, true, true, true, true, true, true, true, true, true, true, true, true, true, true, true, true, true, true, true] rfl rfl (any_of HT_.out (by kernel_rfl)) (fun _ _ _ h => h) (Or.inl ⟨by rfl, ?_⟩) ?_ ?_
        rotate_left
        · intro w'
          go_simp
          first | done | with_reducible rfl
        rotate_left
        · simp only [Act.put, List.setIfInBounds_toArray, List.set_cons_zero, List.set_cons_succ, i64_w, i32_w]
          rfl
        refine done_ (done_of HT_.out (by kernel_rfl)) ?_
        clear hHeld HT_ HW_
        obtain ⟨r, hr⟩ : ∃ r, uw.heap.size = r := ⟨_, rfl⟩
        have HRL := Aside0.mk (show tb < r ∧ b < r ∧ W.heap.size ≤ r by have := HT10.out.lt; have := HB10.out.size; omega)
        obtain ⟨D, hown, hat⟩ := HM10.out
        have HAT := Aside0.mk hat
        have HSZ := Aside0.mk hown.size_le
        clear hat HX10
        go_wp2_with (first
          | (at_range; refine wpList_range_own _ rfl _ 44 rfl 3 3 Li.law Try.underlying44 _ mb (i + 1) D rfl hown ?_; intro w7 hrg0 hg0 hs0)
          | fail)
        go_frame
        rw [hr] at hrg0 ⊢
        have HRG0 := Aside0.mk hrg0
        have HT11 := Aside0.mk (HT10.out.keep (hg0.block _ HT10.out.lt.1 (by simp)) (hg0.block _ HT10.out.lt.2 (by simp)))
        have HB11 := Aside0.mk (HB10.out.grown hg0 HB10.out.size (fun j hj => by cases hj))
        clear hrg0 hg0 hs0 hown hr HT10 HB10 HM10
        go_loopw [8, 9, 10] (fun v8 v9 v10 wx => ∃ (left : Lit → Bool) (cnt kn : Nat) (ks : List Int) (lo hi : Int), v8 = .int .i64 lo ∧ v9 = .int .i64 hi ∧ v10 = .int .i64 (kn : Int) ∧ Aside0 (ks.length = kn) ∧ Aside0 (wx.ranges Try.prog 3 (plainElem Try.prog 3) mb r (i + 1) D left cnt) ∧ Aside0 (MetK c2 D left ks) ∧ Aside0 (IsB ltP c2 ks lo) ∧ Aside0 (IsB gtP c2 ks hi) ∧ Aside0 (kn + cnt ≤ i + 1) ∧ Aside0 (Li.Tl wx tb b c2 (i + 1)) ∧ Aside0 (Below W.heap.size W wx)) (fun _ _ _ wx => wx.rangeLeft mb r)
        case atStart => exact ⟨_, _, 0, [], 0, 0, rfl, rfl, rfl, ⟨rfl⟩, HRG0, ⟨MetK.start _ _⟩, ⟨.inl ⟨rfl, rfl⟩⟩, ⟨.inl ⟨rfl, rfl⟩⟩, ⟨by have := HSZ.out; omega⟩, HT11, HB11⟩
        case round =>
          clear HRG0 HT11 HB11 HSZ
          obtain ⟨left, cnt, kn, ks, lo, hi, rfl, rfl, rfl, HKN, HRG, HME, HLO, HHI, HCT, HT, HB⟩ := hrel
          go_wp2_with (first
            | (at_next; refine wpList_next_ranges_ii _ rfl _ rfl 3 3 .i64 .i64 Li.law Try.underlying3 Try.underlying3 mb r (i + 1) _ _ _ rfl HRG.out ?_ ?_)
            | fail)
          · as_aux_lemma =>
            intro _ hl0
            have HLEFT := Aside0.mk hl0
            have HOWN := Aside0.mk HRG.out.owns
            have HMR : Aside0 (Wm wr mb c2 (i + 1)) := ⟨⟨D, HRG.out.owns, HAT.out⟩⟩
            have HI1 := Aside0.mk (show i + 1 ≤ 1000000 by have := HLT.out; have := HL.out; omega)
            clear hl0 HRG HCT HRL
            go_wp2_with fail
            refine (Li.least HT.out HI1.out).mono ?_
            rintro ev wa ⟨kl, hkl, rfl, hb⟩
            obtain ⟨la, hla⟩ : ∃ z, (Li.bst Li.ltI c2 kl).1 = z := ⟨_, rfl⟩
            obtain ⟨lv, hlv⟩ : ∃ z, (Li.bst Li.ltI c2 kl).2.1 = z := ⟨_, rfl⟩
            obtain ⟨lb, hlb⟩ : ∃ z, (Li.bst Li.ltI c2 kl).2.2 = z := ⟨_, rfl⟩
            rw [hla, hlv, hlb]
            have HLA := Aside0.mk (And.intro hla (And.intro hlv hlb))
            clear hla hlv hlb
            have HKS := Aside0.mk hkl
            have HPE := Aside0.mk (HME.out.done HOWN.out HAT.out HLEFT.out hkl)
            have HTA := Aside0.mk (HT.out.below hb)
            have HBA := Aside0.mk (below_step HB.out hb)
            have HMA := Aside0.mk (HMR.out.below hb)
            clear hkl hb HT HB HMR HLEFT HOWN
            go_wp2_with fail
            refine (mostI HTA.out HI1.out).mono ?_
            rintro ev wb ⟨kl2, hkl, rfl, hb⟩
            rw [ksetI hkl HKS.out]
            obtain ⟨ha, hla⟩ : ∃ z, (Li.bst Li.gtI c2 kl).1 = z := ⟨_, rfl⟩
            obtain ⟨hv, hlv⟩ : ∃ z, (Li.bst Li.gtI c2 kl).2.1 = z := ⟨_, rfl⟩
            obtain ⟨hbo, hlb⟩ : ∃ z, (Li.bst Li.gtI c2 kl).2.2 = z := ⟨_, rfl⟩
            rw [hla, hlv, hlb]
            have HHA := Aside0.mk (And.intro hla (And.intro hlv hlb))
            clear hla hlv hlb
            have HTB := Aside0.mk (HTA.out.below hb)
            have HBB' := Aside0.mk (below_step HBA.out hb)
            have HMB := Aside0.mk (HMA.out.below hb)
            clear hkl hb HTA HBA HMA
            have hkn : kn = kl.length := by rw [← HKN.out]; exact HPE.out.length_eq
            subst hkn
            have HLB := Aside0.mk (lowB HKS.out.lt (HLO.out.perm HPE.out))
            have HHB := Aside0.mk (highB HKS.out.lt (HHI.out.perm HPE.out))
            have HMW := Aside0.mk HME.out.wf
            have HPM := Aside0.mk (fun z (hz : z ∈ kl) => HPE.out.mem_iff.2 hz)
            clear HLO HHI HPE HKN HME
            go_upto_region 28 with fail
            go_cut [205] from 139 to 205 (fun v wd => v = .bool false ∧ wd = wb)
            case first =>
              rcases HLB.out with ⟨h0, hl0, hbl⟩ | ⟨h0, hlm, hbl⟩
              · rcases HHB.out with ⟨-, hh0, hbh⟩ | ⟨h1, -⟩
                · obtain ⟨e1, e2, e3⟩ := HLA.out
                  obtain ⟨f1, f2, f3⟩ := HHA.out
                  obtain rfl : la = 0 := by rw [← e1, hbl]
                  obtain rfl : lv = 0 := by rw [← e2, hbl]
                  obtain rfl : lb = false := by rw [← e3, hbl]
                  obtain rfl : ha = 0 := by rw [← f1, hbh]
                  obtain rfl : hv = 0 := by rw [← f2, hbh]
                  obtain rfl : hbo = false := by rw [← f3, hbh]
                  clear hbl hbh e1 e2 e3 f1 f2 f3 HLA HHA HLB HHB
                  subst hl0
                  subst hh0
                  subst h0
                  go_wp2_with fail
                  go_meet
                  exact ⟨rfl, rfl⟩
                · exact absurd h0 h1
              · rcases HHB.out with ⟨h1, -⟩ | ⟨-, hhm, hbh⟩
                · exact absurd h1 h0
                · obtain ⟨e1, e2, e3⟩ := HLA.out
                  obtain ⟨f1, f2, f3⟩ := HHA.out
                  obtain rfl : lo = la := by rw [← e1, hbl]
                  obtain ⟨lv', hlv'⟩ : ∃ z, c2 lo = z := ⟨_, rfl⟩
                  obtain rfl : lv = lv' := by rw [← e2, hbl]; exact hlv'
                  obtain rfl : lb = true := by rw [← e3, hbl]
                  obtain rfl : hi = ha := by rw [← f1, hbh]
                  obtain ⟨hv', hhv'⟩ : ∃ z, c2 hi = z := ⟨_, rfl⟩
                  obtain rfl : hv = hv' := by rw [← f2, hbh]; exact hhv'
                  obtain rfl : hbo = true := by rw [← f3, hbh]
                  have hpos : 0 < kl.length := List.length_pos_iff.2 h0
                  have d1 : decide ((kl.length : Int) > 0) = true := decide_eq_true (by omega)
                  have d2 : decide (0 < kl.length) = true := decide_eq_true hpos
                  have hk1 := HMB.out.look (HMW.out lo (HPM.out lo hlm))
                  have hk2 := HMB.out.look (HMW.out hi (HPM.out hi hhm))
                  rw [hlv'] at hk1
                  rw [hhv'] at hk2
                  clear hbl hbh e1 e2 e3 f1 f2 f3 HLA HHA HLB HHB h0 hlm hhm hpos hlv' hhv'
                  go_wp2_with fail
                  go_meet
                  exact ⟨rfl, rfl⟩
            case rest =>
              obtain ⟨rfl, rfl⟩ := hcut
              clear HLB HHB HMW HPM HLA HHA
              go_wp2_with fail
              refine (Li.keys HTB.out HI1.out).mono ?_
              rintro ev w4 ⟨A4, cap4, ks3, rfl, -, hkl, hrow, hks, hb⟩
              have e3 := ksetI hks HKS.out
              subst e3
              have HTC := Aside0.mk (HTB.out.below hb)
              have HBC := Aside0.mk (below_step HBB'.out hb)
              have HMC := Aside0.mk (HMB.out.below hb)
              have HROW := Aside0.mk hrow
              have HKL := Aside0.mk (show ks3.length ≤ 1000000 from Nat.le_trans hkl HI1.out)
              clear hks hb HTB HBB' HMB hrow hkl
              go_wp2_with fail
              go_loopw [214] (fun v214 w5 => ∃ j : Nat, j ≤ ks3.length ∧ v214 = .int .i64 (j : Int) ∧ w5 = w4) (fun v214 _ => ks3.length - (intOf v214).toNat)
              case atStart => exact ⟨0, Nat.zero_le _, rfl, rfl⟩
              case round =>
                obtain ⟨j, hj, rfl, hwr⟩ := hrel
                rw [hwr]
                clear hwr
                by_cases hlt : j < ks3.length
                · have hlt2 : (j : Int) < (ks3.length : Int) := by omega
                  have HJT := Aside0.mk hlt
                  have hw3 : wrap64 ((j : Int) + 1) = ((j + 1 : Nat) : Int) := by rw [show (j : Int) + 1 = ((j + 1 : Nat) : Int) by omega]; exact Li.wrapS _ (by omega) (by have := HKL.out; omega)
                  obtain ⟨ad, rfl, hx⟩ := HROW.out j hlt
                  have hwf := HKS.out.wf _ (List.getElem_mem hlt)
                  have hne := (HKS.out.mem _ hwf).1 (List.getElem_mem hlt)
                  obtain ⟨x, hxe⟩ : ∃ x, ks3[j] = x := ⟨_, rfl⟩
                  rw [hxe] at hx hwf hne
                  have hlk := HMC.out.look hwf
                  have d1 : (c2 x == 0) = false := beq_eq_false_iff_ne.2 hne
                  have d2 : decide (c2 x = 0) = false := decide_eq_false hne
                  have HXE := Aside0.mk hxe
                  clear hxe hwf hne hj
                  by_cases hz : j = 0
                  · have d3 : decide ((j : Int) > 0) = false := decide_eq_false (by omega)
                    have d4 : decide (0 < j) = false := decide_eq_false (by omega)
                    clear HXE hz
                    go_wp2_with fail
                    go_roundw
                    case measure =>
                      have hm : ks3.length - ((j + 1 : Nat) : Int).toNat < ks3.length - ((j : Nat) : Int).toNat := by
                        rw [Int.toNat_natCast, Int.toNat_natCast]
                        exact Nat.sub_lt_sub_left HJT.out (Nat.lt_succ_self j)
                      first | exact hm | (rw [hw3]; exact hm)
                    case rel => exact ⟨j + 1, HJT.out, by first | rw [hw3] | rfl, by first | rfl | trivial⟩
                  · obtain ⟨j', hj'⟩ : ∃ j', j = j' + 1 := ⟨j - 1, by omega⟩
                    have hltp : j' < ks3.length := by omega
                    have hlt3 : (j' : Int) < (ks3.length : Int) := by omega
                    obtain ⟨ad', he', hx'⟩ := HROW.out j' hltp
                    injection he' with he'
                    subst he'
                    obtain ⟨y, hye⟩ : ∃ y, ks3[j'] = y := ⟨_, rfl⟩
                    have hord : y < x := by
                      rw [← hye, ← HXE.out]
                      exact List.pairwise_iff_getElem.1 HKS.out.lt j' j hltp hlt (by omega)
                    rw [hye] at hx'
                    have d3 : decide (x ≤ y) = false := decide_eq_false (by omega)
                    have d4 : decide ((j : Int) > 0) = true := decide_eq_true (by omega)
                    have d5 : decide (0 < j) = true := decide_eq_true (by omega)
                    have hw4 : wrap64 ((j : Int) - 1) = (j' : Int) := by rw [show (j : Int) - 1 = (j' : Int) by omega]; exact Li.wrapS _ (by omega) (by have := HKL.out; omega)
                    clear hye hord HXE hz hj'
                    go_wp2_with fail
                    go_roundw
                    case measure =>
                      have hm : ks3.length - ((j + 1 : Nat) : Int).toNat < ks3.length - ((j : Nat) : Int).toNat := by
                        rw [Int.toNat_natCast, Int.toNat_natCast]
                        exact Nat.sub_lt_sub_left HJT.out (Nat.lt_succ_self _)
                      first | exact hm | (rw [hw3]; exact hm)
                    case rel => exact ⟨j + 1, HJT.out, by first | rw [hw3] | rfl, by first | rfl | trivial⟩
                · have he : j = ks3.length := by omega
                  subst he
                  have hnn : ¬ (((ks3.length : Nat) : Int) < (ks3.length : Int)) := by omega
                  clear hlt hj
                  have hw2 := HW2.out
                  go_wp2_with fail
                  go_roundw
                  case measure =>
                    have hm : l.length - ((i + 1 : Nat) : Int).toNat < l.length - ((i : Nat) : Int).toNat := by
                      rw [Int.toNat_natCast, Int.toNat_natCast]
                      exact Nat.sub_lt_sub_left HLT.out (Nat.lt_succ_self i)
                    first | exact hm | (rw [hw2]; exact hm)
                  case rel => exact ⟨i + 1, _, HLT.out, by first | rw [hw2] | rfl, HTC, HMC, HBC⟩
          · as_aux_lemma =>
            intro x cx w1 cnt1 hwx hwc hlx hatx hrg1 hlt hg1 hs1 hen
            have hcx : c2 x = cx := by
              have h1 := HAT.out x hwx
              rw [hatx] at h1
              injection h1 with h1
              injection h1 with _ h1
              exact h1.symm
            have HT1 := Aside0.mk (HT.out.grown hg1 (by have := HRL.out; omega) (by have := HRL.out; omega))
            have HB1 := Aside0.mk (HB.out.grown hg1 HB.out.size (fun j hj => by cases hj; exact HRL.out.2.2))
            have HRG1 := Aside0.mk hrg1
            have HM1 : Aside0 (Wm w1 mb c2 (i + 1)) := ⟨⟨D, hrg1.owns, HAT.out⟩⟩
            have HCX := Aside0.mk hcx
            have HWX := Aside0.mk hwx
            have HLX := Aside0.mk hlx
            have HCN1 := Aside0.mk hlt
            have HME_ := Aside0.mk (show w1.rangeLeft mb r < wr.rangeLeft mb r by rw [hrg1.left_eq, HRG.out.left_eq]; exact hlt)
            clear hcx hwx hwc hlx hatx hrg1 hlt hg1 hs1 HT HB HRG
            by_cases h0 : cx = 0
            · subst h0
              go_wp2_with fail
              go_roundw
              case rel => exact ⟨_, cnt1, kn, ks, lo, hi, rfl, rfl, rfl, HKN, HRG1, ⟨HME.out.zero HCX.out⟩, HLO, HHI, ⟨by have := HCT.out; have := HCN1.out; omega⟩, HT1, HB1⟩
              case measure => exact HME_.out
            · have d1 : (cx == 0) = false := beq_eq_false_iff_ne.2 h0
              have d2 : decide (cx = 0) = false := decide_eq_false h0
              go_upto_region 21 with fail
              clear hen d1 d2
              go_cut [112] from 85 to 137 (fun v wc => ∃ tk : Bool, v = .bool tk ∧ Aside0 (tk = true → IsB ltP c2 (x :: ks) x) ∧ Aside0 (tk = false → IsB ltP c2 (x :: ks) lo) ∧ wc = w1)
              case first =>
                by_cases hk : ks = []
                · have d1 : ((kn : Int) == 0) = true := by rw [← HKN.out, hk]; rfl
                  have d2 : decide ((kn : Int) = 0) = true := by rw [← HKN.out, hk]; rfl
                  have d3 : (kn == 0) = true := by rw [← HKN.out, hk]; rfl
                  have d4 : decide (kn = 0) = true := by rw [← HKN.out, hk]; rfl
                  have HR := Aside0.mk (IsB.take (better := ltP) (c := c2) (ks := ks) (lo := lo) (x := x) (fun a b d h1 h2 => Int.lt_trans h1 h2) HLO.out (.inl hk))
                  clear hk
                  go_wp2_with fail
                  go_meet
                  exact ⟨true, rfl, ⟨fun _ => HR.out⟩, ⟨fun e => by cases e⟩, rfl⟩
                · have hkn : kn ≠ 0 := by rw [← HKN.out]; exact fun e => hk (List.length_eq_zero_iff.1 e)
                  have d1 : ((kn : Int) == 0) = false := beq_eq_false_iff_ne.2 (by omega)
                  have d2 : decide ((kn : Int) = 0) = false := decide_eq_false (by omega)
                  have d3 : (kn == 0) = false := beq_eq_false_iff_ne.2 hkn
                  have d4 : decide (kn = 0) = false := decide_eq_false hkn
                  have hin : lo ∈ ks := by
                    rcases HLO.out with ⟨h, -⟩ | ⟨h, -⟩
                    · exact absurd h hk
                    · exact h
                  have hlk := HM1.out.look (HME.out.wf lo hin)
                  obtain ⟨cl, hcl⟩ : ∃ z, c2 lo = z := ⟨_, rfl⟩
                  rw [hcl] at hlk
                  have HK := Aside0.mk hk
                  have HCL := Aside0.mk hcl
                  clear hk hkn hin hcl
                  by_cases e1 : cx < cl
                  · have a0 : decide (cx < cl) = true := decide_eq_true e1
                    have HR := Aside0.mk (IsB.take (better := ltP) (c := c2) (ks := ks) (lo := lo) (x := x) (fun a b d h1 h2 => Int.lt_trans h1 h2) HLO.out (.inr (.inl (by rw [HCX.out, HCL.out]; exact e1))))
                    clear e1
                    go_wp2_with fail
                    go_meet
                    exact ⟨true, rfl, ⟨fun _ => HR.out⟩, ⟨fun e => by cases e⟩, rfl⟩
                  · have a0 : decide (cx < cl) = false := decide_eq_false e1
                    by_cases e2 : cx = cl
                    · have a3 : (cx == cl) = true := beq_iff_eq.2 e2
                      have a4 : decide (cx = cl) = true := decide_eq_true e2
                      by_cases e3 : x < lo
                      · have a5 : decide (x < lo) = true := decide_eq_true e3
                        have HR := Aside0.mk (IsB.take (better := ltP) (c := c2) (ks := ks) (lo := lo) (x := x) (fun a b d h1 h2 => Int.lt_trans h1 h2) HLO.out (.inr (.inr ⟨by rw [HCX.out, HCL.out]; exact e2, e3⟩)))
                        clear e1 e2 e3
                        go_wp2_with fail
                        go_meet
                        exact ⟨true, rfl, ⟨fun _ => HR.out⟩, ⟨fun e => by cases e⟩, rfl⟩
                      · have a5 : decide (x < lo) = false := decide_eq_false e3
                        have HR := Aside0.mk (IsB.stay (better := ltP) (c := c2) (ks := ks) (lo := lo) (x := x) HLO.out HK.out (.inr ⟨by rw [HCX.out, HCL.out]; exact e2.symm, by omega⟩))
                        clear e1 e2 e3
                        go_wp2_with fail
                        go_meet
                        exact ⟨false, rfl, ⟨fun e => by cases e⟩, ⟨fun _ => HR.out⟩, rfl⟩
                    · have a3 : (cx == cl) = false := beq_eq_false_iff_ne.2 e2
                      have a4 : decide (cx = cl) = false := decide_eq_false e2
                      have HR := Aside0.mk (IsB.stay (better := ltP) (c := c2) (ks := ks) (lo := lo) (x := x) HLO.out HK.out (.inl (by rw [HCX.out, HCL.out]; show cl < cx; omega)))
                      clear e1 e2
                      go_wp2_with fail
                      go_meet
                      exact ⟨false, rfl, ⟨fun e => by cases e⟩, ⟨fun _ => HR.out⟩, rfl⟩
              case rest =>
                obtain ⟨tk, rfl, HR1, HR2, rfl⟩ := hcut
                clear HLO
                go_upto_if 112 with fail
                go_cut [8] from 85 to 137 (fun v8 wd => ∃ lo' : Int, v8 = .int .i64 lo' ∧ Aside0 (IsB ltP c2 (x :: ks) lo') ∧ wd = wc)
                case first =>
                  cases tk with
                  | true =>
                    have HL2 := Aside0.mk (HR1.out rfl)
                    clear HR1 HR2
                    go_wp2_with fail
                    go_meet
                    exact ⟨_, rfl, HL2, rfl⟩
                  | false =>
                    have HL2 := Aside0.mk (HR2.out rfl)
                    clear HR1 HR2
                    go_wp2_with fail
                    go_meet
                    exact ⟨_, rfl, HL2, rfl⟩
                case rest =>
                  obtain ⟨lo', rfl, HL2, rfl⟩ := hcut
                  clear HR1 HR2
                  go_upto_region 23 with fail
                  go_cut [134] from 85 to 137 (fun v wd => ∃ tk : Bool, v = .bool tk ∧ Aside0 (tk = true → IsB gtP c2 (x :: ks) x) ∧ Aside0 (tk = false → IsB gtP c2 (x :: ks) hi) ∧ wd = wc)
                  case first =>
                    by_cases hk : ks = []
                    · have d1 : ((kn : Int) == 0) = true := by rw [← HKN.out, hk]; rfl
                      have d2 : decide ((kn : Int) = 0) = true := by rw [← HKN.out, hk]; rfl
                      have d3 : (kn == 0) = true := by rw [← HKN.out, hk]; rfl
                      have d4 : decide (kn = 0) = true := by rw [← HKN.out, hk]; rfl
                      have HR := Aside0.mk (IsB.take (better := gtP) (c := c2) (ks := ks) (lo := hi) (x := x) (fun a b d h1 h2 => Int.lt_trans h2 h1) HHI.out (.inl hk))
                      clear hk
                      go_wp2_with fail
                      go_meet
                      exact ⟨true, rfl, ⟨fun _ => HR.out⟩, ⟨fun e => by cases e⟩, rfl⟩
                    · have hkn : kn ≠ 0 := by rw [← HKN.out]; exact fun e => hk (List.length_eq_zero_iff.1 e)
                      have d1 : ((kn : Int) == 0) = false := beq_eq_false_iff_ne.2 (by omega)
                      have d2 : decide ((kn : Int) = 0) = false := decide_eq_false (by omega)
                      have d3 : (kn == 0) = false := beq_eq_false_iff_ne.2 hkn
                      have d4 : decide (kn = 0) = false := decide_eq_false hkn
                      have hin : hi ∈ ks := by
                        rcases HHI.out with ⟨h, -⟩ | ⟨h, -⟩
                        · exact absurd h hk
                        · exact h
                      have hlk := HM1.out.look (HME.out.wf hi hin)
                      obtain ⟨cl, hcl⟩ : ∃ z, c2 hi = z := ⟨_, rfl⟩
                      rw [hcl] at hlk
                      have HK := Aside0.mk hk
                      have HCL := Aside0.mk hcl
                      clear hk hkn hin hcl
                      by_cases e1 : cl < cx
                      · have a0 : decide (cx > cl) = true := decide_eq_true e1; have a1 : decide (cl < cx) = true := decide_eq_true e1
                        have HR := Aside0.mk (IsB.take (better := gtP) (c := c2) (ks := ks) (lo := hi) (x := x) (fun a b d h1 h2 => Int.lt_trans h2 h1) HHI.out (.inr (.inl (by rw [HCX.out, HCL.out]; exact e1))))
                        clear e1
                        go_wp2_with fail
                        go_meet
                        exact ⟨true, rfl, ⟨fun _ => HR.out⟩, ⟨fun e => by cases e⟩, rfl⟩
                      · have a0 : decide (cx > cl) = false := decide_eq_false e1; have a1 : decide (cl < cx) = false := decide_eq_false e1
                        by_cases e2 : cx = cl
                        · have a3 : (cx == cl) = true := beq_iff_eq.2 e2
                          have a4 : decide (cx = cl) = true := decide_eq_true e2
                          by_cases e3 : x < hi
                          · have a5 : decide (x < hi) = true := decide_eq_true e3
                            have HR := Aside0.mk (IsB.take (better := gtP) (c := c2) (ks := ks) (lo := hi) (x := x) (fun a b d h1 h2 => Int.lt_trans h2 h1) HHI.out (.inr (.inr ⟨by rw [HCX.out, HCL.out]; exact e2, e3⟩)))
                            clear e1 e2 e3
                            go_wp2_with fail
                            go_meet
                            exact ⟨true, rfl, ⟨fun _ => HR.out⟩, ⟨fun e => by cases e⟩, rfl⟩
                          · have a5 : decide (x < hi) = false := decide_eq_false e3
                            have HR := Aside0.mk (IsB.stay (better := gtP) (c := c2) (ks := ks) (lo := hi) (x := x) HHI.out HK.out (.inr ⟨by rw [HCX.out, HCL.out]; exact e2.symm, by omega⟩))
                            clear e1 e2 e3
                            go_wp2_with fail
                            go_meet
                            exact ⟨false, rfl, ⟨fun e => by cases e⟩, ⟨fun _ => HR.out⟩, rfl⟩
                        · have a3 : (cx == cl) = false := beq_eq_false_iff_ne.2 e2
                          have a4 : decide (cx = cl) = false := decide_eq_false e2
                          have HR := Aside0.mk (IsB.stay (better := gtP) (c := c2) (ks := ks) (lo := hi) (x := x) HHI.out HK.out (.inl (by rw [HCX.out, HCL.out]; show cx < cl; omega)))
                          clear e1 e2
                          go_wp2_with fail
                          go_meet
                          exact ⟨false, rfl, ⟨fun e => by cases e⟩, ⟨fun _ => HR.out⟩, rfl⟩
                  case rest =>
                    obtain ⟨tk, rfl, HR1, HR2, rfl⟩ := hcut
                    clear HHI
                    go_upto_if 134 with fail
                    go_cut [9] from 85 to 137 (fun v9 wd => ∃ hi' : Int, v9 = .int .i64 hi' ∧ Aside0 (IsB gtP c2 (x :: ks) hi') ∧ wd = wc)
                    case first =>
                      cases tk with
                      | true =>
                        have HL3 := Aside0.mk (HR1.out rfl)
                        clear HR1 HR2
                        go_wp2_with fail
                        go_meet
                        exact ⟨_, rfl, HL3, rfl⟩
                      | false =>
                        have HL3 := Aside0.mk (HR2.out rfl)
                        clear HR1 HR2
                        go_wp2_with fail
                        go_meet
                        exact ⟨_, rfl, HL3, rfl⟩
                    case rest =>
                      obtain ⟨hi', rfl, HH2, rfl⟩ := hcut
                      clear HR1 HR2
                      have hw1 : wrap64 ((kn : Int) + 1) = ((kn + 1 : Nat) : Int) := by rw [show (kn : Int) + 1 = ((kn + 1 : Nat) : Int) by omega]; exact Li.wrapS _ (by omega) (by have := HL.out; have := HCT.out; have := HLT.out; omega)
                      go_wp2_with fail
                      go_roundw
                      case rel => exact ⟨_, cnt1, kn + 1, x :: ks, _, _, rfl, rfl, (by rw [hw1]), ⟨by rw [List.length_cons, HKN.out]⟩, HRG1, ⟨HME.out.step HWX.out HLX.out (by rw [HCX.out]; exact h0)⟩, HL2, HH2, ⟨by have := HCT.out; have := HCN1.out; omega⟩, HT1, HB1⟩
                      case measure => exact HME_.out
    · have he : i = l.length := by omega
      subst he
      have hnn : ¬ (((l.length : Nat) : Int) < (l.length : Int)) := by omega
      clear hlt hi
      go_wp2_with fail
      refine (awake wr).mono ?_
      rintro ev w6 ⟨rfl, hb6⟩
      have HB6 := Aside0.mk (below_step HB.out hb6)
      clear hb6
      go_wp2_with fail
      go_ret
      exact ⟨rfl, HB6.out⟩
theorem playsFinal (W : World) (A0 : Option Addr) (c0 : Nat) (l0 : List S33) (hc0 : l0.length ≤ c0) (hr0 : Kd.C k33 W A0 l0.length l0) (hm0 : l0.length ≤ maxLen) (hok0 : ∀ x ∈ l0, (Lit.int .i64 x.f0).wf = true ∧ (Lit.int .i64 x.f1).wf = true) :
    Calls Try.prog 6 #[.slice A0 l0.length c0] W fun e W' => e = .returned (.bool true) ∧ Below W.heap.size W W' := plays W A0 c0 l0 hr0 hok0
end Go.Proofs.Ythnicdafglohbaa.Lw
