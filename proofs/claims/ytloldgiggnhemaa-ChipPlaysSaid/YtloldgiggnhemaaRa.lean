/-  ChipPlays returns true whatever the calls.  -/
import Derived.Test.YtloldgiggnhemaaRv
import Derived.Deep.CutBlock
set_option linter.unusedVariables false
set_option linter.unusedSimpArgs false
namespace Go.Proofs.Ytloldgiggnhemaa.Cm
open Go.RowKit Go.Proofs.YtloldgiggnhemaaW.PrintWords Go.Proofs.YtloldgiggnhemaaW.PrintLast Go.Proofs.YtloldgiggnhemaaW.PrintMore Go.Proofs.Ytloldgiggnhemaa.Kp Go.Proofs.Ytloldgiggnhemaa.Cp
attribute [local go_sem] max2_int min2_int max_two min_two max_three min_three max_four min_four

def reg_Plays_14.T : Bool × List (List Nat × List Nat) := (true, [([], []), ([0], [0]), ([1], [1]), ([2], [2]), ([], []), ([4], [4]), ([5], [5]), ([3, 6], [3, 6]), ([7], [7]), ([8], [8]), ([0, 1, 2, 3, 4, 5, 6, 7, 8, 9], []), ([10, 0, 1, 2, 3, 4, 5, 6, 7, 8, 9], [10]), ([11, 9, 0, 1, 2, 3, 4, 5, 6, 7, 8, 9], [9, 11])])
def reg_Plays_14.B : List Nat := [0, 1, 3, 7, 0, 16, 48, 127, 255, 511, 1023, 2047, 4095]
theorem reg_Plays_14.tab : rtab .any (opsOf Try.f8 14) = reg_Plays_14.T := by kernel_rfl
theorem reg_Plays_14.bits : waitsOk reg_Plays_14.T.2 reg_Plays_14.B = true := by kernel_rfl
def reg_Plays_16.T : Bool × List (List Nat × List Nat) := (true, [([], []), ([], []), ([1], [1]), ([], []), ([3], [3]), ([0, 2, 4], [0, 2, 4]), ([], []), ([], []), ([7], [7]), ([], []), ([9], [9]), ([6, 8, 10, 5], [6, 8, 10]), ([5, 11], [5, 11]), ([12, 11, 0, 1, 2, 3, 4, 5, 6, 7, 8, 9, 10, 11, 12], [12])])
def reg_Plays_16.B : List Nat := [0, 0, 2, 0, 8, 31, 0, 0, 128, 0, 512, 2047, 4095, 8191]
theorem reg_Plays_16.tab : rtab .any (opsOf Try.f8 16) = reg_Plays_16.T := by kernel_rfl
theorem reg_Plays_16.bits : waitsOk reg_Plays_16.T.2 reg_Plays_16.B = true := by kernel_rfl
def reg_Plays_22.T : Bool × List (List Nat × List Nat) := (true, [([], []), ([], []), ([1], [1]), ([2], [2]), ([0, 3], [0, 3]), ([], []), ([], []), ([6], [6]), ([7], [7]), ([5, 8, 4], [5, 8]), ([4, 9], [4, 9]), ([10, 9, 0, 1, 2, 3, 4, 5, 6, 7, 8, 9, 10], [10])])
def reg_Plays_22.B : List Nat := [0, 0, 2, 6, 15, 0, 0, 64, 192, 511, 1023, 2047]
theorem reg_Plays_22.tab : rtab .any (opsOf Try.f8 22) = reg_Plays_22.T := by kernel_rfl
theorem reg_Plays_22.bits : waitsOk reg_Plays_22.T.2 reg_Plays_22.B = true := by kernel_rfl
def reg_Plays_35.T : Bool × List (List Nat × List Nat) := (true, [([], []), ([0], [0]), ([1], [1]), ([2], [2]), ([3, 2, 2], [2, 3]), ([2], [2]), ([5, 2], [2, 5]), ([6, 2], [2, 6]), ([7, 2], [2, 7]), ([4, 8, 2], [2, 4, 8]), ([2, 9], [2, 9]), ([10, 4], [10]), ([11], [11]), ([12, 11, 11], [11, 12]), ([11], [11]), ([14, 11], [11, 14]), ([15, 11], [11, 15]), ([16, 11], [11, 16]), ([13, 17, 11], [11, 13, 17]), ([11, 18], [11, 18]), ([19, 13], [19]), ([20], [20]), ([20], [20]), ([22, 20], [20, 22]), ([23, 20], [20, 23]), ([21, 24, 20, 20], [20, 21, 24]), ([20], [20]), ([20], [20]), ([27, 20], [20, 27]), ([28, 20], [20, 28]), ([26, 29, 25, 20], [20, 26, 29]), ([25, 30, 30, 20], [20, 25, 30]), ([31, 20], [20, 31]), ([20, 32], [20, 32])])
def reg_Plays_35.B : List Nat := [0, 1, 3, 7, 15, 7, 39, 103, 231, 511, 1023, 2047, 4095, 8191, 4095, 20479, 53247, 118783, 262143, 524287, 1048575, 2097151, 2097151, 6291455, 14680063, 33554431, 2097151, 2097151, 136314879, 404750335, 1073741823, 2147483647, 4294967295, 8589934591]
theorem reg_Plays_35.tab : rtab .any (opsOf Try.f8 35) = reg_Plays_35.T := by kernel_rfl
theorem reg_Plays_35.bits : waitsOk reg_Plays_35.T.2 reg_Plays_35.B = true := by kernel_rfl
def reg_Plays_38.T : Bool × List (List Nat × List Nat) := (true, [([], []), ([0], [0]), ([], []), ([2], [2]), ([3], [3]), ([4], [4]), ([1, 5, 1], [1, 5]), ([6, 6], [6]), ([7, 7], [7]), ([7, 8], [7, 8]), ([9, 8, 0, 1, 2, 3, 4, 5, 6, 7, 8, 9], [9])])
def reg_Plays_38.B : List Nat := [0, 1, 0, 4, 12, 28, 63, 127, 255, 511, 1023]
theorem reg_Plays_38.tab : rtab .any (opsOf Try.f8 38) = reg_Plays_38.T := by kernel_rfl
theorem reg_Plays_38.bits : waitsOk reg_Plays_38.T.2 reg_Plays_38.B = true := by kernel_rfl
set_option maxHeartbeats 8000000 in
set_option maxRecDepth 100000 in
theorem plays4 (W : World) (bl pa : Int) (A0 : Option Addr) (c0 : Nat) (bad : List Int) (hc0 : bad.length ≤ c0) (hC0 : Kd.C (Kd.int .i64) W A0 bad.length bad) (hm0 : bad.length ≤ maxLen)
    (A1 : Option Addr) (c1 : Nat) (l : List S52) (hc1 : l.length ≤ c1) (hC1 : Kd.C k52 W A1 l.length l) (hm1 : l.length ≤ maxLen) (hok : ∀ x ∈ l, (Lit.int .i64 x.f1).wf = true ∧ (Lit.int .i64 x.f2).wf = true) :
    Calls Try.prog 8 #[.int .i64 bl, .int .i64 pa, .slice A0 bad.length c0, .slice A1 l.length c1] W fun e W' => e = .returned (.bool true) ∧ Below W.heap.size W W' := by
  have HC0 := Aside0.mk hC0
  have HCC0 := Aside0.mk hc0
  have HC1 := Aside0.mk hC1
  have HOK := Aside0.mk hok
  have HV := Aside0.mk (heavy W A1 c1 l hC1 hc1 hm1)
  clear hC1 hc1 hC0 hc0 hm0 hm1 hok
  go_enter Try.func8, Try.ntmps8
  go_wp2_with fail
  refine HV.out.mono ?_
  clear HV
  rintro ev w0 ⟨r, rfl, hr, hb0⟩
  have HR := Aside0.mk hr
  have HB0 := Aside0.mk hb0
  clear hr hb0
  by_cases hr0 : 0 < r
  · have d0 : decide (r > 0) = true := decide_eq_true hr0
    go_wp2_with fail
    refine (awake4 w0).mono ?_
    rintro ev w6 ⟨rfl, hb6⟩
    have HB6 := Aside0.mk (below_step HB0.out hb6)
    clear hb6
    go_wp2_with fail
    go_ret
    exact ⟨rfl, HB6.out⟩
  have d0 : decide (r > 0) = false := decide_eq_false hr0
  have d0n : decide (0 < r) = false := decide_eq_false hr0
  obtain ⟨hl150, hlen⟩ := HR.out (by omega)
  have HL := Aside0.mk hl150
  have HLEN := Aside0.mk hlen
  clear hr0 HR hl150 hlen
  by_cases h1 : 100 < bad.length
  · have d1 : decide ((bad.length : Int) > 100) = true := decide_eq_true (by omega)
    have d1n : decide (100 < bad.length) = true := decide_eq_true h1
    clear h1
    go_wp2_with fail
    refine (awake4 w0).mono ?_
    rintro ev w6 ⟨rfl, hb6⟩
    have HB6 := Aside0.mk (below_step HB0.out hb6)
    clear hb6
    go_wp2_with fail
    go_ret
    exact ⟨rfl, HB6.out⟩
  have d1 : decide ((bad.length : Int) > 100) = false := decide_eq_false (by omega)
  have d1n : decide (100 < bad.length) = false := decide_eq_false h1
  have HBL := Aside0.mk (show bad.length ≤ 100 by omega)
  clear h1
  by_cases hnp : 1 ≤ bl ∧ bl ≤ 64 ∧ 1 ≤ pa ∧ pa ≤ 32
  · obtain ⟨n, rfl⟩ : ∃ n : Nat, bl = n := ⟨bl.toNat, by omega⟩
    obtain ⟨p, rfl⟩ : ∃ p : Nat, pa = p := ⟨pa.toNat, by omega⟩
    have HNP : Aside0 (1 ≤ n ∧ n ≤ 64 ∧ 1 ≤ p ∧ p ≤ 32) := ⟨by omega⟩
    clear hnp
    go_wp2_with fail
    refine (newH w0 n p A0 c0 bad (Kd.C_below HC0.out HB0.out) HCC0.out (by have := HBL.out; omega) HNP.out.1 HNP.out.2.1 HNP.out.2.2.1 HNP.out.2.2.2).mono ?_
    rintro ev w1 ⟨g, rfl, hh, hbn⟩
    have HH1 := Aside0.mk hh
    have HB1 := Aside0.mk (below_step HB0.out hbn)
    have HS1 := Aside0.mk hbn.size
    clear hh hbn
    go_wp2_with fail
    refine (rnew w1 n p A0 c0 bad (Kd.C_below HC0.out HB1.out) (by have := HBL.out; omega) HNP.out.1 HNP.out.2.1 HNP.out.2.2.1 HNP.out.2.2.2).mono ?_
    rintro ev w2 ⟨g2, rfl, hrf, hbn⟩
    have HB2 := Aside0.mk (below_step HB1.out hbn)
    have HP0 : Aside0 (Pm0 W w0.heap.size w1.heap.size g g2 (newS n p bad) (newR n p bad) w2) := ⟨Pm0.mk' (HH1.out.below hbn) ⟨hrf.tight, fun k hk => hk.2⟩ (fun k hk hk2 => by have := hk.2; have := hk2.1; omega) HB0.out.size (Nat.le_trans HB0.out.size HS1.out) (below_step HB1.out hbn)⟩
    have HA0 : Aside0 (Aft l.length (newS n p bad) (newR n p bad)) := ⟨⟨Sim.new' _ _ _ _, PgB.new _ _ _⟩⟩
    obtain ⟨b1, hb1⟩ : ∃ x, w0.heap.size = x := ⟨_, rfl⟩
    obtain ⟨b2, hb2⟩ : ∃ x, w1.heap.size = x := ⟨_, rfl⟩
    have HNL : Aside0 ((newR n p bad).blocks.length = n) := ⟨newR_len n p bad⟩
    obtain ⟨s0, hs0⟩ : ∃ x, newS n p bad = x := ⟨_, rfl⟩
    obtain ⟨r0, hr0⟩ : ∃ x, newR n p bad = x := ⟨_, rfl⟩
    rw [hb1, hb2, hs0, hr0] at HP0
    rw [hs0, hr0] at HA0
    rw [hr0] at HNL
    clear hrf hbn hb1 hb2 hs0 hr0 HH1 HB1 HS1 HB0 HB2 d0 d0n d1 d1n HC0 HCC0 HBL
    go_wp2_with fail
    go_loopw [45] (fun v45 wr => ∃ (j : Nat) (s r : Chp), j ≤ l.length ∧ v45 = .int .i64 (j : Int) ∧ Aside0 (Pm0 W b1 b2 g g2 s r wr) ∧ Aside0 (Aft (l.length - j) s r) ∧ Aside0 (r.blocks.length = n)) (fun v45 _ => l.length - (intOf v45).toNat)
    case atStart => exact ⟨0, s0, r0, Nat.zero_le _, rfl, HP0, HA0, HNL⟩
    case round =>
      clear HP0 HA0 HNL s0 r0
      obtain ⟨j, s, r, hj, rfl, HP, HA, HNL⟩ := hrel
      by_cases hlt : j < l.length
      · have hlt2 : (j : Int) < (l.length : Int) := by omega
        have HLT := Aside0.mk hlt
        have hw2 : wrap64 ((j : Int) + 1) = ((j + 1 : Nat) : Int) := by rw [show (j : Int) + 1 = ((j + 1 : Nat) : Int) by omega]; exact rwrap (by omega) (by have := HL.out; omega)
        have HW2 := Aside0.mk hw2
        obtain ⟨ad, A4, c4, rfl, y0, y1, y2, y3, y4, y5, hl4, hC4⟩ := doAt HC1.out j hlt
        have hb := HP.out.bel
        have x0 := pw_cell_below hb y0
        have x1 := pw_cell_below hb y1
        have x2 := pw_cell_below hb y2
        have x3 := pw_cell_below hb y3
        have x4 := pw_cell_below hb y4
        have x5 := pw_cell_below hb y5
        have hokd := HOK.out (l.getD j z52) (by rw [List.getD_eq_getElem?_getD, List.getElem?_eq_getElem hlt]; exact List.getElem_mem hlt)
        have hlend := HLEN.out j hlt
        obtain ⟨d, hd⟩ : ∃ d, l.getD j z52 = d := ⟨_, rfl⟩
        rw [hd] at x0 x1 x2 x3 x4 x5 hl4 hC4 hokd hlend
        obtain ⟨z0, z1, z2, ⟨sb, sp⟩, xs⟩ := d
        simp only at x0 x1 x2 x3 x4 x5 hl4 hC4 hokd hlend
        have HOKD := Aside0.mk hokd
        have HLD := Aside0.mk hlend
        have HL4 := Aside0.mk hl4
        have HC4 := Aside0.mk hC4
        have HAK : Aside0 (∃ k, l.length - j = k + 1 ∧ l.length - (j + 1) = k ∧ k ≤ 1000) := ⟨⟨l.length - (j + 1), by omega, rfl, by have := HL.out; omega⟩⟩
        clear hd hlt hj y0 y1 y2 y3 y4 y5 hb hokd hlend hl4 hC4 hw2
        obtain ⟨m4, hm4⟩ : ∃ m, xs.length = m := ⟨_, rfl⟩
        rw [hm4] at x5
        have HM4 := Aside0.mk hm4
        clear hm4
        go_upto_region 11 with fail
        have HP4 := Aside0.mk (HP.out.box (.cells #[.int .i64 z0, .int .i64 z1, .int .i64 z2, .int .i64 sb, .int .i64 sp, .slice A4 m4 c4] 52) (blk_new wr _) (below_alloc (Below.refl _ _) _))
        obtain ⟨w4, hw4⟩ : ∃ w4, wr.alloc (.cells #[.int .i64 z0, .int .i64 z1, .int .i64 z2, .int .i64 sb, .int .i64 sp, .slice A4 m4 c4] 52) = w4 := ⟨_, rfl⟩
        obtain ⟨bx, hbx⟩ : ∃ x, wr.heap.size = x := ⟨_, rfl⟩
        rw [hw4] at HP4 ⊢
        rw [hbx] at HP4 ⊢
        clear x0 x1 x2 x3 x4 x5 hw4 hbx HP
        obtain ⟨t, ht⟩ : ∃ t, (z0 == 6) = t := ⟨_, rfl⟩
        have HT := Aside0.mk ht
        clear ht
        have c0 : w4.cell? ⟨bx, 0, none⟩ = some (.int .i64 z0) := (blk_cell HP4.out.blk 0).trans rfl
        go_upto_if 51 with fail
        rw [HT.out]
        clear c0
        go_cut [] from 46 to 202 (fun wd => ∃ sb' sp' : Int, Aside0 (Pm W b1 b2 g g2 bx (.cells #[.int .i64 z0, .int .i64 z1, .int .i64 z2, .int .i64 sb', .int .i64 sp', .slice A4 m4 c4] 52 (0, 0)) s r wd))
        case first =>
          cases t with
          | false =>
            go_wp2_with fail
            go_meet
            exact ⟨sb, sp, HP4⟩
          | true =>
            have c3 : w4.cell? ⟨bx, 3, none⟩ = some (.int .i64 sb) := (blk_cell HP4.out.blk 3).trans rfl
            have f3 : w4.frozen? ⟨bx, 3, none⟩ = false := blk_frozen HP4.out.blk 3
            obtain ⟨k, hk, hkn⟩ := smallW sb n (by have := HNP.out; omega) (by have := HNP.out; omega)
            have hun : IntKind.u64.wrap (n : Int) = (n : Int) := by rw [IntKind.wrap_u64]; have := HNP.out; omega
            have hn0 : ((n : Int) == 0) = false := beq_eq_false_iff_ne.2 (by have := HNP.out; omega)
            have hn1 : decide ((n : Int) = 0) = false := decide_eq_false (by have := HNP.out; omega)
            have hn2 : ¬ (n : Int) = 0 := by have := HNP.out; omega
            have HKN := Aside0.mk hkn
            clear hkn
            go_upto_region 14 with fail
            obtain ⟨wa, hwa⟩ : ∃ wa, w4.setCell ⟨bx, 3, none⟩ (.int .i64 (k : Int)) = wa := ⟨_, rfl⟩
            have HP5a : Aside0 (Pm W b1 b2 g g2 bx (.cells #[.int .i64 z0, .int .i64 z1, .int .i64 z2, .int .i64 (k : Int), .int .i64 sp, .slice A4 m4 c4] 52 (0, 0)) s r wa) := ⟨by rw [← hwa]; exact HP4.out.put 3 _ (blk_put HP4.out.blk 3 _ rfl)⟩
            rw [hwa]
            have HP7 := Aside0.mk (HP5a.out.below (below_drew (Below.refl _ wa)))
            obtain ⟨hh, cap, pg, ⟨q0, -⟩, _, _, _, qr⟩ := HP7.out.forget.cells
            rw [HNL.out] at q0
            obtain ⟨B, hB⟩ : ∃ B, r.blocks[k]? = some B := ⟨_, List.getElem?_eq_getElem (by rw [HNL.out]; have := HKN.out; omega)⟩
            have HELD : Aside0 (wa.drew.cell? ⟨g2, 0, none⟩ = some (.slice (some ⟨hh, 0, none⟩) n cap) ∧ wa.drew.cell? ⟨bx, 3, none⟩ = some (.int .i64 (k : Int)) ∧ wa.drew.cell? ⟨hh, k * 4 + 1, none⟩ = some (.int .i64 B.next)) := ⟨⟨q0, (boxD HP7.out.blk).2.2.2.1, (rrowCells qr hB).2.1⟩⟩
            have hkn2 : (k : Int) < (n : Int) := HKN.out
            clear hwa q0 qr hB c3 f3 hk hun hn0 hn1 hn2 HP4 HP5a
            refine start_ (n := 13) (S := fun w' => w'.cell? ⟨g2, 0, none⟩ = some (.slice (some ⟨hh, 0, none⟩) n cap) ∧ w'.cell? ⟨bx, 3, none⟩ = some (.int .i64 (k : Int)) ∧ w'.cell? ⟨hh, k * 4 + 1, none⟩ = some (.int .i64 B.next)) (ds := [12]) #[false, false, false, false, false, false, false, false, false, false, false, false, false] (by kernel_rfl) rfl rfl HELD.out (fun hHeld => ?_)
            refine with_tabW reg_Plays_14.tab reg_Plays_14.bits (fun HT_ HW_ => ?_)
            refine pure_ (i := 0) (N := (some 62)) (v := ?_) (a' := ?_) #[true, false, false, false, false, false, false, false, false, false, false, false, false] rfl rfl (any_of HT_.out (by kernel_rfl)) (fun _ _ _ h => h) (Or.inl ⟨by rfl, ?_⟩) ?_ ?_
            rotate_left
            · intro w'
              go_simp
              first | done | with_reducible rfl
            rotate_left
            · simp only [Act.put, List.setIfInBounds_toArray, List.set_cons_zero, List.set_cons_succ, i64_w, i32_w]
              rfl
            refine pure_ (i := 1) (N := (some 63)) (v := ?_) (a' := ?_) #[true, true, false, false, false, false, false, false, false, false, false, false, false] rfl rfl (any_of HT_.out (by kernel_rfl)) (fun _ _ _ h => h) (Or.inl ⟨by rfl, ?_⟩) ?_ ?_
            rotate_left
            · intro w'
              go_simp
              first | done | with_reducible rfl
            rotate_left
            · simp only [Act.put, List.setIfInBounds_toArray, List.set_cons_zero, List.set_cons_succ, i64_w, i32_w]
              rfl
            refine pure_ (i := 2) (N := (some 64)) (v := ?_) (a' := ?_) #[true, true, true, false, false, false, false, false, false, false, false, false, false] rfl rfl (any_of HT_.out (by kernel_rfl)) (fun _ _ _ h => h) (Or.inl ⟨by rfl, ?_⟩) ?_ ?_
            rotate_left
            · intro w'
              go_simp
              first | done | with_reducible rfl
            rotate_left
            · simp only [Act.put, List.setIfInBounds_toArray, List.set_cons_zero, List.set_cons_succ, i64_w, i32_w]
              rfl
            refine take_ (i := 3) (N := (some 65)) (v := ?_) (a' := ?_) #[true, true, true, true, false, false, false, false, false, false, false, false, false] rfl rfl (take_ofW HT_.out HW_.out (by kernel_rfl)) (fun _ _ _ h => h) (Or.inl ⟨by rfl, ?_⟩) hHeld ?_ ?_
            rotate_left
            · rintro w' ⟨s0, s1, s2⟩
              go_simp
              first | done | with_reducible rfl
            rotate_left
            · simp only [Act.put, List.setIfInBounds_toArray, List.set_cons_zero, List.set_cons_succ, i64_w, i32_w]
              rfl
            refine pure_ (i := 4) (N := (some 66)) (v := ?_) (a' := ?_) #[true, true, true, true, true, false, false, false, false, false, false, false, false] rfl rfl (any_of HT_.out (by kernel_rfl)) (fun _ _ _ h => h) (Or.inl ⟨by rfl, ?_⟩) ?_ ?_
            rotate_left
            · intro w'
              go_simp
              first | done | with_reducible rfl
            rotate_left
            · simp only [Act.put, List.setIfInBounds_toArray, List.set_cons_zero, List.set_cons_succ, i64_w, i32_w]
              rfl
            refine pure_ (i := 5) (N := (some 67)) (v := ?_) (a' := ?_) #[true, true, true, true, true, true, false, false, false, false, false, false, false] rfl rfl (any_of HT_.out (by kernel_rfl)) (fun _ _ _ h => h) (Or.inl ⟨by rfl, ?_⟩) ?_ ?_
            rotate_left
            · intro w'
              go_simp
              first | done | with_reducible rfl
            rotate_left
            · simp only [Act.put, List.setIfInBounds_toArray, List.set_cons_zero, List.set_cons_succ, i64_w, i32_w]
              rfl
            refine take_ (i := 6) (N := (some 68)) (v := ?_) (a' := ?_) #[true, true, true, true, true, true, true, false, false, false, false, false, false] rfl rfl (take_ofW HT_.out HW_.out (by kernel_rfl)) (fun _ _ _ h => h) (Or.inl ⟨by rfl, ?_⟩) hHeld ?_ ?_
            rotate_left
            · rintro w' ⟨s0, s1, s2⟩
              go_simp
              first | done | with_reducible rfl
            rotate_left
            · simp only [Act.put, List.setIfInBounds_toArray, List.set_cons_zero, List.set_cons_succ, i64_w, i32_w]
              rfl
            refine pure_ (i := 7) (N := (some 69)) (v := ?_) (a' := ?_) #[true, true, true, true, true, true, true, true, false, false, false, false, false] rfl rfl (any_of HT_.out (by kernel_rfl)) (fun _ _ _ h => h) (Or.inl ⟨by rfl, ?_⟩) ?_ ?_
            rotate_left
            · intro w'
              go_simp
              first | done | with_reducible rfl
            rotate_left
            · simp only [Act.put, List.setIfInBounds_toArray, List.set_cons_zero, List.set_cons_succ, i64_w, i32_w]
              rfl
            refine pure_ (i := 8) (N := (some 70)) (v := ?_) (a' := ?_) #[true, true, true, true, true, true, true, true, true, false, false, false, false] rfl rfl (any_of HT_.out (by kernel_rfl)) (fun _ _ _ h => h) (Or.inl ⟨by rfl, ?_⟩) ?_ ?_
            rotate_left
            · intro w'
              go_simp
              first | done | with_reducible rfl
            rotate_left
            · simp only [Act.put, List.setIfInBounds_toArray, List.set_cons_zero, List.set_cons_succ, i64_w, i32_w]
              rfl
            refine take_ (i := 9) (N := (some 71)) (v := ?_) (a' := ?_) #[true, true, true, true, true, true, true, true, true, true, false, false, false] rfl rfl (take_ofW HT_.out HW_.out (by kernel_rfl)) (fun _ _ _ h => h) (Or.inl ⟨by rfl, ?_⟩) hHeld ?_ ?_
            rotate_left
            · rintro w' ⟨s0, s1, s2⟩
              go_simp
              first | done | with_reducible rfl
            rotate_left
            · simp only [Act.put, List.setIfInBounds_toArray, List.set_cons_zero, List.set_cons_succ, i64_w, i32_w]
              rfl
            refine pure_ (i := 10) (N := (some 72)) (v := ?_) (a' := ?_) #[true, true, true, true, true, true, true, true, true, true, true, false, false] rfl rfl (any_of HT_.out (by kernel_rfl)) (fun _ _ _ h => h) (Or.inl ⟨by rfl, ?_⟩) ?_ ?_
            rotate_left
            · intro w'
              go_simp
              first | done | with_reducible rfl
            rotate_left
            · simp only [Act.put, List.setIfInBounds_toArray, List.set_cons_zero, List.set_cons_succ, i64_w, i32_w]
              rfl
            refine pure_ (i := 11) (N := (some 73)) (v := ?_) (a' := ?_) #[true, true, true, true, true, true, true, true, true, true, true, true, false] rfl rfl (any_of HT_.out (by kernel_rfl)) (fun _ _ _ h => h) (Or.inl ⟨by rfl, ?_⟩) ?_ ?_
            rotate_left
            · intro w'
              go_simp
              first | done | with_reducible rfl
            rotate_left
            · simp only [Act.put, List.setIfInBounds_toArray, List.set_cons_zero, List.set_cons_succ, i64_w, i32_w]
              rfl
            refine last_ (i := 12) (N := none) #[true, true, true, true, true, true, true, true, true, true, true, true, true] rfl rfl (one_of HT_.out (by kernel_rfl)) (by decide) (fun K hK => ?_)
            have c4_ := (boxD HP7.out.blk).2.2.2.2.1
            have f4 : wa.drew.frozen? ⟨bx, 4, none⟩ = false := blk_frozen HP7.out.blk 4
            go_simp
            clear c4_ f4
            have HP8 : Aside0 (Pm W b1 b2 g g2 bx (.cells #[.int .i64 z0, .int .i64 z1, .int .i64 z2, .int .i64 (k : Int), .int .i64 B.next, .slice A4 m4 c4] 52 (0, 0)) s r (wa.drew.setCell ⟨bx, 4, none⟩ (.int .i64 B.next))) := ⟨HP7.out.put 4 _ (blk_put HP7.out.blk 4 _ rfl)⟩
            refine hK.out _ _ ?_
            clear hK K
            refine done_ (done_of HT_.out (by kernel_rfl)) ?_
            clear hHeld HT_ HW_
            go_wp2_with fail
            go_meet
            exact ⟨(k : Int), B.next, HP8⟩
        case rest =>
          obtain ⟨sb', sp', HP5⟩ := hcut
          clear HP4 HT
          obtain ⟨c0, c1, c2, c3, c4_, c5⟩ := boxD HP5.out.blk
          obtain ⟨k, hk1, hk2, hk3⟩ := HAK.out
          rw [hk1] at HA
          go_upto_block 2 with fail
          go_cut [13, 14, 15, 16, 17] from 46 to 202 (fun v13 v14 v15 v16 v17 wd => v13 = .bool true ∧ ∃ s' r', Aside0 (Pm W b1 b2 g g2 bx (.cells #[.int .i64 z0, .int .i64 z1, .int .i64 z2, .int .i64 sb', .int .i64 sp', .slice A4 m4 c4] 52 (0, 0)) s' r' wd) ∧ Aside0 (Aft k s' r') ∧ Aside0 (r'.blocks.length = n))
          case first =>
           as_aux_lemma =>
            by_cases hz0 : z0 = 0
            · have e0 : (z0 == 0) = true := beq_iff_eq.2 hz0
              have f0 : decide (z0 = 0) = true := decide_eq_true hz0
              clear hz0
              go_wp2_with fail
              refine (pmRead1 HP5.out sb' sp' (HA.out.pg.readX _ _)).mono ?_
              rintro ev w6 ⟨v, rfl, hR, hPB⟩
              have HPB := Aside0.mk hPB
              have HR6 := Aside0.mk hR
              obtain ⟨-, -, -, c3, c4_, -⟩ := boxD HPB.out.blk
              clear hPB hR
              go_wp2_with fail
              refine (pmRead2 HPB.out sb' sp' (by rw [← HA.out.sim.readX]; exact HA.out.pg.readX _ _) HR6.out).mono ?_
              rintro ev w7 ⟨u, rfl, hu, ⟨ok, hv⟩, hP7⟩
              rw [← HA.out.sim.readX] at hu
              rw [← HA.out.sim.readE]
              obtain ⟨X, hX⟩ : ∃ X, readX s sb' sp' = X := ⟨_, rfl⟩
              rw [hX] at hu hv
              obtain ⟨E, hE⟩ : ∃ E, readE s sb' sp' = E := ⟨_, rfl⟩
              rw [hE]
              obtain ⟨Au, cu, rfl, -, hCu⟩ := Kd.R_reads hu
              obtain ⟨Av, cv, rfl, -, hCv⟩ := Kd.R_reads hv
              obtain ⟨st, hst⟩ : ∃ st, strOfNums X = st := ⟨_, rfl⟩
              obtain ⟨nX, hnX⟩ : ∃ nX, X.length = nX := ⟨_, rfl⟩
              rw [hnX] at hCu hCv ⊢
              have q1 := conv22 (c := cu) hCu hst
              have q2 := conv22 (c := cv) hCv hst
              have HP7 := Aside0.mk hP7
              clear hP7 hu hv hCu hCv hst hX hE hnX HPB HR6
              go_wp2_with fail
              go_meet
              exact ⟨rfl, _, _, HP7, ⟨HA.out.read sb' sp'⟩, ⟨by rw [read_len]; exact HNL.out⟩⟩
            · by_cases hz1 : z0 = 1
              · have e0 : (z0 == 0) = false := beq_eq_false_iff_ne.2 hz0
                have f0 : decide (z0 = 0) = false := decide_eq_false hz0
                have e1 : (z0 == 1) = true := beq_iff_eq.2 hz1
                have f1 : decide (z0 = 1) = true := decide_eq_true hz1
                clear hz0 hz1
                go_upto_region 22 with fail
                refine start_ (n := 12) (S := fun w' => w'.cell? ⟨bx, 3, none⟩ = some (.int .i64 sb')) (ds := []) #[false, false, false, false, false, false, false, false, false, false, false, false] (by kernel_rfl) rfl rfl ((boxD (HP5.out.below (below_drew (Below.refl _ _))).blk).2.2.2.1) (fun hHeld => ?_)
                refine with_tabW reg_Plays_22.tab reg_Plays_22.bits (fun HT_ HW_ => ?_)
                have HP5d := Aside0.mk (HP5.out.below (below_drew (Below.refl _ _)))
                refine pure_ (i := 0) (N := (some 117)) (v := ?_) (a' := ?_) #[true, false, false, false, false, false, false, false, false, false, false, false] rfl rfl (any_of HT_.out (by kernel_rfl)) (fun _ _ _ h => h) (Or.inl ⟨by rfl, ?_⟩) ?_ ?_
                rotate_left
                · intro w'
                  go_simp
                  first | done | with_reducible rfl
                rotate_left
                · simp only [Act.put, List.setIfInBounds_toArray, List.set_cons_zero, List.set_cons_succ, i64_w, i32_w]
                  rfl
                refine pure_ (i := 1) (N := (some 118)) (v := ?_) (a' := ?_) #[true, true, false, false, false, false, false, false, false, false, false, false] rfl rfl (any_of HT_.out (by kernel_rfl)) (fun _ _ _ h => h) (Or.inl ⟨by rfl, ?_⟩) ?_ ?_
                rotate_left
                · intro w'
                  go_simp
                  first | done | with_reducible rfl
                rotate_left
                · simp only [Act.put, List.setIfInBounds_toArray, List.set_cons_zero, List.set_cons_succ, i64_w, i32_w]
                  rfl
                refine pure_ (i := 2) (N := (some 119)) (v := ?_) (a' := ?_) #[true, true, true, false, false, false, false, false, false, false, false, false] rfl rfl (any_of HT_.out (by kernel_rfl)) (fun _ _ _ h => h) (Or.inl ⟨by rfl, ?_⟩) ?_ ?_
                rotate_left
                · intro w'
                  go_simp
                  first | done | with_reducible rfl
                rotate_left
                · simp only [Act.put, List.setIfInBounds_toArray, List.set_cons_zero, List.set_cons_succ, i64_w, i32_w]
                  rfl
                refine take_ (i := 3) (N := (some 120)) (v := ?_) (a' := ?_) #[true, true, true, true, false, false, false, false, false, false, false, false] rfl rfl (take_ofW HT_.out HW_.out (by kernel_rfl)) (fun _ _ _ h => h) (Or.inl ⟨by rfl, ?_⟩) hHeld ?_ ?_
                rotate_left
                · rintro w' s0
                  go_simp
                  first | done | with_reducible rfl
                rotate_left
                · simp only [Act.put, List.setIfInBounds_toArray, List.set_cons_zero, List.set_cons_succ, i64_w, i32_w]
                  rfl
                refine pure_ (i := 5) (N := (some 122)) (v := ?_) (a' := ?_) #[true, true, true, true, false, true, false, false, false, false, false, false] rfl rfl (any_of HT_.out (by kernel_rfl)) (fun _ _ _ h => h) (Or.inl ⟨by rfl, ?_⟩) ?_ ?_
                rotate_left
                · intro w'
                  go_simp
                  first | done | with_reducible rfl
                rotate_left
                · simp only [Act.put, List.setIfInBounds_toArray, List.set_cons_zero, List.set_cons_succ, i64_w, i32_w]
                  rfl
                refine pure_ (i := 6) (N := (some 123)) (v := ?_) (a' := ?_) #[true, true, true, true, false, true, true, false, false, false, false, false] rfl rfl (any_of HT_.out (by kernel_rfl)) (fun _ _ _ h => h) (Or.inl ⟨by rfl, ?_⟩) ?_ ?_
                rotate_left
                · intro w'
                  go_simp
                  first | done | with_reducible rfl
                rotate_left
                · simp only [Act.put, List.setIfInBounds_toArray, List.set_cons_zero, List.set_cons_succ, i64_w, i32_w]
                  rfl
                refine pure_ (i := 7) (N := (some 124)) (v := ?_) (a' := ?_) #[true, true, true, true, false, true, true, true, false, false, false, false] rfl rfl (any_of HT_.out (by kernel_rfl)) (fun _ _ _ h => h) (Or.inl ⟨by rfl, ?_⟩) ?_ ?_
                rotate_left
                · intro w'
                  go_simp
                  first | done | with_reducible rfl
                rotate_left
                · simp only [Act.put, List.setIfInBounds_toArray, List.set_cons_zero, List.set_cons_succ, i64_w, i32_w]
                  rfl
                refine take_ (i := 8) (N := (some 125)) (v := ?_) (a' := ?_) #[true, true, true, true, false, true, true, true, true, false, false, false] rfl rfl (take_ofW HT_.out HW_.out (by kernel_rfl)) (fun _ _ _ h => h) (Or.inl ⟨by rfl, ?_⟩) hHeld ?_ ?_
                rotate_left
                · rintro w' s0
                  go_simp
                  first | done | with_reducible rfl
                rotate_left
                · simp only [Act.put, List.setIfInBounds_toArray, List.set_cons_zero, List.set_cons_succ, i64_w, i32_w]
                  rfl
                refine one_ (i := 4) (N := (some 121)) #[true, true, true, true, true, true, true, true, true, false, false, false] rfl rfl (one_of HT_.out (by kernel_rfl)) (by decide) (fun K hK => ?_)
                refine goes_ Try.func17 (by kernel_rfl) rfl #[.pointer (some ⟨g, 0, none⟩), .int .i64 sb'] (by rfl) rfl rfl (by (try simp only [List.map_toArray, List.map_cons, List.map_nil]); first | done | rfl) ?_
                with_reducible refine (pmErase1 HP5d.out sb').mono ?_
                rintro ev_ w6 ⟨rfl, hP6⟩
                refine ⟨_, rfl, ?_⟩
                have HP6 := Aside0.mk hP6
                clear hP6
                refine hK.out _ _ ((boxD HP6.out.blk).2.2.2.1) (fun hHeld => ?_)
                clear hK K
                refine norm_ (a' := ?_) ?_ ?_
                rotate_left
                · show Act.put _ (some 121) _ = _
                  simp only [Act.put, List.setIfInBounds_toArray, List.set_cons_zero, List.set_cons_succ, i64_w, i32_w]
                  rfl
                refine one_ (i := 9) (N := (some 126)) #[true, true, true, true, true, true, true, true, true, true, false, false] rfl rfl (one_of HT_.out (by kernel_rfl)) (by decide) (fun K hK => ?_)
                refine goes_ Try.func26 (by kernel_rfl) rfl #[.pointer (some ⟨g2, 0, none⟩), .int .i64 sb'] (by rfl) rfl rfl (by (try simp only [List.map_toArray, List.map_cons, List.map_nil]); first | done | rfl) ?_
                with_reducible refine (pmErase2 HP6.out sb').mono ?_
                rintro ev_ w7 ⟨rfl, hP7⟩
                refine ⟨_, rfl, ?_⟩
                rw [← (HA.out.sim.eraseS HP5.out.inv sb').2]
                have HP7 := Aside0.mk hP7
                clear hP7
                refine hK.out _ _ ((boxD HP7.out.blk).2.2.2.1) (fun hHeld => ?_)
                clear hK K
                refine norm_ (a' := ?_) ?_ ?_
                rotate_left
                · show Act.put _ (some 126) _ = _
                  simp only [Act.put, List.setIfInBounds_toArray, List.set_cons_zero, List.set_cons_succ, i64_w, i32_w]
                  rfl
                refine pure_ (i := 10) (N := (some 127)) (v := ?_) (a' := ?_) #[true, true, true, true, true, true, true, true, true, true, true, false] rfl rfl (any_of HT_.out (by kernel_rfl)) (fun _ _ _ h => h) (Or.inl ⟨by rfl, ?_⟩) ?_ ?_
                rotate_left
                · intro w'
                  go_simp
                  first | done | with_reducible rfl
                rotate_left
                · simp only [Act.put, List.setIfInBounds_toArray, List.set_cons_zero, List.set_cons_succ, i64_w, i32_w]
                  rfl
                refine pure_ (i := 11) (N := (some 13)) (v := ?_) (a' := ?_) #[true, true, true, true, true, true, true, true, true, true, true, true] rfl rfl (any_of HT_.out (by kernel_rfl)) (fun _ _ _ h => h) (Or.inl ⟨by rfl, ?_⟩) ?_ ?_
                rotate_left
                · intro w'
                  go_simp
                  first | done | with_reducible rfl
                rotate_left
                · simp only [Act.put, List.setIfInBounds_toArray, List.set_cons_zero, List.set_cons_succ, i64_w, i32_w]
                  rfl
                refine done_ (done_of HT_.out (by kernel_rfl)) ?_
                clear hHeld HT_ HW_
                go_wp2_with fail
                go_meet
                exact ⟨rfl, _, _, HP7, ⟨HA.out.erase HP5.out.inv sb'⟩, ⟨by rw [rerase_len]; exact HNL.out⟩⟩
              · by_cases hz2 : z0 = 2
                · have e0 : (z0 == 0) = false := beq_eq_false_iff_ne.2 hz0
                  have f0 : decide (z0 = 0) = false := decide_eq_false hz0
                  have e1 : (z0 == 1) = false := beq_eq_false_iff_ne.2 hz1
                  have f1 : decide (z0 = 1) = false := decide_eq_false hz1
                  have e2 : (z0 == 2) = true := beq_iff_eq.2 hz2
                  have f2 : decide (z0 = 2) = true := decide_eq_true hz2
                  clear hz0 hz1 hz2
                  go_wp2_with fail
                  refine (pmFail1 HP5.out z1 (wf_le HOKD.out.1)).mono ?_
                  rintro ev w6 ⟨⟨u6, rfl⟩, hP6⟩
                  have HP6 := Aside0.mk hP6
                  obtain ⟨-, c1, c2, c3, c4_, c5⟩ := boxD HP6.out.blk
                  clear hP6
                  go_wp2_with fail
                  refine (pmFail2 HP6.out z1).mono ?_
                  rintro ev w7 ⟨⟨u7, rfl⟩, hP7⟩
                  have HP7 := Aside0.mk hP7
                  clear hP7
                  go_wp2_with fail
                  go_meet
                  exact ⟨rfl, _, _, HP7, ⟨HA.out.fail hk3 z1⟩, HNL⟩
                · by_cases hz3 : z0 = 3
                  · have e0 : (z0 == 0) = false := beq_eq_false_iff_ne.2 hz0
                    have f0 : decide (z0 = 0) = false := decide_eq_false hz0
                    have e1 : (z0 == 1) = false := beq_eq_false_iff_ne.2 hz1
                    have f1 : decide (z0 = 1) = false := decide_eq_false hz1
                    have e2 : (z0 == 2) = false := beq_eq_false_iff_ne.2 hz2
                    have f2 : decide (z0 = 2) = false := decide_eq_false hz2
                    have e3 : (z0 == 3) = true := beq_iff_eq.2 hz3
                    have f3 : decide (z0 = 3) = true := decide_eq_true hz3
                    clear hz0 hz1 hz2 hz3
                    go_wp2_with fail
                    refine (pmWorn1 HP5.out z1 (wf_le HOKD.out.1)).mono ?_
                    rintro ev w6 ⟨⟨u6, rfl⟩, hP6⟩
                    have HP6 := Aside0.mk hP6
                    obtain ⟨-, c1, c2, c3, c4_, c5⟩ := boxD HP6.out.blk
                    clear hP6
                    go_wp2_with fail
                    refine (pmWorn2 HP6.out z1).mono ?_
                    rintro ev w7 ⟨⟨u7, rfl⟩, hP7⟩
                    have HP7 := Aside0.mk hP7
                    clear hP7
                    go_wp2_with fail
                    go_meet
                    exact ⟨rfl, _, _, HP7, ⟨HA.out.worn hk3 z1⟩, HNL⟩
                  · by_cases hz4 : z0 = 4
                    · have e0 : (z0 == 0) = false := beq_eq_false_iff_ne.2 hz0
                      have f0 : decide (z0 = 0) = false := decide_eq_false hz0
                      have e1 : (z0 == 1) = false := beq_eq_false_iff_ne.2 hz1
                      have f1 : decide (z0 = 1) = false := decide_eq_false hz1
                      have e2 : (z0 == 2) = false := beq_eq_false_iff_ne.2 hz2
                      have f2 : decide (z0 = 2) = false := decide_eq_false hz2
                      have e3 : (z0 == 3) = false := beq_eq_false_iff_ne.2 hz3
                      have f3 : decide (z0 = 3) = false := decide_eq_false hz3
                      have e4 : (z0 == 4) = true := beq_iff_eq.2 hz4
                      have f4 : decide (z0 = 4) = true := decide_eq_true hz4
                      clear hz0 hz1 hz2 hz3 hz4
                      go_wp2_with fail
                      refine (pmCut1 HP5.out z1 z2 (wf_le HOKD.out.1) (wf_le HOKD.out.2)).mono ?_
                      rintro ev w6 ⟨⟨u6, rfl⟩, hP6⟩
                      have HP6 := Aside0.mk hP6
                      obtain ⟨-, c1, c2, c3, c4_, c5⟩ := boxD HP6.out.blk
                      clear hP6
                      go_wp2_with fail
                      refine (pmCut2 HP6.out z1 z2 (wf_le HOKD.out.2)).mono ?_
                      rintro ev w7 ⟨⟨u7, rfl⟩, hP7⟩
                      have HP7 := Aside0.mk hP7
                      clear hP7
                      go_wp2_with fail
                      go_meet
                      exact ⟨rfl, _, _, HP7, ⟨HA.out.cut hk3 z1 z2⟩, HNL⟩
                    · by_cases hz5 : z0 = 5
                      · have e0 : (z0 == 0) = false := beq_eq_false_iff_ne.2 hz0
                        have f0 : decide (z0 = 0) = false := decide_eq_false hz0
                        have e1 : (z0 == 1) = false := beq_eq_false_iff_ne.2 hz1
                        have f1 : decide (z0 = 1) = false := decide_eq_false hz1
                        have e2 : (z0 == 2) = false := beq_eq_false_iff_ne.2 hz2
                        have f2 : decide (z0 = 2) = false := decide_eq_false hz2
                        have e3 : (z0 == 3) = false := beq_eq_false_iff_ne.2 hz3
                        have f3 : decide (z0 = 3) = false := decide_eq_false hz3
                        have e4 : (z0 == 4) = false := beq_eq_false_iff_ne.2 hz4
                        have f4 : decide (z0 = 4) = false := decide_eq_false hz4
                        have e5 : (z0 == 5) = true := beq_iff_eq.2 hz5
                        have f5 : decide (z0 = 5) = true := decide_eq_true hz5
                        clear hz0 hz1 hz2 hz3 hz4 hz5
                        go_wp2_with fail
                        refine (pmPower1 HP5.out).mono ?_
                        rintro ev w6 ⟨⟨u6, rfl⟩, hP6⟩
                        have HP6 := Aside0.mk hP6
                        obtain ⟨-, c1, c2, c3, c4_, c5⟩ := boxD HP6.out.blk
                        clear hP6
                        go_wp2_with fail
                        refine (pmPower2 HP6.out).mono ?_
                        rintro ev w7 ⟨⟨u7, rfl⟩, hP7⟩
                        have HP7 := Aside0.mk hP7
                        clear hP7
                        go_wp2_with fail
                        go_meet
                        exact ⟨rfl, _, _, HP7, ⟨HA.out.power⟩, HNL⟩
                      · have e0 : (z0 == 0) = false := beq_eq_false_iff_ne.2 hz0
                        have f0 : decide (z0 = 0) = false := decide_eq_false hz0
                        have e1 : (z0 == 1) = false := beq_eq_false_iff_ne.2 hz1
                        have f1 : decide (z0 = 1) = false := decide_eq_false hz1
                        have e2 : (z0 == 2) = false := beq_eq_false_iff_ne.2 hz2
                        have f2 : decide (z0 = 2) = false := decide_eq_false hz2
                        have e3 : (z0 == 3) = false := beq_eq_false_iff_ne.2 hz3
                        have f3 : decide (z0 = 3) = false := decide_eq_false hz3
                        have e4 : (z0 == 4) = false := beq_eq_false_iff_ne.2 hz4
                        have f4 : decide (z0 = 4) = false := decide_eq_false hz4
                        have e5 : (z0 == 5) = false := beq_eq_false_iff_ne.2 hz5
                        have f5 : decide (z0 = 5) = false := decide_eq_false hz5
                        clear hz0 hz1 hz2 hz3 hz4 hz5
                        go_upto_region 16 with fail
                        refine start_ (n := 14) (S := fun w' => w'.cell? ⟨bx, 3, none⟩ = some (.int .i64 sb') ∧ w'.cell? ⟨bx, 4, none⟩ = some (.int .i64 sp') ∧ w'.cell? ⟨bx, 5, none⟩ = some (.slice A4 m4 c4)) (ds := []) #[false, false, false, false, false, false, false, false, false, false, false, false, false, false] (by kernel_rfl) rfl rfl (by have h_ := (HP5.out.below (below_drew (Below.refl _ _))).blk; exact ⟨(boxD h_).2.2.2.1, (boxD h_).2.2.2.2.1, (boxD h_).2.2.2.2.2⟩) (fun hHeld => ?_)
                        refine with_tabW reg_Plays_16.tab reg_Plays_16.bits (fun HT_ HW_ => ?_)
                        have HP5d := Aside0.mk (HP5.out.below (below_drew (Below.refl _ _)))
                        have hCx := HC4.out
                        have hLx := HL4.out
                        rw [HM4.out] at hLx
                        refine pure_ (i := 0) (N := (some 76)) (v := ?_) (a' := ?_) #[true, false, false, false, false, false, false, false, false, false, false, false, false, false] rfl rfl (any_of HT_.out (by kernel_rfl)) (fun _ _ _ h => h) (Or.inl ⟨by rfl, ?_⟩) ?_ ?_
                        rotate_left
                        · intro w'
                          go_simp
                          first | done | with_reducible rfl
                        rotate_left
                        · simp only [Act.put, List.setIfInBounds_toArray, List.set_cons_zero, List.set_cons_succ, i64_w, i32_w]
                          rfl
                        refine pure_ (i := 1) (N := (some 77)) (v := ?_) (a' := ?_) #[true, true, false, false, false, false, false, false, false, false, false, false, false, false] rfl rfl (any_of HT_.out (by kernel_rfl)) (fun _ _ _ h => h) (Or.inl ⟨by rfl, ?_⟩) ?_ ?_
                        rotate_left
                        · intro w'
                          go_simp
                          first | done | with_reducible rfl
                        rotate_left
                        · simp only [Act.put, List.setIfInBounds_toArray, List.set_cons_zero, List.set_cons_succ, i64_w, i32_w]
                          rfl
                        refine take_ (i := 2) (N := (some 78)) (v := ?_) (a' := ?_) #[true, true, true, false, false, false, false, false, false, false, false, false, false, false] rfl rfl (take_ofW HT_.out HW_.out (by kernel_rfl)) (fun _ _ _ h => h) (Or.inl ⟨by rfl, ?_⟩) hHeld ?_ ?_
                        rotate_left
                        · rintro w' ⟨s0, s1, s2⟩
                          go_simp
                          first | done | with_reducible rfl
                        rotate_left
                        · simp only [Act.put, List.setIfInBounds_toArray, List.set_cons_zero, List.set_cons_succ, i64_w, i32_w]
                          rfl
                        refine pure_ (i := 3) (N := (some 79)) (v := ?_) (a' := ?_) #[true, true, true, true, false, false, false, false, false, false, false, false, false, false] rfl rfl (any_of HT_.out (by kernel_rfl)) (fun _ _ _ h => h) (Or.inl ⟨by rfl, ?_⟩) ?_ ?_
                        rotate_left
                        · intro w'
                          go_simp
                          first | done | with_reducible rfl
                        rotate_left
                        · simp only [Act.put, List.setIfInBounds_toArray, List.set_cons_zero, List.set_cons_succ, i64_w, i32_w]
                          rfl
                        refine take_ (i := 4) (N := (some 80)) (v := ?_) (a' := ?_) #[true, true, true, true, true, false, false, false, false, false, false, false, false, false] rfl rfl (take_ofW HT_.out HW_.out (by kernel_rfl)) (fun _ _ _ h => h) (Or.inl ⟨by rfl, ?_⟩) hHeld ?_ ?_
                        rotate_left
                        · rintro w' ⟨s0, s1, s2⟩
                          go_simp
                          first | done | with_reducible rfl
                        rotate_left
                        · simp only [Act.put, List.setIfInBounds_toArray, List.set_cons_zero, List.set_cons_succ, i64_w, i32_w]
                          rfl
                        refine pure_ (i := 6) (N := (some 82)) (v := ?_) (a' := ?_) #[true, true, true, true, true, false, true, false, false, false, false, false, false, false] rfl rfl (any_of HT_.out (by kernel_rfl)) (fun _ _ _ h => h) (Or.inl ⟨by rfl, ?_⟩) ?_ ?_
                        rotate_left
                        · intro w'
                          go_simp
                          first | done | with_reducible rfl
                        rotate_left
                        · simp only [Act.put, List.setIfInBounds_toArray, List.set_cons_zero, List.set_cons_succ, i64_w, i32_w]
                          rfl
                        refine pure_ (i := 7) (N := (some 83)) (v := ?_) (a' := ?_) #[true, true, true, true, true, false, true, true, false, false, false, false, false, false] rfl rfl (any_of HT_.out (by kernel_rfl)) (fun _ _ _ h => h) (Or.inl ⟨by rfl, ?_⟩) ?_ ?_
                        rotate_left
                        · intro w'
                          go_simp
                          first | done | with_reducible rfl
                        rotate_left
                        · simp only [Act.put, List.setIfInBounds_toArray, List.set_cons_zero, List.set_cons_succ, i64_w, i32_w]
                          rfl
                        refine take_ (i := 8) (N := (some 84)) (v := ?_) (a' := ?_) #[true, true, true, true, true, false, true, true, true, false, false, false, false, false] rfl rfl (take_ofW HT_.out HW_.out (by kernel_rfl)) (fun _ _ _ h => h) (Or.inl ⟨by rfl, ?_⟩) hHeld ?_ ?_
                        rotate_left
                        · rintro w' ⟨s0, s1, s2⟩
                          go_simp
                          first | done | with_reducible rfl
                        rotate_left
                        · simp only [Act.put, List.setIfInBounds_toArray, List.set_cons_zero, List.set_cons_succ, i64_w, i32_w]
                          rfl
                        refine pure_ (i := 9) (N := (some 85)) (v := ?_) (a' := ?_) #[true, true, true, true, true, false, true, true, true, true, false, false, false, false] rfl rfl (any_of HT_.out (by kernel_rfl)) (fun _ _ _ h => h) (Or.inl ⟨by rfl, ?_⟩) ?_ ?_
                        rotate_left
                        · intro w'
                          go_simp
                          first | done | with_reducible rfl
                        rotate_left
                        · simp only [Act.put, List.setIfInBounds_toArray, List.set_cons_zero, List.set_cons_succ, i64_w, i32_w]
                          rfl
                        refine take_ (i := 10) (N := (some 86)) (v := ?_) (a' := ?_) #[true, true, true, true, true, false, true, true, true, true, true, false, false, false] rfl rfl (take_ofW HT_.out HW_.out (by kernel_rfl)) (fun _ _ _ h => h) (Or.inl ⟨by rfl, ?_⟩) hHeld ?_ ?_
                        rotate_left
                        · rintro w' ⟨s0, s1, s2⟩
                          go_simp
                          first | done | with_reducible rfl
                        rotate_left
                        · simp only [Act.put, List.setIfInBounds_toArray, List.set_cons_zero, List.set_cons_succ, i64_w, i32_w]
                          rfl
                        refine one_ (i := 5) (N := (some 81)) #[true, true, true, true, true, true, true, true, true, true, true, false, false, false] rfl rfl (one_of HT_.out (by kernel_rfl)) (by decide) (fun K hK => ?_)
                        refine goes_ Try.func14 (by kernel_rfl) rfl #[.pointer (some ⟨g, 0, none⟩), .agg #[.int .i64 sb', .int .i64 sp'], .slice A4 m4 c4] (by rfl) rfl rfl (by (try simp only [List.map_toArray, List.map_cons, List.map_nil]); first | done | rfl) ?_
                        with_reducible refine ((by have h_ := pmProg1 HP5d.out sb' sp' A4 c4 xs HC4.out HL4.out; rw [HM4.out] at h_; exact h_ : Calls Try.prog 14 #[.pointer (some ⟨g, 0, none⟩), .agg #[.int .i64 sb', .int .i64 sp'], .slice A4 m4 c4] _ _)).mono ?_
                        rintro ev_ w6 ⟨rfl, hP6⟩
                        refine ⟨_, rfl, ?_⟩
                        have HP6 := Aside0.mk hP6
                        clear hP6
                        refine hK.out _ _ ⟨(boxD HP6.out.blk).2.2.2.1, (boxD HP6.out.blk).2.2.2.2.1, (boxD HP6.out.blk).2.2.2.2.2⟩ (fun hHeld => ?_)
                        clear hK K
                        refine norm_ (a' := ?_) ?_ ?_
                        rotate_left
                        · show Act.put _ (some 81) _ = _
                          simp only [Act.put, List.setIfInBounds_toArray, List.set_cons_zero, List.set_cons_succ, i64_w, i32_w]
                          rfl
                        refine one_ (i := 11) (N := (some 87)) #[true, true, true, true, true, true, true, true, true, true, true, true, false, false] rfl rfl (one_of HT_.out (by kernel_rfl)) (by decide) (fun K hK => ?_)
                        refine goes_ Try.func31 (by kernel_rfl) rfl #[.pointer (some ⟨g2, 0, none⟩), .agg #[.int .i64 sb', .int .i64 sp'], .slice A4 m4 c4] (by rfl) rfl rfl (by (try simp only [List.map_toArray, List.map_cons, List.map_nil]); first | done | rfl) ?_
                        with_reducible refine ((by have h_ := pmProg2 HP6.out sb' sp' A4 c4 xs HC4.out HL4.out; rw [HM4.out] at h_; exact h_ : Calls Try.prog 31 #[.pointer (some ⟨g2, 0, none⟩), .agg #[.int .i64 sb', .int .i64 sp'], .slice A4 m4 c4] _ _)).mono ?_
                        rintro ev_ w7 ⟨rfl, hP7⟩
                        refine ⟨_, rfl, ?_⟩
                        rw [← (HA.out.sim.progS HP5.out.inv sb' sp' xs).2]
                        have HP7 := Aside0.mk hP7
                        clear hP7
                        refine hK.out _ _ ⟨(boxD HP7.out.blk).2.2.2.1, (boxD HP7.out.blk).2.2.2.2.1, (boxD HP7.out.blk).2.2.2.2.2⟩ (fun hHeld => ?_)
                        clear hK K
                        refine norm_ (a' := ?_) ?_ ?_
                        rotate_left
                        · show Act.put _ (some 87) _ = _
                          simp only [Act.put, List.setIfInBounds_toArray, List.set_cons_zero, List.set_cons_succ, i64_w, i32_w]
                          rfl
                        refine pure_ (i := 12) (N := (some 88)) (v := ?_) (a' := ?_) #[true, true, true, true, true, true, true, true, true, true, true, true, true, false] rfl rfl (any_of HT_.out (by kernel_rfl)) (fun _ _ _ h => h) (Or.inl ⟨by rfl, ?_⟩) ?_ ?_
                        rotate_left
                        · intro w'
                          go_simp
                          first | done | with_reducible rfl
                        rotate_left
                        · simp only [Act.put, List.setIfInBounds_toArray, List.set_cons_zero, List.set_cons_succ, i64_w, i32_w]
                          rfl
                        refine pure_ (i := 13) (N := (some 13)) (v := ?_) (a' := ?_) #[true, true, true, true, true, true, true, true, true, true, true, true, true, true] rfl rfl (any_of HT_.out (by kernel_rfl)) (fun _ _ _ h => h) (Or.inl ⟨by rfl, ?_⟩) ?_ ?_
                        rotate_left
                        · intro w'
                          go_simp
                          first | done | with_reducible rfl
                        rotate_left
                        · simp only [Act.put, List.setIfInBounds_toArray, List.set_cons_zero, List.set_cons_succ, i64_w, i32_w]
                          rfl
                        refine done_ (done_of HT_.out (by kernel_rfl)) ?_
                        clear hHeld HT_ HW_
                        go_wp2_with fail
                        go_meet
                        exact ⟨rfl, _, _, HP7, ⟨HA.out.prog HP5.out.inv sb' sp' xs⟩, ⟨by rw [rprog_len]; exact HNL.out⟩⟩
          case rest =>
           as_aux_lemma =>
            obtain ⟨rfl, s', r', HP6, HA6, HNL6⟩ := hcut
            clear HP5 HA HNL c0 c1 c2 c3 c4_ c5 s r
            go_upto_region 35 with fail
            have HP6d := Aside0.mk (HP6.out.below (below_drew (Below.refl _ _)))
            have HELD : Aside0 (wc.drew.cell? ⟨g2, 6, none⟩ = some (.bool s'.down) ∧ wc.drew.cell? ⟨g2, 7, none⟩ = some (.int .i64 s'.br) ∧ wc.drew.cell? ⟨g2, 8, none⟩ = some (.int .i64 s'.bp) ∧ wc.drew.cell? ⟨g2, 9, none⟩ = some (.int .i64 s'.be) ∧ wc.drew.cell? ⟨bx, 3, none⟩ = some (.int .i64 sb')) := ⟨by
              obtain ⟨hh, cap, pg, ⟨-, q6, q7, q8, q9⟩, -⟩ := HP6d.out.forget.cells
              rw [← HA6.out.sim.down] at q6
              rw [← HA6.out.sim.br] at q7
              rw [← HA6.out.sim.bp] at q8
              rw [← HA6.out.sim.be] at q9
              exact ⟨q6, q7, q8, q9, (boxD HP6d.out.blk).2.2.2.1⟩⟩
            refine start_ (n := 34) (S := fun w' => w'.cell? ⟨g2, 6, none⟩ = some (.bool s'.down) ∧ w'.cell? ⟨g2, 7, none⟩ = some (.int .i64 s'.br) ∧ w'.cell? ⟨g2, 8, none⟩ = some (.int .i64 s'.bp) ∧ w'.cell? ⟨g2, 9, none⟩ = some (.int .i64 s'.be) ∧ w'.cell? ⟨bx, 3, none⟩ = some (.int .i64 sb')) (ds := []) #[false, false, false, false, false, false, false, false, false, false, false, false, false, false, false, false, false, false, false, false, false, false, false, false, false, false, false, false, false, false, false, false, false, false] (by kernel_rfl) rfl rfl HELD.out (fun hHeld => ?_)
            refine with_tabW reg_Plays_35.tab reg_Plays_35.bits (fun HT_ HW_ => ?_)
            refine pure_ (i := 0) (N := (some 168)) (v := ?_) (a' := ?_) #[true, false, false, false, false, false, false, false, false, false, false, false, false, false, false, false, false, false, false, false, false, false, false, false, false, false, false, false, false, false, false, false, false, false] rfl rfl (any_of HT_.out (by kernel_rfl)) (fun _ _ _ h => h) (Or.inl ⟨by rfl, ?_⟩) ?_ ?_
            rotate_left
            · intro w'
              go_simp
              first | done | with_reducible rfl
            rotate_left
            · simp only [Act.put, List.setIfInBounds_toArray, List.set_cons_zero, List.set_cons_succ, i64_w, i32_w]
              rfl
            refine pure_ (i := 1) (N := (some 169)) (v := ?_) (a' := ?_) #[true, true, false, false, false, false, false, false, false, false, false, false, false, false, false, false, false, false, false, false, false, false, false, false, false, false, false, false, false, false, false, false, false, false] rfl rfl (any_of HT_.out (by kernel_rfl)) (fun _ _ _ h => h) (Or.inl ⟨by rfl, ?_⟩) ?_ ?_
            rotate_left
            · intro w'
              go_simp
              first | done | with_reducible rfl
            rotate_left
            · simp only [Act.put, List.setIfInBounds_toArray, List.set_cons_zero, List.set_cons_succ, i64_w, i32_w]
              rfl
            refine pure_ (i := 2) (N := (some 170)) (v := ?_) (a' := ?_) #[true, true, true, false, false, false, false, false, false, false, false, false, false, false, false, false, false, false, false, false, false, false, false, false, false, false, false, false, false, false, false, false, false, false] rfl rfl (any_of HT_.out (by kernel_rfl)) (fun _ _ _ h => h) (Or.inl ⟨by rfl, ?_⟩) ?_ ?_
            rotate_left
            · intro w'
              go_simp
              first | done | with_reducible rfl
            rotate_left
            · simp only [Act.put, List.setIfInBounds_toArray, List.set_cons_zero, List.set_cons_succ, i64_w, i32_w]
              rfl
            refine pure_ (i := 3) (N := (some 171)) (v := ?_) (a' := ?_) #[true, true, true, true, false, false, false, false, false, false, false, false, false, false, false, false, false, false, false, false, false, false, false, false, false, false, false, false, false, false, false, false, false, false] rfl rfl (any_of HT_.out (by kernel_rfl)) (fun _ _ _ h => h) (Or.inl ⟨by rfl, ?_⟩) ?_ ?_
            rotate_left
            · intro w'
              go_simp
              first | done | with_reducible rfl
            rotate_left
            · simp only [Act.put, List.setIfInBounds_toArray, List.set_cons_zero, List.set_cons_succ, i64_w, i32_w]
              rfl
            refine pure_ (i := 5) (N := (some 173)) (v := ?_) (a' := ?_) #[true, true, true, true, false, true, false, false, false, false, false, false, false, false, false, false, false, false, false, false, false, false, false, false, false, false, false, false, false, false, false, false, false, false] rfl rfl (any_of HT_.out (by kernel_rfl)) (fun _ _ _ h => h) (Or.inl ⟨by rfl, ?_⟩) ?_ ?_
            rotate_left
            · intro w'
              go_simp
              first | done | with_reducible rfl
            rotate_left
            · simp only [Act.put, List.setIfInBounds_toArray, List.set_cons_zero, List.set_cons_succ, i64_w, i32_w]
              rfl
            refine pure_ (i := 6) (N := (some 174)) (v := ?_) (a' := ?_) #[true, true, true, true, false, true, true, false, false, false, false, false, false, false, false, false, false, false, false, false, false, false, false, false, false, false, false, false, false, false, false, false, false, false] rfl rfl (any_of HT_.out (by kernel_rfl)) (fun _ _ _ h => h) (Or.inl ⟨by rfl, ?_⟩) ?_ ?_
            rotate_left
            · intro w'
              go_simp
              first | done | with_reducible rfl
            rotate_left
            · simp only [Act.put, List.setIfInBounds_toArray, List.set_cons_zero, List.set_cons_succ, i64_w, i32_w]
              rfl
            refine pure_ (i := 7) (N := (some 175)) (v := ?_) (a' := ?_) #[true, true, true, true, false, true, true, true, false, false, false, false, false, false, false, false, false, false, false, false, false, false, false, false, false, false, false, false, false, false, false, false, false, false] rfl rfl (any_of HT_.out (by kernel_rfl)) (fun _ _ _ h => h) (Or.inl ⟨by rfl, ?_⟩) ?_ ?_
            rotate_left
            · intro w'
              go_simp
              first | done | with_reducible rfl
            rotate_left
            · simp only [Act.put, List.setIfInBounds_toArray, List.set_cons_zero, List.set_cons_succ, i64_w, i32_w]
              rfl
            refine take_ (i := 8) (N := (some 176)) (v := ?_) (a' := ?_) #[true, true, true, true, false, true, true, true, true, false, false, false, false, false, false, false, false, false, false, false, false, false, false, false, false, false, false, false, false, false, false, false, false, false] rfl rfl (take_ofW HT_.out HW_.out (by kernel_rfl)) (fun _ _ _ h => h) (Or.inl ⟨by rfl, ?_⟩) hHeld ?_ ?_
            rotate_left
            · rintro w' ⟨s0, s1, s2, s3, s4⟩
              go_simp
              first | done | with_reducible rfl
            rotate_left
            · simp only [Act.put, List.setIfInBounds_toArray, List.set_cons_zero, List.set_cons_succ, i64_w, i32_w]
              rfl
            refine one_ (i := 4) (N := (some 172)) #[true, true, true, true, true, true, true, true, true, false, false, false, false, false, false, false, false, false, false, false, false, false, false, false, false, false, false, false, false, false, false, false, false, false] rfl rfl (one_of HT_.out (by kernel_rfl)) (by decide) (fun K hK => ?_)
            refine goes_ Try.func32 (by kernel_rfl) rfl #[.pointer (some ⟨g, 0, none⟩)] (by rfl) rfl rfl (by (try simp only [List.map_toArray, List.map_cons, List.map_nil]); first | done | rfl) ?_
            with_reducible refine (pmDown HP6d.out).mono ?_
            rintro ev_ w7 ⟨rfl, rfl⟩
            refine ⟨_, rfl, ?_⟩
            refine hK.out _ _ HELD.out (fun hHeld => ?_)
            clear hK K
            refine norm_ (a' := ?_) ?_ ?_
            rotate_left
            · show Act.put _ (some 172) _ = _
              simp only [Act.put, List.setIfInBounds_toArray, List.set_cons_zero, List.set_cons_succ, i64_w, i32_w]
              rfl
            refine pure_ (i := 9) (N := (some 177)) (v := ?_) (a' := ?_) #[true, true, true, true, true, true, true, true, true, true, false, false, false, false, false, false, false, false, false, false, false, false, false, false, false, false, false, false, false, false, false, false, false, false] rfl rfl (any_of HT_.out (by kernel_rfl)) (fun _ _ _ h => h) (Or.inl ⟨by rfl, ?_⟩) ?_ ?_
            rotate_left
            · intro w'
              go_simp
              first | done | with_reducible rfl
            rotate_left
            · simp only [Act.put, List.setIfInBounds_toArray, List.set_cons_zero, List.set_cons_succ, i64_w, i32_w]
              rfl
            refine pure_ (i := 10) (N := (some 178)) (v := ?_) (a' := ?_) #[true, true, true, true, true, true, true, true, true, true, true, false, false, false, false, false, false, false, false, false, false, false, false, false, false, false, false, false, false, false, false, false, false, false] rfl rfl (any_of HT_.out (by kernel_rfl)) (fun _ _ _ h => h) (Or.inl ⟨by rfl, ?_⟩) ?_ ?_
            rotate_left
            · intro w'
              go_simp
              first | done | with_reducible rfl
            rotate_left
            · simp only [Act.put, List.setIfInBounds_toArray, List.set_cons_zero, List.set_cons_succ, i64_w, i32_w]
              rfl
            refine pure_ (i := 11) (N := (some 179)) (v := ?_) (a' := ?_) #[true, true, true, true, true, true, true, true, true, true, true, true, false, false, false, false, false, false, false, false, false, false, false, false, false, false, false, false, false, false, false, false, false, false] rfl rfl (any_of HT_.out (by kernel_rfl)) (fun _ _ _ h => h) (Or.inl ⟨by rfl, ?_⟩) ?_ ?_
            rotate_left
            · intro w'
              go_simp
              first | done | with_reducible rfl
            rotate_left
            · simp only [Act.put, List.setIfInBounds_toArray, List.set_cons_zero, List.set_cons_succ, i64_w, i32_w]
              rfl
            refine pure_ (i := 12) (N := (some 180)) (v := ?_) (a' := ?_) #[true, true, true, true, true, true, true, true, true, true, true, true, true, false, false, false, false, false, false, false, false, false, false, false, false, false, false, false, false, false, false, false, false, false] rfl rfl (any_of HT_.out (by kernel_rfl)) (fun _ _ _ h => h) (Or.inl ⟨by rfl, ?_⟩) ?_ ?_
            rotate_left
            · intro w'
              go_simp
              first | done | with_reducible rfl
            rotate_left
            · simp only [Act.put, List.setIfInBounds_toArray, List.set_cons_zero, List.set_cons_succ, i64_w, i32_w]
              rfl
            refine pure_ (i := 14) (N := (some 182)) (v := ?_) (a' := ?_) #[true, true, true, true, true, true, true, true, true, true, true, true, true, false, true, false, false, false, false, false, false, false, false, false, false, false, false, false, false, false, false, false, false, false] rfl rfl (any_of HT_.out (by kernel_rfl)) (fun _ _ _ h => h) (Or.inl ⟨by rfl, ?_⟩) ?_ ?_
            rotate_left
            · intro w'
              go_simp
              first | done | with_reducible rfl
            rotate_left
            · simp only [Act.put, List.setIfInBounds_toArray, List.set_cons_zero, List.set_cons_succ, i64_w, i32_w]
              rfl
            refine pure_ (i := 15) (N := (some 183)) (v := ?_) (a' := ?_) #[true, true, true, true, true, true, true, true, true, true, true, true, true, false, true, true, false, false, false, false, false, false, false, false, false, false, false, false, false, false, false, false, false, false] rfl rfl (any_of HT_.out (by kernel_rfl)) (fun _ _ _ h => h) (Or.inl ⟨by rfl, ?_⟩) ?_ ?_
            rotate_left
            · intro w'
              go_simp
              first | done | with_reducible rfl
            rotate_left
            · simp only [Act.put, List.setIfInBounds_toArray, List.set_cons_zero, List.set_cons_succ, i64_w, i32_w]
              rfl
            refine pure_ (i := 16) (N := (some 184)) (v := ?_) (a' := ?_) #[true, true, true, true, true, true, true, true, true, true, true, true, true, false, true, true, true, false, false, false, false, false, false, false, false, false, false, false, false, false, false, false, false, false] rfl rfl (any_of HT_.out (by kernel_rfl)) (fun _ _ _ h => h) (Or.inl ⟨by rfl, ?_⟩) ?_ ?_
            rotate_left
            · intro w'
              go_simp
              first | done | with_reducible rfl
            rotate_left
            · simp only [Act.put, List.setIfInBounds_toArray, List.set_cons_zero, List.set_cons_succ, i64_w, i32_w]
              rfl
            refine take_ (i := 17) (N := (some 185)) (v := ?_) (a' := ?_) #[true, true, true, true, true, true, true, true, true, true, true, true, true, false, true, true, true, true, false, false, false, false, false, false, false, false, false, false, false, false, false, false, false, false] rfl rfl (take_ofW HT_.out HW_.out (by kernel_rfl)) (fun _ _ _ h => h) (Or.inl ⟨by rfl, ?_⟩) hHeld ?_ ?_
            rotate_left
            · rintro w' ⟨s0, s1, s2, s3, s4⟩
              go_simp
              first | done | with_reducible rfl
            rotate_left
            · simp only [Act.put, List.setIfInBounds_toArray, List.set_cons_zero, List.set_cons_succ, i64_w, i32_w]
              rfl
            refine one_ (i := 13) (N := (some 181)) #[true, true, true, true, true, true, true, true, true, true, true, true, true, true, true, true, true, true, false, false, false, false, false, false, false, false, false, false, false, false, false, false, false, false] rfl rfl (one_of HT_.out (by kernel_rfl)) (by decide) (fun K hK => ?_)
            refine goes_ Try.func20 (by kernel_rfl) rfl #[.pointer (some ⟨g, 0, none⟩)] (by rfl) rfl rfl (by (try simp only [List.map_toArray, List.map_cons, List.map_nil]); first | done | rfl) ?_
            with_reducible refine (pmBill HP6d.out).mono ?_
            rintro ev_ w8 ⟨rfl, hb8⟩
            refine ⟨_, rfl, ?_⟩
            have HP8 := Aside0.mk (HP6d.out.below hb8)
            have HE8 := Aside0.mk (five HELD.out hb8)
            clear hb8
            refine hK.out _ _ HE8.out (fun hHeld => ?_)
            clear hK K
            refine norm_ (a' := ?_) ?_ ?_
            rotate_left
            · show Act.put _ (some 181) _ = _
              simp only [Act.put, List.setIfInBounds_toArray, List.set_cons_zero, List.set_cons_succ, i64_w, i32_w]
              rfl
            refine pure_ (i := 18) (N := (some 186)) (v := ?_) (a' := ?_) #[true, true, true, true, true, true, true, true, true, true, true, true, true, true, true, true, true, true, true, false, false, false, false, false, false, false, false, false, false, false, false, false, false, false] rfl rfl (any_of HT_.out (by kernel_rfl)) (fun _ _ _ h => h) (Or.inl ⟨by rfl, ?_⟩) ?_ ?_
            rotate_left
            · intro w'
              go_simp
              first | done | with_reducible rfl
            rotate_left
            · simp only [Act.put, List.setIfInBounds_toArray, List.set_cons_zero, List.set_cons_succ, i64_w, i32_w]
              rfl
            refine pure_ (i := 19) (N := (some 187)) (v := ?_) (a' := ?_) #[true, true, true, true, true, true, true, true, true, true, true, true, true, true, true, true, true, true, true, true, false, false, false, false, false, false, false, false, false, false, false, false, false, false] rfl rfl (any_of HT_.out (by kernel_rfl)) (fun _ _ _ h => h) (Or.inl ⟨by rfl, ?_⟩) ?_ ?_
            rotate_left
            · intro w'
              go_simp
              first | done | with_reducible rfl
            rotate_left
            · simp only [Act.put, List.setIfInBounds_toArray, List.set_cons_zero, List.set_cons_succ, i64_w, i32_w]
              rfl
            refine pure_ (i := 20) (N := (some 188)) (v := ?_) (a' := ?_) #[true, true, true, true, true, true, true, true, true, true, true, true, true, true, true, true, true, true, true, true, true, false, false, false, false, false, false, false, false, false, false, false, false, false] rfl rfl (any_of HT_.out (by kernel_rfl)) (fun _ _ _ h => h) (Or.inl ⟨by rfl, ?_⟩) ?_ ?_
            rotate_left
            · intro w'
              go_simp
              first | done | with_reducible rfl
            rotate_left
            · simp only [Act.put, List.setIfInBounds_toArray, List.set_cons_zero, List.set_cons_succ, i64_w, i32_w]
              rfl
            refine pure_ (i := 21) (N := (some 189)) (v := ?_) (a' := ?_) #[true, true, true, true, true, true, true, true, true, true, true, true, true, true, true, true, true, true, true, true, true, true, false, false, false, false, false, false, false, false, false, false, false, false] rfl rfl (any_of HT_.out (by kernel_rfl)) (fun _ _ _ h => h) (Or.inl ⟨by rfl, ?_⟩) ?_ ?_
            rotate_left
            · intro w'
              go_simp
              first | done | with_reducible rfl
            rotate_left
            · simp only [Act.put, List.setIfInBounds_toArray, List.set_cons_zero, List.set_cons_succ, i64_w, i32_w]
              rfl
            refine pure_ (i := 22) (N := (some 190)) (v := ?_) (a' := ?_) #[true, true, true, true, true, true, true, true, true, true, true, true, true, true, true, true, true, true, true, true, true, true, true, false, false, false, false, false, false, false, false, false, false, false] rfl rfl (any_of HT_.out (by kernel_rfl)) (fun _ _ _ h => h) (Or.inl ⟨by rfl, ?_⟩) ?_ ?_
            rotate_left
            · intro w'
              go_simp
              first | done | with_reducible rfl
            rotate_left
            · simp only [Act.put, List.setIfInBounds_toArray, List.set_cons_zero, List.set_cons_succ, i64_w, i32_w]
              rfl
            refine pure_ (i := 23) (N := (some 191)) (v := ?_) (a' := ?_) #[true, true, true, true, true, true, true, true, true, true, true, true, true, true, true, true, true, true, true, true, true, true, true, true, false, false, false, false, false, false, false, false, false, false] rfl rfl (any_of HT_.out (by kernel_rfl)) (fun _ _ _ h => h) (Or.inl ⟨by rfl, ?_⟩) ?_ ?_
            rotate_left
            · intro w'
              go_simp
              first | done | with_reducible rfl
            rotate_left
            · simp only [Act.put, List.setIfInBounds_toArray, List.set_cons_zero, List.set_cons_succ, i64_w, i32_w]
              rfl
            refine take_ (i := 24) (N := (some 192)) (v := ?_) (a' := ?_) #[true, true, true, true, true, true, true, true, true, true, true, true, true, true, true, true, true, true, true, true, true, true, true, true, true, false, false, false, false, false, false, false, false, false] rfl rfl (take_ofW HT_.out HW_.out (by kernel_rfl)) (fun _ _ _ h => h) (Or.inl ⟨by rfl, ?_⟩) hHeld ?_ ?_
            rotate_left
            · rintro w' ⟨s0, s1, s2, s3, s4⟩
              go_simp
              first | done | with_reducible rfl
            rotate_left
            · simp only [Act.put, List.setIfInBounds_toArray, List.set_cons_zero, List.set_cons_succ, i64_w, i32_w]
              rfl
            refine pure_ (i := 26) (N := (some 194)) (v := ?_) (a' := ?_) #[true, true, true, true, true, true, true, true, true, true, true, true, true, true, true, true, true, true, true, true, true, true, true, true, true, false, true, false, false, false, false, false, false, false] rfl rfl (any_of HT_.out (by kernel_rfl)) (fun _ _ _ h => h) (Or.inl ⟨by rfl, ?_⟩) ?_ ?_
            rotate_left
            · intro w'
              go_simp
              first | done | with_reducible rfl
            rotate_left
            · simp only [Act.put, List.setIfInBounds_toArray, List.set_cons_zero, List.set_cons_succ, i64_w, i32_w]
              rfl
            refine pure_ (i := 27) (N := (some 195)) (v := ?_) (a' := ?_) #[true, true, true, true, true, true, true, true, true, true, true, true, true, true, true, true, true, true, true, true, true, true, true, true, true, false, true, true, false, false, false, false, false, false] rfl rfl (any_of HT_.out (by kernel_rfl)) (fun _ _ _ h => h) (Or.inl ⟨by rfl, ?_⟩) ?_ ?_
            rotate_left
            · intro w'
              go_simp
              first | done | with_reducible rfl
            rotate_left
            · simp only [Act.put, List.setIfInBounds_toArray, List.set_cons_zero, List.set_cons_succ, i64_w, i32_w]
              rfl
            refine pure_ (i := 28) (N := (some 196)) (v := ?_) (a' := ?_) #[true, true, true, true, true, true, true, true, true, true, true, true, true, true, true, true, true, true, true, true, true, true, true, true, true, false, true, true, true, false, false, false, false, false] rfl rfl (any_of HT_.out (by kernel_rfl)) (fun _ _ _ h => h) (Or.inl ⟨by rfl, ?_⟩) ?_ ?_
            rotate_left
            · intro w'
              go_simp
              first | done | with_reducible rfl
            rotate_left
            · simp only [Act.put, List.setIfInBounds_toArray, List.set_cons_zero, List.set_cons_succ, i64_w, i32_w]
              rfl
            refine take_ (i := 29) (N := (some 197)) (v := ?_) (a' := ?_) #[true, true, true, true, true, true, true, true, true, true, true, true, true, true, true, true, true, true, true, true, true, true, true, true, true, false, true, true, true, true, false, false, false, false] rfl rfl (take_ofW HT_.out HW_.out (by kernel_rfl)) (fun _ _ _ h => h) (Or.inl ⟨by rfl, ?_⟩) hHeld ?_ ?_
            rotate_left
            · rintro w' ⟨s0, s1, s2, s3, s4⟩
              go_simp
              first | done | with_reducible rfl
            rotate_left
            · simp only [Act.put, List.setIfInBounds_toArray, List.set_cons_zero, List.set_cons_succ, i64_w, i32_w]
              rfl
            refine one_ (i := 25) (N := (some 193)) #[true, true, true, true, true, true, true, true, true, true, true, true, true, true, true, true, true, true, true, true, true, true, true, true, true, true, true, true, true, true, false, false, false, false] rfl rfl (one_of HT_.out (by kernel_rfl)) (by decide) (fun K hK => ?_)
            refine goes_ Try.func16 (by kernel_rfl) rfl #[.pointer (some ⟨g, 0, none⟩), .int .i64 sb'] (by rfl) rfl rfl (by (try simp only [List.map_toArray, List.map_cons, List.map_nil]); first | done | rfl) ?_
            with_reducible refine (pmBlock HP8.out sb' (HA6.out.pg.block _)).mono ?_
            rintro ev_ w9 ⟨v9, rfl, hv9, hb9⟩
            refine ⟨_, rfl, ?_⟩
            have HP9 := Aside0.mk (HP8.out.below hb9)
            have HE9 := Aside0.mk (five HE8.out hb9)
            have HV9 := Aside0.mk hv9
            clear hb9 hv9
            refine hK.out _ _ HE9.out (fun hHeld => ?_)
            clear hK K
            refine norm_ (a' := ?_) ?_ ?_
            rotate_left
            · show Act.put _ (some 193) _ = _
              simp only [Act.put, List.setIfInBounds_toArray, List.set_cons_zero, List.set_cons_succ, i64_w, i32_w]
              rfl
            refine one_ (i := 30) (N := (some 198)) #[true, true, true, true, true, true, true, true, true, true, true, true, true, true, true, true, true, true, true, true, true, true, true, true, true, true, true, true, true, true, true, false, false, false] rfl rfl (one_of HT_.out (by kernel_rfl)) (by decide) (fun K hK => ?_)
            refine goes_ Try.func34 (by kernel_rfl) rfl #[.pointer (some ⟨g2, 0, none⟩), .int .i64 sb'] (by rfl) rfl rfl (by (try simp only [List.map_toArray, List.map_cons, List.map_nil]); first | done | rfl) ?_
            with_reducible refine (pmAt HP9.out sb').mono ?_
            rintro ev_ w10 ⟨v10, rfl, hv10, hb10⟩
            refine ⟨_, rfl, ?_⟩
            rw [← HA6.out.sim.block] at hv10
            have HP10 := Aside0.mk (HP9.out.below hb10)
            have HE10 := Aside0.mk (five HE9.out hb10)
            have HV10 := Aside0.mk hv10
            have HV9b := Aside0.mk (HV9.out.below hb10)
            clear hb10 hv10
            refine hK.out _ _ HE10.out (fun hHeld => ?_)
            clear hK K
            refine norm_ (a' := ?_) ?_ ?_
            rotate_left
            · show Act.put _ (some 198) _ = _
              simp only [Act.put, List.setIfInBounds_toArray, List.set_cons_zero, List.set_cons_succ, i64_w, i32_w]
              rfl
            refine one_ (i := 31) (N := (some 199)) #[true, true, true, true, true, true, true, true, true, true, true, true, true, true, true, true, true, true, true, true, true, true, true, true, true, true, true, true, true, true, true, true, false, false] rfl rfl (one_of HT_.out (by kernel_rfl)) (by decide) (fun K hK => ?_)
            refine goes_ Try.func33 (by kernel_rfl) rfl #[v9, v10] (by rfl) rfl rfl (by (try simp only [List.map_toArray, List.map_cons, List.map_nil]); first | done | rfl) ?_
            with_reducible refine (same1 w10 v9 v10 (blockB s' sb') HV9b.out HV10.out (block_len HP10.out.inv _)).mono ?_
            rintro ev_ w11 ⟨rfl, hb11⟩
            refine ⟨_, rfl, ?_⟩
            have HP11 := Aside0.mk (HP10.out.below hb11)
            have HE11 := Aside0.mk (five HE10.out hb11)
            clear hb11
            refine hK.out _ _ HE11.out (fun hHeld => ?_)
            clear hK K
            refine norm_ (a' := ?_) ?_ ?_
            rotate_left
            · show Act.put _ (some 199) _ = _
              simp only [Act.put, List.setIfInBounds_toArray, List.set_cons_zero, List.set_cons_succ, i64_w, i32_w]
              rfl
            refine pure_ (i := 32) (N := (some 200)) (v := ?_) (a' := ?_) #[true, true, true, true, true, true, true, true, true, true, true, true, true, true, true, true, true, true, true, true, true, true, true, true, true, true, true, true, true, true, true, true, true, false] rfl rfl (any_of HT_.out (by kernel_rfl)) (fun _ _ _ h => h) (Or.inl ⟨by rfl, ?_⟩) ?_ ?_
            rotate_left
            · intro w'
              go_simp
              first | done | with_reducible rfl
            rotate_left
            · simp only [Act.put, List.setIfInBounds_toArray, List.set_cons_zero, List.set_cons_succ, i64_w, i32_w]
              rfl
            refine pure_ (i := 33) (N := (some 201)) (v := ?_) (a' := ?_) #[true, true, true, true, true, true, true, true, true, true, true, true, true, true, true, true, true, true, true, true, true, true, true, true, true, true, true, true, true, true, true, true, true, true] rfl rfl (any_of HT_.out (by kernel_rfl)) (fun _ _ _ h => h) (Or.inl ⟨by rfl, ?_⟩) ?_ ?_
            rotate_left
            · intro w'
              go_simp
              first | done | with_reducible rfl
            rotate_left
            · simp only [Act.put, List.setIfInBounds_toArray, List.set_cons_zero, List.set_cons_succ, i64_w, i32_w]
              rfl
            refine done_ (done_of HT_.out (by kernel_rfl)) ?_
            have hw2 := HW2.out
            clear hHeld HT_ HW_
            go_wp2_with fail
            go_roundw
            case measure =>
              have hm : l.length - ((j + 1 : Nat) : Int).toNat < l.length - ((j : Nat) : Int).toNat := by
                rw [Int.toNat_natCast, Int.toNat_natCast]
                exact Nat.sub_lt_sub_left HLT.out (Nat.lt_succ_self j)
              first | exact hm | (rw [hw2]; exact hm)
            case rel => exact ⟨j + 1, s', r', HLT.out, by first | rw [hw2] | rfl, ⟨HP11.out.forget⟩, ⟨by rw [hk2]; exact HA6.out⟩, HNL6⟩
      · have he : j = l.length := by omega
        subst he
        have hnn : ¬ (((l.length : Nat) : Int) < (l.length : Int)) := by omega
        clear hlt hj
        go_upto_region 38 with fail
        have HPd := Aside0.mk (HP.out.below (below_drew (Below.refl _ _)))
        obtain ⟨hh, cap, pg, ⟨q0, -⟩, base0, ok0, cs0, qr⟩ := HPd.out.cells
        rw [HNL.out] at q0
        have Q0 := Aside0.mk q0
        have QR := Aside0.mk qr
        clear q0 qr
        refine start_ (n := 11) (S := fun w' => w'.cell? ⟨g2, 0, none⟩ = some (.slice (some ⟨hh, 0, none⟩) n cap)) (ds := []) #[false, false, false, false, false, false, false, false, false, false, false] (by kernel_rfl) rfl rfl Q0.out (fun hHeld => ?_)
        refine with_tabW reg_Plays_38.tab reg_Plays_38.bits (fun HT_ HW_ => ?_)
        refine pure_ (i := 0) (N := (some 203)) (v := ?_) (a' := ?_) #[true, false, false, false, false, false, false, false, false, false, false] rfl rfl (any_of HT_.out (by kernel_rfl)) (fun _ _ _ h => h) (Or.inl ⟨by rfl, ?_⟩) ?_ ?_
        rotate_left
        · intro w'
          go_simp
          first | done | with_reducible rfl
        rotate_left
        · simp only [Act.put, List.setIfInBounds_toArray, List.set_cons_zero, List.set_cons_succ, i64_w, i32_w]
          rfl
        refine pure_ (i := 2) (N := (some 205)) (v := ?_) (a' := ?_) #[true, false, true, false, false, false, false, false, false, false, false] rfl rfl (any_of HT_.out (by kernel_rfl)) (fun _ _ _ h => h) (Or.inl ⟨by rfl, ?_⟩) ?_ ?_
        rotate_left
        · intro w'
          go_simp
          first | done | with_reducible rfl
        rotate_left
        · simp only [Act.put, List.setIfInBounds_toArray, List.set_cons_zero, List.set_cons_succ, i64_w, i32_w]
          rfl
        refine pure_ (i := 3) (N := (some 206)) (v := ?_) (a' := ?_) #[true, false, true, true, false, false, false, false, false, false, false] rfl rfl (any_of HT_.out (by kernel_rfl)) (fun _ _ _ h => h) (Or.inl ⟨by rfl, ?_⟩) ?_ ?_
        rotate_left
        · intro w'
          go_simp
          first | done | with_reducible rfl
        rotate_left
        · simp only [Act.put, List.setIfInBounds_toArray, List.set_cons_zero, List.set_cons_succ, i64_w, i32_w]
          rfl
        refine pure_ (i := 4) (N := (some 207)) (v := ?_) (a' := ?_) #[true, false, true, true, true, false, false, false, false, false, false] rfl rfl (any_of HT_.out (by kernel_rfl)) (fun _ _ _ h => h) (Or.inl ⟨by rfl, ?_⟩) ?_ ?_
        rotate_left
        · intro w'
          go_simp
          first | done | with_reducible rfl
        rotate_left
        · simp only [Act.put, List.setIfInBounds_toArray, List.set_cons_zero, List.set_cons_succ, i64_w, i32_w]
          rfl
        refine take_ (i := 5) (N := (some 208)) (v := ?_) (a' := ?_) #[true, false, true, true, true, true, false, false, false, false, false] rfl rfl (take_ofW HT_.out HW_.out (by kernel_rfl)) (fun _ _ _ h => h) (Or.inl ⟨by rfl, ?_⟩) hHeld ?_ ?_
        rotate_left
        · rintro w' s0
          go_simp
          first | done | with_reducible rfl
        rotate_left
        · simp only [Act.put, List.setIfInBounds_toArray, List.set_cons_zero, List.set_cons_succ, i64_w, i32_w]
          rfl
        refine one_ (i := 1) (N := (some 204)) #[true, true, true, true, true, true, false, false, false, false, false] rfl rfl (one_of HT_.out (by kernel_rfl)) (by decide) (fun K hK => ?_)
        refine goes_ Try.func36 (by kernel_rfl) rfl #[.pointer (some ⟨g, 0, none⟩)] (by rfl) rfl rfl (by (try simp only [List.map_toArray, List.map_cons, List.map_nil]); first | done | rfl) ?_
        with_reducible refine (pmBlocks HPd.out HA.out.pg.all).mono ?_
        rintro ev_ w5 ⟨A5, c5, l5, b5, rfl, hC5, hF5, hP5, hb5⟩
        refine ⟨_, rfl, ?_⟩
        rw [HA.out.sim.blocks] at hF5
        have HB5 := Aside0.mk (below_step HPd.out.bel hb5)
        have Q5 := Aside0.mk (pw_cell_below hb5 Q0.out)
        have QR5 := Aside0.mk (QR.out.below hb5)
        have HC5 := Aside0.mk hC5
        have HF5 := Aside0.mk hF5
        clear hC5 hF5 hP5 hb5
        obtain ⟨n5, hn5⟩ : ∃ x, l5.length = x := ⟨_, rfl⟩
        rw [hn5]
        have HN5 := Aside0.mk hn5
        clear hn5
        refine hK.out _ _ Q5.out (fun hHeld => ?_)
        clear hK K
        refine norm_ (a' := ?_) ?_ ?_
        rotate_left
        · show Act.put _ (some 204) _ = _
          simp only [Act.put, List.setIfInBounds_toArray, List.set_cons_zero, List.set_cons_succ, i64_w, i32_w]
          rfl
        refine one_ (i := 6) (N := (some 209)) #[true, true, true, true, true, true, true, false, false, false, false] rfl rfl (one_of HT_.out (by kernel_rfl)) (by decide) (fun K hK => ?_)
        refine goes_ Try.func35 (by kernel_rfl) rfl #[.slice A5 n5 c5, .slice (some ⟨hh, 0, none⟩) n cap] (by rfl) rfl rfl (by (try simp only [List.map_toArray, List.map_cons, List.map_nil]); first | done | rfl) ?_
        with_reducible refine ((by have h_ := same2 w5 A5 c5 b5 l5 QR5.out HC5.out HF5.out; rw [HNL.out, HN5.out] at h_; exact h_ : Calls Try.prog 35 #[.slice A5 n5 c5, .slice (some ⟨hh, 0, none⟩) n cap] w5 _)).mono ?_
        rintro ev_ w6 ⟨rfl, hb6⟩
        refine ⟨_, rfl, ?_⟩
        have HB6 := Aside0.mk (below_step HB5.out hb6)
        have Q6 := Aside0.mk (pw_cell_below hb6 Q5.out)
        clear hb6
        refine hK.out _ _ Q6.out (fun hHeld => ?_)
        clear hK K
        refine norm_ (a' := ?_) ?_ ?_
        rotate_left
        · show Act.put _ (some 209) _ = _
          simp only [Act.put, List.setIfInBounds_toArray, List.set_cons_zero, List.set_cons_succ, i64_w, i32_w]
          rfl
        refine pure_ (i := 7) (N := (some 210)) (v := ?_) (a' := ?_) #[true, true, true, true, true, true, true, true, false, false, false] rfl rfl (any_of HT_.out (by kernel_rfl)) (fun _ _ _ h => h) (Or.inl ⟨by rfl, ?_⟩) ?_ ?_
        rotate_left
        · intro w'
          go_simp
          first | done | with_reducible rfl
        rotate_left
        · simp only [Act.put, List.setIfInBounds_toArray, List.set_cons_zero, List.set_cons_succ, i64_w, i32_w]
          rfl
        refine one_ (i := 8) (N := (some 211)) #[true, true, true, true, true, true, true, true, true, false, false] rfl rfl (one_of HT_.out (by kernel_rfl)) (by decide) (fun K hK => ?_)
        refine goes_ Try.func11 (by kernel_rfl) rfl #[] (by rfl) rfl rfl (by (try simp only [List.map_toArray, List.map_cons, List.map_nil]); first | done | rfl) ?_
        with_reducible refine (awake4 w6).mono ?_
        rintro ev_ w7 ⟨rfl, hb7⟩
        refine ⟨_, rfl, ?_⟩
        have HB7 := Aside0.mk (below_step HB6.out hb7)
        have Q7 := Aside0.mk (pw_cell_below hb7 Q6.out)
        clear hb7
        refine hK.out _ _ Q7.out (fun hHeld => ?_)
        clear hK K
        refine norm_ (a' := ?_) ?_ ?_
        rotate_left
        · show Act.put _ (some 211) _ = _
          simp only [Act.put, List.setIfInBounds_toArray, List.set_cons_zero, List.set_cons_succ, i64_w, i32_w]
          rfl
        refine pure_ (i := 9) (N := (some 212)) (v := ?_) (a' := ?_) #[true, true, true, true, true, true, true, true, true, true, false] rfl rfl (any_of HT_.out (by kernel_rfl)) (fun _ _ _ h => h) (Or.inl ⟨by rfl, ?_⟩) ?_ ?_
        rotate_left
        · intro w'
          go_simp
          first | done | with_reducible rfl
        rotate_left
        · simp only [Act.put, List.setIfInBounds_toArray, List.set_cons_zero, List.set_cons_succ, i64_w, i32_w]
          rfl
        refine pure_ (i := 10) (N := (some 8)) (v := ?_) (a' := ?_) #[true, true, true, true, true, true, true, true, true, true, true] rfl rfl (any_of HT_.out (by kernel_rfl)) (fun _ _ _ h => h) (Or.inl ⟨by rfl, ?_⟩) ?_ ?_
        rotate_left
        · intro w'
          go_simp
          first | done | with_reducible rfl
        rotate_left
        · simp only [Act.put, List.setIfInBounds_toArray, List.set_cons_zero, List.set_cons_succ, i64_w, i32_w]
          rfl
        refine done_ (done_of HT_.out (by kernel_rfl)) ?_
        clear hHeld HT_ HW_
        go_wp2_with fail
        go_ret
        exact ⟨rfl, HB7.out⟩
  · have HX := Aside0.mk hnp
    clear hnp
    go_wp2_with fail
    refine (newNil w0 bl pa A0 bad.length c0 HX.out).mono ?_
    rintro ev w1 ⟨rfl, hb1⟩
    have HB1 := Aside0.mk (below_step HB0.out hb1)
    clear hb1
    go_wp2_with fail
    refine (rnewNil w1 bl pa A0 bad.length c0 HX.out).mono ?_
    rintro ev w2 ⟨rfl, hb2⟩
    have HB2 := Aside0.mk (below_step HB1.out hb2)
    clear hb2
    go_wp2_with fail
    refine (awake4 w2).mono ?_
    rintro ev w6 ⟨rfl, hb6⟩
    have HB6 := Aside0.mk (below_step HB2.out hb6)
    clear hb6
    go_wp2_with fail
    go_ret
    exact ⟨rfl, HB6.out⟩
end Go.Proofs.Ytloldgiggnhemaa.Cm
