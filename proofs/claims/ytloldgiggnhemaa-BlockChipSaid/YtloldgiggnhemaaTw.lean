import Derived.Test.YtloldgiggnhemaaTp
set_option linter.unusedVariables false
set_option linter.unusedSimpArgs false
/-! ChipTorn, the walk. -/
namespace Go.Proofs.Ytloldgiggnhemaa.Cm
open Go.RowKit Go.Proofs.YtloldgiggnhemaaW.PrintWords Go.Proofs.YtloldgiggnhemaaW.PrintLast Go.Proofs.YtloldgiggnhemaaW.PrintMore Go.Proofs.Ytloldgiggnhemaa.Kp Go.Proofs.Ytloldgiggnhemaa.Cp
attribute [local go_sem] max2_int min2_int max_two min_two max_three min_three max_four min_four

theorem take_min {b : List Int} {k m : Nat} (h : min k b.length = m) : b.take k = b.take m ∧ (b.take m).length = m := by
  subst h
  refine ⟨?_, by rw [List.length_take]; omega⟩
  by_cases hk : k ≤ b.length
  · rw [Nat.min_eq_left hk]
  · rw [Nat.min_eq_right (by omega), List.take_of_length_le (by omega), List.take_length]
def reg_Torn_11.T : Bool × List (List Nat × List Nat) := (true, [([], []), ([0], [0]), ([1], [1]), ([2], [2]), ([3, 2], [2, 3]), ([2, 4], [2, 4]), ([5, 2], [5]), ([6], [6]), ([7, 6], [6, 7]), ([6, 8], [6, 8]), ([9, 6], [9]), ([10], [10]), ([11, 10], [10, 11]), ([10], [10]), ([10], [10]), ([10], [10]), ([15, 10], [10, 15]), ([14, 16, 10], [10, 14, 16]), ([13, 17, 10], [10, 13, 17]), ([18, 10], [10, 18]), ([12, 19, 10], [10, 12, 19]), ([10, 20], [10, 20]), ([21, 10], [21]), ([22], [22]), ([23, 22, 22], [22, 23]), ([24, 22], [22, 24]), ([25, 22], [22, 25]), ([22, 26], [22, 26])])
def reg_Torn_11.B : List Nat := [0, 1, 3, 7, 15, 31, 63, 127, 255, 511, 1023, 2047, 4095, 2047, 2047, 2047, 34815, 116735, 255999, 518143, 1048575, 2097151, 4194303, 8388607, 16777215, 33554431, 67108863, 134217727]
theorem reg_Torn_11.tab : rtab .any (opsOf Try.f6 11) = reg_Torn_11.T := by kernel_rfl
theorem reg_Torn_11.bits : waitsOk reg_Torn_11.T.2 reg_Torn_11.B = true := by kernel_rfl
set_option maxHeartbeats 8000000 in
set_option maxRecDepth 100000 in
theorem torn (W : World) (A : Option Addr) (c : Nat) (b : List Int) (hc : b.length ≤ c) (hC : Kd.C (Kd.int .u8) W A b.length b) (a1 a2 : Int) :
    Calls Try.prog 6 #[.slice A b.length c, .int .i64 a1, .int .i64 a2] W fun e W' => e = .returned (.bool true) ∧ Below W.heap.size W W' := by
  have HC := Aside0.mk hC
  have HCC := Aside0.mk hc
  clear hC hc
  obtain ⟨n, hn, hn32⟩ := smallW a2 32 (by decide) (by decide)
  obtain ⟨pg, hpg⟩ : ∃ p, n + 1 = p := ⟨_, rfl⟩
  have HPG := Aside0.mk (show 1 ≤ pg ∧ pg ≤ 32 by omega)
  have hn2 : wrap64 (1 + (n : Int)) = (pg : Int) := by
    rw [← hpg, show (1 : Int) + (n : Int) = ((n + 1 : Nat) : Int) by omega]
    exact wrap_small _ (by omega) (by omega)
  obtain ⟨k, hk, hk2100⟩ := smallW a1 2100 (by decide) (by decide)
  have HK := Aside0.mk (show k ≤ 2100 by omega)
  clear hpg hn32 hk2100
  by_cases h1 : b.length < 1
  · have d1 : decide ((b.length : Int) < 1) = true := decide_eq_true (by omega)
    have d1n : decide (b.length < 1) = true := decide_eq_true h1
    clear h1
    go_enter Try.func6, Try.ntmps6
    go_wp2_with fail
    refine (awake4 W).mono ?_
    rintro ev w6 ⟨rfl, hb6⟩
    have HB6 := Aside0.mk hb6
    clear hb6
    go_wp2_with fail
    go_ret
    exact ⟨rfl, HB6.out⟩
  by_cases h2 : 2000 < b.length
  · have d1 : decide ((b.length : Int) < 1) = false := decide_eq_false (by omega)
    have d1n : decide (b.length < 1) = false := decide_eq_false h1
    have d2 : decide ((b.length : Int) > 2000) = true := decide_eq_true (by omega)
    have d2n : decide (2000 < b.length) = true := decide_eq_true h2
    clear h1 h2
    go_enter Try.func6, Try.ntmps6
    go_wp2_with fail
    refine (awake4 W).mono ?_
    rintro ev w6 ⟨rfl, hb6⟩
    have HB6 := Aside0.mk hb6
    clear hb6
    go_wp2_with fail
    go_ret
    exact ⟨rfl, HB6.out⟩
  have d1 : decide ((b.length : Int) < 1) = false := decide_eq_false (by omega)
  have d1n : decide (b.length < 1) = false := decide_eq_false h1
  have d2 : decide ((b.length : Int) > 2000) = false := decide_eq_false (by omega)
  have d2n : decide (2000 < b.length) = false := decide_eq_false h2
  have HBL := Aside0.mk (show 1 ≤ b.length ∧ b.length ≤ 2000 by omega)
  obtain ⟨m, hm⟩ : ∃ m, min k b.length = m := ⟨_, rfl⟩
  have hmin : (if (b.length : Int) < (k : Int) then (b.length : Int) else (k : Int)) = (m : Int) := by split <;> omega
  have HMIN := Aside0.mk hmin
  have hmin2 : (if b.length < k then (b.length : Int) else (k : Int)) = (m : Int) := by split <;> omega
  have HMIN2 := Aside0.mk hmin2
  have HML := Aside0.mk (show m ≤ b.length by omega)
  obtain ⟨tk, htk⟩ : ∃ tk, b.take m = tk := ⟨_, rfl⟩
  have HTK := Aside0.mk htk
  have HTL : Aside0 (b.take k = tk ∧ tk.length = m) := ⟨by rw [← htk]; exact take_min hm⟩
  clear h1 h2 hm htk hmin hmin2
  go_enter Try.func6, Try.ntmps6
  go_wp2_with fail
  rw [hn2]
  have hcc := newH W 2 pg none 0 [] (Kd.C_nil _ _) (by decide) (by decide) (by decide) (by decide) (by have := HPG.out; omega) (by have := HPG.out; omega)
  refine hcc.mono ?_
  clear hcc
  rintro ev w1 ⟨g, rfl, hh, hbn⟩
  obtain ⟨S0, hS0⟩ : ∃ S : Nat → Prop, (fun k => W.heap.size ≤ k ∧ k < w1.heap.size) = S := ⟨_, rfl⟩
  rw [hS0] at hh
  have HH1 := Aside0.mk hh
  have HB1 := Aside0.mk hbn
  clear hS0 hh hbn d1 d1n d2 d2n
  go_wp2_with fail
  clear hn hn2 hk
  have hcc := cutH HH1.out 0 (k : Int) (by decide) (by have := HK.out; omega)
  refine hcc.mono ?_
  clear hcc
  rintro ev w2 ⟨⟨v2, rfl⟩, hh2, hn2⟩
  have HH2 : Aside0 (Hd w2 W.heap.size S0 g (t1 pg k)) := ⟨hh2⟩
  have HB2 := Aside0.mk (HB1.out.trans (hn2.bel.mono (Nat.le_refl _)))
  clear hh2 hn2 HH1 HB1
  go_wp2_with fail
  have hcc := programH HH2.out 0 0 A c b (Kd.C_below HC.out HB2.out) HCC.out (argOk HH2.out HC.out HB2.out HBL.out.1)
  refine hcc.mono ?_
  clear hcc
  rintro ev w3 ⟨rfl, S3, hh3, hn3⟩
  rw [t2_eq pg k b HPG.out.1 HBL.out.1 HBL.out.2]
  have HH3 : Aside0 (Hd w3 W.heap.size S3 g (t2 pg k b)) := ⟨hh3⟩
  have HB3 := Aside0.mk (HB2.out.trans (hn3.bel.mono (Nat.le_refl _)))
  have T3 := Aside0.mk (t3_same pg k b HPG.out.1 HBL.out.1 HBL.out.2)
  have T4 := Aside0.mk (t4_facts pg k b HPG.out.1 HBL.out.1 HBL.out.2)
  clear hh3 hn3 HH2 HB2
  go_wp2_with fail
  refine (readH HH3.out 0 0 (by rw [T3.out.2.2]; decide)).mono ?_
  rintro ev w4 ⟨v4, rfl, hR4, hh4, hn4⟩
  rw [T3.out.2.1]
  rw [T3.out.2.2] at hR4
  obtain ⟨A4, c4, rfl, -, -⟩ := Kd.R_reads hR4
  have HH4 := Aside0.mk hh4
  have HB4 := Aside0.mk (HB3.out.trans (hn4.bel.mono (Nat.le_refl _)))
  clear hR4 hh4 hn4 HH3 HB3
  go_wp2_with fail
  refine (powerH HH4.out).mono ?_
  rintro ev w5 ⟨⟨v5, rfl⟩, hh5, hn5⟩
  have HH5 : Aside0 (Hd w5 W.heap.size S3 g (t4 pg k b)) := ⟨hh5⟩
  have HB5 := Aside0.mk (HB4.out.trans (hn5.bel.mono (Nat.le_refl _)))
  clear hh5 hn5 HH4 HB4
  go_wp2_with fail
  refine (readH HH5.out 0 0 (by rw [T4.out.2.1, List.length_take]; have := HK.out; omega)).mono ?_
  rintro ev w6 ⟨v6, rfl, hR6, hh6, hn6⟩
  rw [T4.out.1]
  rw [T4.out.2.1, HTL.out.1] at hR6
  obtain ⟨A6, c6, rfl, -, hC6⟩ := Kd.R_reads hR6
  have HC6 : Aside0 (Kd.C (Kd.int .u8) w6 A6 m tk) := ⟨by have h := hC6; rwa [HTL.out.2] at h⟩
  have HQ := Aside0.mk T4.out.2.2
  have hh6' : Hd w6 W.heap.size S3 g (t5 pg k b) := hh6
  obtain ⟨s5, hs5⟩ : ∃ s, t5 pg k b = s := ⟨_, rfl⟩
  rw [hs5] at hh6' HQ
  have HHa := Aside0.mk hh6'
  have HBa := Aside0.mk (HB5.out.trans (hn6.bel.mono (Nat.le_refl _)))
  have HCA := Aside0.mk (Kd.C_below HC.out HBa.out)
  have HCM : Aside0 (Kd.C (Kd.int .u8) w6 A m tk) := ⟨by have h := Kd.C_take (m := m) HCA.out HML.out; rwa [HTK.out, HTL.out.2] at h⟩
  rw [HTL.out.2]
  obtain ⟨p1, p2⟩ := tq_blk0 HQ.out
  have P2 := Aside0.mk p2
  have P1 := Aside0.mk p1
  obtain ⟨st, hst⟩ : ∃ s, strOfNums tk = s := ⟨_, rfl⟩
  have HST := Aside0.mk hst
  have HMC := Aside0.mk (Nat.le_trans HML.out HCC.out)
  clear hR6 hC6 hh6 hn6 HH5 HB5 hs5 hh6' T3 T4 p1 p2 hst
  go_upto_region 11 with fail
  have HH := Aside0.mk (HHa.out.below (below_drew (Below.refl _ _)))
  have HB := Aside0.mk (below_step HBa.out (below_drew (Below.refl _ _)))
  have HCD := Aside0.mk (Kd.C_drew HC6.out)
  have HCE := Aside0.mk (Kd.C_drew HCM.out)
  have hf1 := field1
  have hmc := HMC.out
  have hmin := HMIN.out
  have hmin2 := HMIN2.out
  clear HHa HBa HC6 HCM
  refine start_ (n := 28) (S := fun w' => (convert 22 9 (.slice A6 m c6)).run Try.prog w' = .ok (.string st) w' ∧ (convert 22 9 (.slice A m c)).run Try.prog w' = .ok (.string st) w') (ds := []) #[false, false, false, false, false, false, false, false, false, false, false, false, false, false, false, false, false, false, false, false, false, false, false, false, false, false, false, false] (by kernel_rfl) rfl rfl ⟨conv22 HCD.out HST.out, conv22 HCE.out HST.out⟩ (fun hHeld => ?_)
  refine with_tabW reg_Torn_11.tab reg_Torn_11.bits (fun HT_ HW_ => ?_)
  refine pure_ (i := 0) (N := (some 59)) (v := ?_) (a' := ?_) #[true, false, false, false, false, false, false, false, false, false, false, false, false, false, false, false, false, false, false, false, false, false, false, false, false, false, false, false] rfl rfl (any_of HT_.out (by kernel_rfl)) (fun _ _ _ h => h) (Or.inl ⟨by rfl, ?_⟩) ?_ ?_
  rotate_left
  · intro w'
    go_simp
    first | done | with_reducible rfl
  rotate_left
  · simp only [Act.put, List.setIfInBounds_toArray, List.set_cons_zero, List.set_cons_succ, i64_w, i32_w]
    rfl
  refine pure_ (i := 1) (N := (some 60)) (v := ?_) (a' := ?_) #[true, true, false, false, false, false, false, false, false, false, false, false, false, false, false, false, false, false, false, false, false, false, false, false, false, false, false, false] rfl rfl (any_of HT_.out (by kernel_rfl)) (fun _ _ _ h => h) (Or.inl ⟨by rfl, ?_⟩) ?_ ?_
  rotate_left
  · intro w'
    go_simp
    first | done | with_reducible rfl
  rotate_left
  · simp only [Act.put, List.setIfInBounds_toArray, List.set_cons_zero, List.set_cons_succ, i64_w, i32_w]
    rfl
  refine pure_ (i := 2) (N := (some 61)) (v := ?_) (a' := ?_) #[true, true, true, false, false, false, false, false, false, false, false, false, false, false, false, false, false, false, false, false, false, false, false, false, false, false, false, false] rfl rfl (any_of HT_.out (by kernel_rfl)) (fun _ _ _ h => h) (Or.inl ⟨by rfl, ?_⟩) ?_ ?_
  rotate_left
  · intro w'
    go_simp
    first | done | with_reducible rfl
  rotate_left
  · simp only [Act.put, List.setIfInBounds_toArray, List.set_cons_zero, List.set_cons_succ, i64_w, i32_w]
    rfl
  refine pure_ (i := 3) (N := (some 62)) (v := ?_) (a' := ?_) #[true, true, true, true, false, false, false, false, false, false, false, false, false, false, false, false, false, false, false, false, false, false, false, false, false, false, false, false] rfl rfl (any_of HT_.out (by kernel_rfl)) (fun _ _ _ h => h) (Or.inl ⟨by rfl, ?_⟩) ?_ ?_
  rotate_left
  · intro w'
    go_simp
    first | done | with_reducible rfl
  rotate_left
  · simp only [Act.put, List.setIfInBounds_toArray, List.set_cons_zero, List.set_cons_succ, i64_w, i32_w]
    rfl
  refine pure_ (i := 4) (N := (some 63)) (v := ?_) (a' := ?_) #[true, true, true, true, true, false, false, false, false, false, false, false, false, false, false, false, false, false, false, false, false, false, false, false, false, false, false, false] rfl rfl (any_of HT_.out (by kernel_rfl)) (fun _ _ _ h => h) (Or.inl ⟨by rfl, ?_⟩) ?_ ?_
  rotate_left
  · intro w'
    go_simp
    first | done | with_reducible rfl
  rotate_left
  · simp only [Act.put, List.setIfInBounds_toArray, List.set_cons_zero, List.set_cons_succ, i64_w, i32_w]
    rfl
  refine pure_ (i := 5) (N := (some 64)) (v := ?_) (a' := ?_) #[true, true, true, true, true, true, false, false, false, false, false, false, false, false, false, false, false, false, false, false, false, false, false, false, false, false, false, false] rfl rfl (any_of HT_.out (by kernel_rfl)) (fun _ _ _ h => h) (Or.inl ⟨by rfl, ?_⟩) ?_ ?_
  rotate_left
  · intro w'
    go_simp
    first | done | with_reducible rfl
  rotate_left
  · simp only [Act.put, List.setIfInBounds_toArray, List.set_cons_zero, List.set_cons_succ, i64_w, i32_w]
    rfl
  refine pure_ (i := 6) (N := (some 65)) (v := ?_) (a' := ?_) #[true, true, true, true, true, true, true, false, false, false, false, false, false, false, false, false, false, false, false, false, false, false, false, false, false, false, false, false] rfl rfl (any_of HT_.out (by kernel_rfl)) (fun _ _ _ h => h) (Or.inl ⟨by rfl, ?_⟩) ?_ ?_
  rotate_left
  · intro w'
    go_simp
    first | done | with_reducible rfl
  rotate_left
  · simp only [Act.put, List.setIfInBounds_toArray, List.set_cons_zero, List.set_cons_succ, i64_w, i32_w]
    rfl
  refine pure_ (i := 7) (N := (some 66)) (v := ?_) (a' := ?_) #[true, true, true, true, true, true, true, true, false, false, false, false, false, false, false, false, false, false, false, false, false, false, false, false, false, false, false, false] rfl rfl (any_of HT_.out (by kernel_rfl)) (fun _ _ _ h => h) (Or.inl ⟨by rfl, ?_⟩) ?_ ?_
  rotate_left
  · intro w'
    go_simp
    first | done | with_reducible rfl
  rotate_left
  · simp only [Act.put, List.setIfInBounds_toArray, List.set_cons_zero, List.set_cons_succ, i64_w, i32_w]
    rfl
  refine pure_ (i := 8) (N := (some 67)) (v := ?_) (a' := ?_) #[true, true, true, true, true, true, true, true, true, false, false, false, false, false, false, false, false, false, false, false, false, false, false, false, false, false, false, false] rfl rfl (any_of HT_.out (by kernel_rfl)) (fun _ _ _ h => h) (Or.inl ⟨by rfl, ?_⟩) ?_ ?_
  rotate_left
  · intro w'
    go_simp
    first | done | with_reducible rfl
  rotate_left
  · simp only [Act.put, List.setIfInBounds_toArray, List.set_cons_zero, List.set_cons_succ, i64_w, i32_w]
    rfl
  refine pure_ (i := 9) (N := (some 68)) (v := ?_) (a' := ?_) #[true, true, true, true, true, true, true, true, true, true, false, false, false, false, false, false, false, false, false, false, false, false, false, false, false, false, false, false] rfl rfl (any_of HT_.out (by kernel_rfl)) (fun _ _ _ h => h) (Or.inl ⟨by rfl, ?_⟩) ?_ ?_
  rotate_left
  · intro w'
    go_simp
    first | done | with_reducible rfl
  rotate_left
  · simp only [Act.put, List.setIfInBounds_toArray, List.set_cons_zero, List.set_cons_succ, i64_w, i32_w]
    rfl
  refine pure_ (i := 10) (N := (some 69)) (v := ?_) (a' := ?_) #[true, true, true, true, true, true, true, true, true, true, true, false, false, false, false, false, false, false, false, false, false, false, false, false, false, false, false, false] rfl rfl (any_of HT_.out (by kernel_rfl)) (fun _ _ _ h => h) (Or.inl ⟨by rfl, ?_⟩) ?_ ?_
  rotate_left
  · intro w'
    go_simp
    first | done | with_reducible rfl
  rotate_left
  · simp only [Act.put, List.setIfInBounds_toArray, List.set_cons_zero, List.set_cons_succ, i64_w, i32_w]
    rfl
  refine pure_ (i := 11) (N := (some 70)) (v := ?_) (a' := ?_) #[true, true, true, true, true, true, true, true, true, true, true, true, false, false, false, false, false, false, false, false, false, false, false, false, false, false, false, false] rfl rfl (any_of HT_.out (by kernel_rfl)) (fun _ _ _ h => h) (Or.inl ⟨by rfl, ?_⟩) ?_ ?_
  rotate_left
  · intro w'
    go_simp
    first | done | with_reducible rfl
  rotate_left
  · simp only [Act.put, List.setIfInBounds_toArray, List.set_cons_zero, List.set_cons_succ, i64_w, i32_w]
    rfl
  refine take_ (i := 12) (N := (some 71)) (v := ?_) (a' := ?_) #[true, true, true, true, true, true, true, true, true, true, true, true, true, false, false, false, false, false, false, false, false, false, false, false, false, false, false, false] rfl rfl (take_ofW HT_.out HW_.out (by kernel_rfl)) (fun _ _ _ h => h) (Or.inl ⟨by rfl, ?_⟩) hHeld ?_ ?_
  rotate_left
  · rintro w' ⟨s0, s1⟩
    go_simp
    first | done | with_reducible rfl
  rotate_left
  · simp only [Act.put, List.setIfInBounds_toArray, List.set_cons_zero, List.set_cons_succ, i64_w, i32_w]
    rfl
  refine pure_ (i := 13) (N := (some 72)) (v := ?_) (a' := ?_) #[true, true, true, true, true, true, true, true, true, true, true, true, true, true, false, false, false, false, false, false, false, false, false, false, false, false, false, false] rfl rfl (any_of HT_.out (by kernel_rfl)) (fun _ _ _ h => h) (Or.inl ⟨by rfl, ?_⟩) ?_ ?_
  rotate_left
  · intro w'
    go_simp
    first | done | with_reducible rfl
  rotate_left
  · simp only [Act.put, List.setIfInBounds_toArray, List.set_cons_zero, List.set_cons_succ, i64_w, i32_w]
    rfl
  refine pure_ (i := 14) (N := (some 73)) (v := ?_) (a' := ?_) #[true, true, true, true, true, true, true, true, true, true, true, true, true, true, true, false, false, false, false, false, false, false, false, false, false, false, false, false] rfl rfl (any_of HT_.out (by kernel_rfl)) (fun _ _ _ h => h) (Or.inl ⟨by rfl, ?_⟩) ?_ ?_
  rotate_left
  · intro w'
    go_simp
    first | done | with_reducible rfl
  rotate_left
  · simp only [Act.put, List.setIfInBounds_toArray, List.set_cons_zero, List.set_cons_succ, i64_w, i32_w]
    rfl
  refine pure_ (i := 15) (N := (some 74)) (v := ?_) (a' := ?_) #[true, true, true, true, true, true, true, true, true, true, true, true, true, true, true, true, false, false, false, false, false, false, false, false, false, false, false, false] rfl rfl (any_of HT_.out (by kernel_rfl)) (fun _ _ _ h => h) (Or.inl ⟨by rfl, ?_⟩) ?_ ?_
  rotate_left
  · intro w'
    go_simp
    first | done | with_reducible rfl
  rotate_left
  · simp only [Act.put, List.setIfInBounds_toArray, List.set_cons_zero, List.set_cons_succ, i64_w, i32_w]
    rfl
  refine pure_ (i := 16) (N := (some 75)) (v := ?_) (a' := ?_) #[true, true, true, true, true, true, true, true, true, true, true, true, true, true, true, true, true, false, false, false, false, false, false, false, false, false, false, false] rfl rfl (any_of HT_.out (by kernel_rfl)) (fun _ _ _ h => h) (Or.inl ⟨by rfl, ?_⟩) ?_ ?_
  rotate_left
  · intro w'
    go_simp
    first | done | with_reducible rfl
  rotate_left
  · simp only [Act.put, List.setIfInBounds_toArray, List.set_cons_zero, List.set_cons_succ, i64_w, i32_w]
    rfl
  refine pure_ (i := 17) (N := (some 76)) (v := ?_) (a' := ?_) #[true, true, true, true, true, true, true, true, true, true, true, true, true, true, true, true, true, true, false, false, false, false, false, false, false, false, false, false] rfl rfl (any_of HT_.out (by kernel_rfl)) (fun _ _ _ h => h) (Or.inl ⟨by rfl, ?_⟩) ?_ ?_
  rotate_left
  · intro w'
    go_simp
    first | done | with_reducible rfl
  rotate_left
  · simp only [Act.put, List.setIfInBounds_toArray, List.set_cons_zero, List.set_cons_succ, i64_w, i32_w]
    rfl
  refine pure_ (i := 18) (N := (some 77)) (v := ?_) (a' := ?_) #[true, true, true, true, true, true, true, true, true, true, true, true, true, true, true, true, true, true, true, false, false, false, false, false, false, false, false, false] rfl rfl (any_of HT_.out (by kernel_rfl)) (fun _ _ _ h => h) (Or.inl ⟨by rfl, ?_⟩) ?_ ?_
  rotate_left
  · intro w'
    go_simp
    first | done | with_reducible rfl
  rotate_left
  · simp only [Act.put, List.setIfInBounds_toArray, List.set_cons_zero, List.set_cons_succ, i64_w, i32_w]
    rfl
  refine take_ (i := 19) (N := (some 78)) (v := ?_) (a' := ?_) #[true, true, true, true, true, true, true, true, true, true, true, true, true, true, true, true, true, true, true, true, false, false, false, false, false, false, false, false] rfl rfl (take_ofW HT_.out HW_.out (by kernel_rfl)) (fun _ _ _ h => h) (Or.inl ⟨by rfl, ?_⟩) hHeld ?_ ?_
  rotate_left
  · rintro w' ⟨s0, s1⟩
    go_simp
    first | done | with_reducible rfl
  rotate_left
  · simp only [Act.put, List.setIfInBounds_toArray, List.set_cons_zero, List.set_cons_succ, i64_w, i32_w]
    rfl
  refine pure_ (i := 20) (N := (some 79)) (v := ?_) (a' := ?_) #[true, true, true, true, true, true, true, true, true, true, true, true, true, true, true, true, true, true, true, true, true, false, false, false, false, false, false, false] rfl rfl (any_of HT_.out (by kernel_rfl)) (fun _ _ _ h => h) (Or.inl ⟨by rfl, ?_⟩) ?_ ?_
  rotate_left
  · intro w'
    go_simp
    first | done | with_reducible rfl
  rotate_left
  · simp only [Act.put, List.setIfInBounds_toArray, List.set_cons_zero, List.set_cons_succ, i64_w, i32_w]
    rfl
  refine pure_ (i := 21) (N := (some 80)) (v := ?_) (a' := ?_) #[true, true, true, true, true, true, true, true, true, true, true, true, true, true, true, true, true, true, true, true, true, true, false, false, false, false, false, false] rfl rfl (any_of HT_.out (by kernel_rfl)) (fun _ _ _ h => h) (Or.inl ⟨by rfl, ?_⟩) ?_ ?_
  rotate_left
  · intro w'
    go_simp
    first | done | with_reducible rfl
  rotate_left
  · simp only [Act.put, List.setIfInBounds_toArray, List.set_cons_zero, List.set_cons_succ, i64_w, i32_w]
    rfl
  refine pure_ (i := 22) (N := (some 81)) (v := ?_) (a' := ?_) #[true, true, true, true, true, true, true, true, true, true, true, true, true, true, true, true, true, true, true, true, true, true, true, false, false, false, false, false] rfl rfl (any_of HT_.out (by kernel_rfl)) (fun _ _ _ h => h) (Or.inl ⟨by rfl, ?_⟩) ?_ ?_
  rotate_left
  · intro w'
    go_simp
    first | done | with_reducible rfl
  rotate_left
  · simp only [Act.put, List.setIfInBounds_toArray, List.set_cons_zero, List.set_cons_succ, i64_w, i32_w]
    rfl
  refine pure_ (i := 23) (N := (some 82)) (v := ?_) (a' := ?_) #[true, true, true, true, true, true, true, true, true, true, true, true, true, true, true, true, true, true, true, true, true, true, true, true, false, false, false, false] rfl rfl (any_of HT_.out (by kernel_rfl)) (fun _ _ _ h => h) (Or.inl ⟨by rfl, ?_⟩) ?_ ?_
  rotate_left
  · intro w'
    go_simp
    first | done | with_reducible rfl
  rotate_left
  · simp only [Act.put, List.setIfInBounds_toArray, List.set_cons_zero, List.set_cons_succ, i64_w, i32_w]
    rfl
  refine one_ (i := 24) (N := (some 83)) #[true, true, true, true, true, true, true, true, true, true, true, true, true, true, true, true, true, true, true, true, true, true, true, true, true, false, false, false] rfl rfl (one_of HT_.out (by kernel_rfl)) (by decide) (fun K hK => ?_)
  refine goes_ Try.func16 (by kernel_rfl) rfl #[.pointer (some ⟨g, 0, none⟩), .int .i64 0] (by rfl) rfl rfl (by (try simp only [List.map_toArray, List.map_cons, List.map_nil]); first | done | rfl) ?_
  with_reducible refine (blockH HH.out 0 P2.out).mono ?_
  rintro ev_ w7 ⟨v7, rfl, ⟨pv7, rfl, A7, c7, rfl, -, -⟩, hh7, hb7⟩
  refine ⟨_, rfl, ?_⟩
  rw [P1.out]
  have HH7 := Aside0.mk hh7
  have HB7 := Aside0.mk (below_step HB.out hb7)
  have HCD7 := Aside0.mk (Kd.C_below HCD.out hb7)
  have HCE7 := Aside0.mk (Kd.C_below HCE.out hb7)
  clear hh7 hb7 HH HB HCD HCE
  refine hK.out _ _ ⟨conv22 HCD7.out HST.out, conv22 HCE7.out HST.out⟩ (fun hHeld => ?_)
  clear hK K
  refine norm_ (a' := ?_) ?_ ?_
  rotate_left
  · show Act.put _ (some 83) _ = _
    simp only [Act.put, List.setIfInBounds_toArray, List.set_cons_zero, List.set_cons_succ, i64_w, i32_w]
    rfl
  refine pure_ (i := 25) (N := (some 84)) (v := ?_) (a' := ?_) #[true, true, true, true, true, true, true, true, true, true, true, true, true, true, true, true, true, true, true, true, true, true, true, true, true, true, false, false] rfl rfl (any_of HT_.out (by kernel_rfl)) (fun _ _ _ h => h) (Or.inl ⟨by rfl, ?_⟩) ?_ ?_
  rotate_left
  · intro w'
    go_simp
    first | done | with_reducible rfl
  rotate_left
  · simp only [Act.put, List.setIfInBounds_toArray, List.set_cons_zero, List.set_cons_succ, i64_w, i32_w]
    rfl
  refine pure_ (i := 26) (N := (some 85)) (v := ?_) (a' := ?_) #[true, true, true, true, true, true, true, true, true, true, true, true, true, true, true, true, true, true, true, true, true, true, true, true, true, true, true, false] rfl rfl (any_of HT_.out (by kernel_rfl)) (fun _ _ _ h => h) (Or.inl ⟨by rfl, ?_⟩) ?_ ?_
  rotate_left
  · intro w'
    go_simp
    first | done | with_reducible rfl
  rotate_left
  · simp only [Act.put, List.setIfInBounds_toArray, List.set_cons_zero, List.set_cons_succ, i64_w, i32_w]
    rfl
  refine pure_ (i := 27) (N := (some 86)) (v := ?_) (a' := ?_) #[true, true, true, true, true, true, true, true, true, true, true, true, true, true, true, true, true, true, true, true, true, true, true, true, true, true, true, true] rfl rfl (any_of HT_.out (by kernel_rfl)) (fun _ _ _ h => h) (Or.inl ⟨by rfl, ?_⟩) ?_ ?_
  rotate_left
  · intro w'
    go_simp
    first | done | with_reducible rfl
  rotate_left
  · simp only [Act.put, List.setIfInBounds_toArray, List.set_cons_zero, List.set_cons_succ, i64_w, i32_w]
    rfl
  refine done_ (done_of HT_.out (by kernel_rfl)) ?_
  clear hHeld HT_ HW_ HCD7 HCE7 hmc hmin hmin2
  go_wp2_with fail
  go_loopw [88] (fun v88 wr => ∃ (i : Nat) (s : Chp) (S : Nat → Prop), i ≤ pg ∧ v88 = .int .i64 (i : Int) ∧ Aside0 (TQ s pg i) ∧ Aside0 (Hd wr W.heap.size S g s) ∧ Aside0 (Below W.heap.size W wr)) (fun v88 _ => pg - (intOf v88).toNat)
  case atStart => exact ⟨0, s5, S3, Nat.zero_le _, rfl, HQ, HH7, HB7⟩
  case round =>
    clear HQ HH7 HB7 S3 P1 P2 HST HMC
    obtain ⟨i, s, S, hi, rfl, HQ, HH, HB⟩ := hrel
    by_cases hlt : i < pg
    · have hlt2 : (i : Int) < (pg : Int) := by omega
      have HLT := Aside0.mk hlt
      have hw2 : wrap64 ((i : Int) + 1) = ((i + 1 : Nat) : Int) := by rw [show (i : Int) + 1 = ((i + 1 : Nat) : Int) by omega]; exact wrap_small _ (by omega) (by have := HPG.out; omega)
      clear hlt hi
      go_wp2_with fail
      have hcc := programH (HH.out.below (below_alloc (Below.refl _ wr) (.cells #[.int .u8 7] 5))) 1 (i : Int) (some ⟨wr.heap.size, 0, none⟩) 1 [7] (C_lit (blk_new wr _) rfl (by simp)) (by simp) (fun ad hA => by
        cases hA
        exact ⟨by simp, fun hs => Nat.lt_irrefl _ (HH.out.lt _ hs)⟩)
      refine hcc.mono ?_
      clear hcc
      rintro ev w3 ⟨rfl, S3, hh3, hn3⟩
      obtain ⟨q1, q2⟩ := tq_prog HQ.out HLT.out (by have := HPG.out; omega)
      rw [q1]
      have HH3 := Aside0.mk hh3
      have HQ3 := Aside0.mk q2
      have HB3 := Aside0.mk ((below_step HB.out (below_alloc (Below.refl _ wr) (.cells #[.int .u8 7] 5))).trans (hn3.bel.mono (Nat.le_refl _)))
      clear hh3 hn3 HH HB HQ q1 q2
      go_wp2_with fail
      go_roundw
      case measure =>
        have hm : pg - ((i + 1 : Nat) : Int).toNat < pg - ((i : Nat) : Int).toNat := by
          rw [Int.toNat_natCast, Int.toNat_natCast]
          exact Nat.sub_lt_sub_left HLT.out (Nat.lt_succ_self i)
        first | exact hm | (rw [hw2]; exact hm)
      case rel => exact ⟨i + 1, _, S3, HLT.out, by first | rw [hw2] | rfl, HQ3, HH3, HB3⟩
    · have he : i = pg := by omega
      subst he
      have hnn : ¬ ((i : Int) < (i : Int)) := by omega
      clear hlt hi
      go_wp2_with fail
      refine (cutH HH.out 0 (k : Int) (by decide) (by have := HK.out; omega)).mono ?_
      rintro ev w2 ⟨⟨v2, rfl⟩, hh2, hn2⟩
      have HH2 := Aside0.mk hh2
      have HB2 := Aside0.mk (HB.out.trans (hn2.bel.mono (Nat.le_refl _)))
      clear hh2 hn2 HH HB
      obtain ⟨q1, q2⟩ := tq_end (k := k) HQ.out (by have := HPG.out; omega)
      have Q1 := Aside0.mk q1
      have Q2 := Aside0.mk q2
      clear q1 q2
      go_wp2_with fail
      refine (eraseH HH2.out 1).mono ?_
      rintro ev w3 ⟨rfl, hh3, hn3⟩
      rw [Q1.out]
      have HH3 := Aside0.mk hh3
      have HB3 := Aside0.mk (HB2.out.trans (hn3.bel.mono (Nat.le_refl _)))
      clear hh3 hn3 HH2 HB2 Q1
      go_wp2_with fail
      refine (powerH HH3.out).mono ?_
      rintro ev w4 ⟨⟨v4, rfl⟩, hh4, hn4⟩
      have HH4 := Aside0.mk hh4
      have HB4 := Aside0.mk (HB3.out.trans (hn4.bel.mono (Nat.le_refl _)))
      clear hh4 hn4 HH3 HB3
      obtain ⟨y, hy⟩ : ∃ y, blockB (powerS (eraseS (cutS s 0 (k : Int)) 1).1) 1 = y := ⟨_, rfl⟩
      rw [hy] at Q2
      go_wp2_with fail
      refine (blockH HH4.out 1 (by rw [hy]; exact ty_len Q2.out)).mono ?_
      rintro ev w5 ⟨v5, rfl, hv5, -, hb5⟩
      rw [hy] at hv5
      obtain ⟨pv, rfl, A5, c5, rfl, hle5, hpg5⟩ := hv5
      obtain ⟨y1, y2, y3, y4⟩ := Q2.out
      rw [y1, y2, y3]
      have HPGS := Aside0.mk hpg5
      have HB5 := Aside0.mk (below_step HB4.out hb5)
      have Y4 := Aside0.mk y4
      clear hb5 HH4 HB4 hy y1 y2 y3 y4 hpg5
      obtain ⟨nx, hnx⟩ : ∃ x : Int, (if k < i then (i : Int) else 0) = x := ⟨_, rfl⟩
      obtain ⟨z, z1, z2, z3, z4⟩ : ∃ z : Bool, decide (nx = 0) = z ∧ (nx == 0) = z ∧ decide ((k : Int) ≥ (i : Int)) = z ∧ decide (i ≤ k) = z := by
        have h1 := HPG.out
        by_cases h : k < i
        · rw [if_pos h] at hnx
          exact ⟨false, decide_eq_false (by omega), beq_eq_false_iff_ne.2 (by omega), decide_eq_false (by omega), decide_eq_false (by omega)⟩
        · rw [if_neg h] at hnx
          exact ⟨true, decide_eq_true (by omega), beq_iff_eq.2 (by omega), decide_eq_true (by omega), decide_eq_true (by omega)⟩
      rw [hnx]
      clear hnx
      go_wp2_with fail
      obtain ⟨w6, hw6⟩ : ∃ w6, w5.alloc (.cells #[.bool y.bad, .int .i64 nx, .int .i64 1, .slice A5 i c5] 36) = w6 := ⟨_, rfl⟩
      have hb6 : Below w5.heap.size w5 w6 := by rw [← hw6]; exact below_alloc (Below.refl _ _) _
      rw [hw6]
      have HB6 := Aside0.mk (below_step HB5.out hb6)
      have HPG6 : Aside0 (∀ j, j < i → ∃ ad Ax cx, A5 = some ad ∧ w6.cell? (ad.add j) = some (.slice Ax (if j < k then [] else [(7 : Int)]).length cx)) := ⟨fun j hj => by
        obtain ⟨ad, v, q1, -, q3, q4⟩ := HPGS.out j _ (Y4.out j hj)
        obtain ⟨Ax, cx, rfl, -, -⟩ := Kd.R_reads q4
        exact ⟨ad, Ax, cx, q1, pw_cell_below hb6 q3⟩⟩
      clear hw6 hb6 HB5 HPGS Y4 z1 z2 z3 z4
      go_loopw [133] (fun v133 wr => ∃ (j : Nat), j ≤ i ∧ v133 = .int .i64 (j : Int) ∧ wr = w6) (fun v133 _ => i - (intOf v133).toNat)
      case atStart => exact ⟨0, Nat.zero_le _, rfl, rfl⟩
      case round =>
        obtain ⟨j, hj, rfl, hwr⟩ := hrel
        rw [hwr]
        clear hwr
        by_cases hlt : j < i
        · have hlt2 : (j : Int) < (i : Int) := by omega
          have HLT := Aside0.mk hlt
          have hw2 : wrap64 ((j : Int) + 1) = ((j + 1 : Nat) : Int) := by rw [show (j : Int) + 1 = ((j + 1 : Nat) : Int) by omega]; exact wrap_small _ (by omega) (by have := HPG.out; omega)
          obtain ⟨ad, Ax, cx, rfl, hx⟩ := HPG6.out j hlt
          clear hlt hj
          by_cases hjk : j < k
          · rw [if_pos hjk] at hx
            have e1 : decide ((j : Int) < (k : Int)) = true := decide_eq_true (by omega)
            have e2 : decide (j < k) = true := decide_eq_true hjk
            clear hjk
            go_wp2_with fail
            go_roundw
            case measure =>
              have hm : i - ((j + 1 : Nat) : Int).toNat < i - ((j : Nat) : Int).toNat := by
                rw [Int.toNat_natCast, Int.toNat_natCast]
                exact Nat.sub_lt_sub_left HLT.out (Nat.lt_succ_self j)
              first | exact hm | (rw [hw2]; exact hm)
            case rel => exact ⟨j + 1, HLT.out, by first | rw [hw2] | rfl, by first | rfl | trivial⟩
          · rw [if_neg hjk] at hx
            have e1 : decide ((j : Int) < (k : Int)) = false := decide_eq_false (by omega)
            have e2 : decide (j < k) = false := decide_eq_false hjk
            clear hjk
            go_wp2_with fail
            go_roundw
            case measure =>
              have hm : i - ((j + 1 : Nat) : Int).toNat < i - ((j : Nat) : Int).toNat := by
                rw [Int.toNat_natCast, Int.toNat_natCast]
                exact Nat.sub_lt_sub_left HLT.out (Nat.lt_succ_self j)
              first | exact hm | (rw [hw2]; exact hm)
            case rel => exact ⟨j + 1, HLT.out, by first | rw [hw2] | rfl, by first | rfl | trivial⟩
        · have he : j = i := by omega
          subst he
          have hnj : ¬ ((j : Int) < (j : Int)) := by omega
          clear hlt hj
          go_wp2_with fail
          refine (awake4 w6).mono ?_
          rintro ev w8 ⟨rfl, hb8⟩
          have HB8 := Aside0.mk (below_step HB6.out hb8)
          clear hb8
          go_wp2_with fail
          go_ret
          exact ⟨rfl, HB8.out⟩
theorem tornFinal (W : World) (A0 : Option Addr) (c0 : Nat) (l0 : List Int) (hc0 : l0.length ≤ c0) (hr0 : Kd.C (Kd.int .u8) W A0 l0.length l0) (hm0 : l0.length ≤ maxLen) (hok0 : ∀ x ∈ l0, (Lit.int .u8 x).wf = true) (a1 : Int) (w1 : (Lit.int .i64 a1).wf = true) (a2 : Int) (w2 : (Lit.int .i64 a2).wf = true) :
    Calls Try.prog 6 #[.slice A0 l0.length c0, .int .i64 a1, .int .i64 a2] W fun e W' => e = .returned (.bool true) ∧ Below W.heap.size W W' := torn W A0 c0 l0 hc0 hr0 a1 a2
end Go.Proofs.Ytloldgiggnhemaa.Cm
