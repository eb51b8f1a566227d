import Derived.Test.YtkncmbbkehnagaaZb10
import Derived.Test.YtkncmbbkehnagaaZb6
set_option linter.unusedVariables false
set_option linter.unusedSimpArgs false
/-! MountTorn. -/
namespace Go.Proofs.Ytkncmbbkehnagaa.Cm
open Go.RowKit Go.Proofs.YtkncmbbkehnagaaW.PrintWords Go.Proofs.YtkncmbbkehnagaaW.PrintLast Go.Proofs.YtkncmbbkehnagaaW.PrintMore Go.Proofs.Ytkncmbbkehnagaa.Kp Go.Proofs.Ytkncmbbkehnagaa.Cp Go.Proofs.Ytkncmbbkehnagaa.PAll Go.Proofs.Ytkncmbbkehnagaa.Iter Go.Proofs.Ytkncmbbkehnagaa.St Go.Proofs.Ytkncmbbkehnagaa.Sp Go.Proofs.Ytkncmbbkehnagaa.Pl1 Go.Proofs.Ytkncmbbkehnagaa.Pl2
attribute [local go_sem] max2_int min2_int max_two min_two max_three min_three max_four min_four

theorem agg28 {x : S28} {w : World} {cs : Array Value} (h : k28.K w x cs.toList) : ∃ A c, cs = #[.int .i64 x.f0, .int .i64 x.f1, .slice A x.f2.length c] ∧ x.f2.length ≤ c ∧ Kd.C (Kd.int .u8) w A x.f2.length x.f2 := by
  obtain ⟨l1, l2, e, rfl, l3, l4, e2, rfl, A, c, rfl, hc, hr⟩ := h
  exact ⟨A, c, Array.toList_inj.1 (by simpa using e.trans (by rw [e2]; rfl)), hc, hr⟩
theorem u8wf {l : List Int} (h : ∀ x ∈ l, (Lit.int .u8 x).wf = true) : Bytes l := Go.Proofs.Ytkncmbbkehnagaa.Bd.bytes_of h
theorem ref_bytes {x : S28} (h : mayB x.f0 x.f1 x.f2 = true) : ∃ k, potsherdref3_MaySheet.f k x.f0 x.f1 x.f2 = some true ∧ potsherdref3_SheetBytes.f k x.f0 x.f1 x.f2 = some (laidL x.f0 x.f1 x.f2, 0) := by
  obtain ⟨k1, e1⟩ := refMay_ev x.f0 x.f1 x.f2
  obtain ⟨k2, e2⟩ := refBytes_ev x.f0 x.f1 x.f2
  unfold bytesL at e2
  rw [h] at e1
  rw [if_pos h] at e2
  exact ⟨k1 + k2, e1 _ (by omega), e2 _ (by omega)⟩
theorem lay_fine {x : S28} (hb : Bytes x.f2) (h : mayB x.f0 x.f1 x.f2 = true) : Bytes (laidL x.f0 x.f1 x.f2) ∧ 1 ≤ (laidL x.f0 x.f1 x.f2).length ∧ (laidL x.f0 x.f1 x.f2).length ≤ 2000 := by
  obtain ⟨h1, h2, h3, h4, h5, h6⟩ := mayB_iff.1 h
  refine ⟨Go.Proofs.Ytkncmbbkehnagaa.Bd.laid_bytes hb (by omega), ?_, h6⟩
  unfold laidL
  simp only [List.length_append, List.length_singleton]
  omega
/-- The chip on which a page was torn. -/
def tnL (y : List Int) : List (List (List Int)) := [[], [y]]
theorem tnL_eq (y : List Int) : (List.replicate 2 ([] : List (List Int))).set 1 ([] ++ [y]) = tnL y := rfl
theorem tn_ok {y : List Int} (h : Bytes y) (hl : y.length ≤ 2000) : OkL 2 (tnL y) := by
  intro B hB
  rcases List.mem_cons.1 hB with rfl | hB
  · exact ⟨by decide, fun x hx => by cases hx⟩
  · obtain rfl := List.mem_singleton.1 hB
    refine ⟨by simp, fun x hx => ?_⟩
    obtain rfl := List.mem_singleton.1 hx
    exact ⟨h, hl⟩
theorem tn_F (y : List Int) : (List.range (tnL y).length).flatMap (fun i => blkF 2 i ((tnL y).getD i [])) = (shOf y).map (asF 1 0) := by
  show blkF 2 0 [] ++ (blkF 2 1 [y] ++ []) = _
  rw [blkF_nil]
  show [] ++ (((shOf y).map (asF 1 0) ++ ((shOf []).map (asF 1 1) ++ [])) ++ []) = _
  rw [shOf_nil]
  simp
theorem tn_N (y : List Int) : (tnL y).flatMap (blkN 2) = shOf y := by
  show blkN 2 [] ++ (blkN 2 [y] ++ []) = _
  rw [blkN_nil]
  show [] ++ ((shOf y ++ (shOf [] ++ [])) ++ []) = _
  rw [shOf_nil]
  simp
theorem sh_part {x : S28} (hb : Bytes x.f2) (h : mayB x.f0 x.f1 x.f2 = true) {k : Nat} (hk : k < (laidL x.f0 x.f1 x.f2).length) : shOf ((laidL x.f0 x.f1 x.f2).take k) = [] := by
  unfold shOf
  rw [parse_take hb (lay_fine hb h).1 h hk]
  rfl
theorem sh_whole {x : S28} (h : mayB x.f0 x.f1 x.f2 = true) {k : Nat} (hk : (laidL x.f0 x.f1 x.f2).length ≤ k) : shOf ((laidL x.f0 x.f1 x.f2).take k) = [x] := by
  rw [List.take_of_length_le hk, shOf_laid h]
theorem root_one {x : S28} (h : mayB x.f0 x.f1 x.f2 = true) : rootL [x] = if x.f0 = 0 then x else ⟨0, 0, []⟩ := by
  obtain ⟨h1, h2, h3, h4, h5, h6⟩ := mayB_iff.1 h
  show (if rootB ⟨0, 0, []⟩ x = true then x else ⟨0, 0, []⟩) = _
  unfold rootB
  by_cases e : x.f0 = 0
  · rw [if_pos e, if_pos (by simp [e]; omega)]
  · rw [if_neg e, if_neg (by simp [e])]
set_option maxHeartbeats 4000000 in
set_option maxRecDepth 100000 in
/-- Heavy, or not to be laid. -/
theorem tornNot {W : World} {x : S28} {A : Option Addr} {c : Nat} (a1 : Int) (hz : x.f2.length ≤ c) (hC : Kd.C (Kd.int .u8) W A x.f2.length x.f2) (h : 100 < x.f2.length ∨ (x.f2.length ≤ 100 ∧ mayB x.f0 x.f1 x.f2 = false)) : Calls Try.prog 7 #[.agg #[.int .i64 x.f0, .int .i64 x.f1, .slice A x.f2.length c], .int .i64 a1] W fun e w' => e = .returned (.bool true) ∧ Below W.heap.size W w' := by
  obtain ⟨p, q, d⟩ := x
  simp only at hz hC h ⊢
  have HC := Aside0.mk hC
  have HZ := Aside0.mk hz
  clear hC
  obtain ⟨kk, hkk⟩ := (refMay_ev p q d).rounds
  have HKK := Aside0.mk hkk
  clear hkk
  obtain ⟨sb, hsb⟩ : ∃ sb, W.heap.size = sb := ⟨_, rfl⟩
  obtain ⟨w1, hw1⟩ : ∃ w1, W.alloc (.cells #[.int .i64 p, .int .i64 q, .slice A d.length c] 28) = w1 := ⟨_, rfl⟩
  have hb1 : Below W.heap.size W w1 := by rw [← hw1]; exact below_alloc (Below.refl _ _) _
  have HX1 : Aside0 (w1.heap[sb]? = some (.cells #[.int .i64 p, .int .i64 q, .slice A d.length c] 28 (0, 0))) := ⟨by rw [← hw1, ← hsb]; exact blk_new W _⟩
  have HB1 := Aside0.mk hb1
  rw [hsb] at hb1
  clear hb1
  go_enter Try.func7, Try.ntmps7
  go_upto_region 1 with fail
  clear hw1
  obtain ⟨q0, q1, q2, q3, q4, q5⟩ := Parse.three HX1.out
  rcases h with h | ⟨h, hm⟩
  · have d1 : decide ((100 : Int) < d.length) = true := decide_eq_true (by omega)
    go_wp2_with fail
    refine (awake11 w1).mono ?_
    rintro ev w2 ⟨rfl, hb⟩
    have hbb := below_step HB1.out hb
    clear q0 q1 q2 q3 q4 q5
    go_wp2_with fail
    go_ret
    exact ⟨rfl, hbb⟩
  · have d1 : decide ((100 : Int) < d.length) = false := decide_eq_false (by omega)
    go_wp2_with fail
    refine (potsherdref3_MaySheet.calls kk p q A c d false w1 (Kd.C_below HC.out HB1.out) HZ.out (by rw [HKK.out, hm])).mono ?_
    rintro ev w2 ⟨rfl, hb⟩
    have hbb := below_step HB1.out hb
    clear q0 q1 q2 q3 q4 q5
    go_wp2_with fail
    refine (awake11 w2).mono ?_
    rintro ev w3 ⟨rfl, hb⟩
    have hbb := below_step hbb hb
    go_wp2_with fail
    go_ret
    exact ⟨rfl, hbb⟩
def reg_LwTorn_16.T : Bool × List (List Nat × List Nat) := (true, [([], []), ([0], [0]), ([1], [1]), ([2], [2]), ([2, 3], [2, 3]), ([4, 2], [4]), ([5], [5]), ([6, 5], [5, 6]), ([5, 7], [5, 7]), ([8, 5], [8]), ([9], [9]), ([10, 9], [9, 10]), ([9], [9]), ([11, 12, 9], [9, 11, 12]), ([9, 13], [9, 13]), ([14, 9], [14]), ([15], [15]), ([15], [15]), ([17, 15], [15, 17]), ([18, 15, 15], [15, 18]), ([19], [19]), ([20, 19], [19, 20]), ([21, 19], [19, 21]), ([19, 22, 15], [15, 19, 22]), ([16, 23, 15], [15, 16, 23]), ([15, 24], [15, 24]), ([25, 19], [25]), ([26], [26]), ([27, 26, 26], [26, 27]), ([26], [26]), ([29, 26], [26, 29]), ([28, 30, 26], [26, 28, 30]), ([26], [26]), ([32, 26], [26, 32]), ([31, 33, 26], [26, 31, 33]), ([26, 34], [26, 34]), ([35, 28], [35]), ([36, 36], [36]), ([36, 37], [36, 37]), ([38, 37, 0, 1, 2, 3, 4, 5, 6, 7, 8, 9, 10, 11, 12, 13, 14, 15, 16, 17, 18, 19, 20, 21, 22, 23, 24, 25, 26, 27, 28, 29, 30, 31, 32, 33, 34, 35, 36, 37, 38], [38])])
def reg_LwTorn_16.B : List Nat := [0, 1, 3, 7, 15, 31, 63, 127, 255, 511, 1023, 2047, 1023, 8191, 16383, 32767, 65535, 65535, 196607, 458751, 983039, 2031615, 4128767, 8323071, 16777215, 33554431, 67108863, 134217727, 268435455, 134217727, 671088639, 2147483647, 134217727, 4429185023, 17179869183, 34359738367, 68719476735, 137438953471, 274877906943, 549755813887]
theorem reg_LwTorn_16.tab : rtab .any (opsOf Try.f7 16) = reg_LwTorn_16.T := by kernel_rfl
theorem reg_LwTorn_16.bits : waitsOk reg_LwTorn_16.T.2 reg_LwTorn_16.B = true := by kernel_rfl
set_option maxHeartbeats 4000000 in
set_option maxRecDepth 100000 in
theorem tornA {W : World} {x : S28} {A : Option Addr} {c : Nat} (a1 : Int) (hz : x.f2.length ≤ c) (hC : Kd.C (Kd.int .u8) W A x.f2.length x.f2) (hb : Bytes x.f2) (h100 : x.f2.length ≤ 100) (hm : mayB x.f0 x.f1 x.f2 = true) (k : Nat) (hk : wrap64 (Int.tmod (IntKind.u64.wrap a1) (((laidL x.f0 x.f1 x.f2).length : Int) + 3)) = (k : Int)) (hk2 : k < (laidL x.f0 x.f1 x.f2).length + 3) (hw : (laidL x.f0 x.f1 x.f2).length ≤ k) (hp : x.f0 = 0) :
    Calls Try.prog 7 #[.agg #[.int .i64 x.f0, .int .i64 x.f1, .slice A x.f2.length c], .int .i64 a1] W fun e w' => e = .returned (.bool true) ∧ Below W.heap.size W w' := by
  obtain ⟨p, q, d⟩ := x
  simp only at hz hC hb h100 hm hk hk2 hw hp ⊢
  subst hp
  obtain ⟨kk, hk1, hk3⟩ := ref_bytes (x := ⟨0, q, d⟩) hm
  have hrt := root_one (x := ⟨0, q, d⟩) hm
  have HSH := Aside0.mk (sh_whole (x := ⟨0, q, d⟩) hm hw)
  have hfine := lay_fine (x := ⟨0, q, d⟩) hb hm
  have hq := (mayB_iff.1 hm).2.2.1
  simp only at hk1 hk3 HSH hfine hrt
  obtain ⟨L, hL⟩ : ∃ L, laidL 0 q d = L := ⟨_, rfl⟩
  rw [hL] at hk hk2 hk3 hw HSH hfine
  have HKL := Aside0.mk hk
  clear hk
  have HC := Aside0.mk hC
  have HZ := Aside0.mk hz
  have HK1 := Aside0.mk hk1
  have HK3 := Aside0.mk hk3
  have HF := Aside0.mk hfine
  have HM := Aside0.mk hm
  have HQ := Aside0.mk hq
  have d1 : decide ((100 : Int) < d.length) = false := decide_eq_false (by omega)
  have dw : decide ((L.length : Int) ≤ k) = true := decide_eq_true (by omega)
  have dw2 : decide (L.length ≤ k) = true := decide_eq_true (by omega)
  have hmq : mostQ (List.map (asF 1 0) [(⟨0, q, d⟩ : S28)]) = q := by show (if (0 : Int) < q then q else 0) = q; rw [if_pos (by omega)]
  have hrt2 : rootL [(⟨0, q, d⟩ : S28)] = ⟨0, q, d⟩ := by rw [hrt, if_pos trivial]
  have dq : decide ((0 : Int) < q) = true := decide_eq_true (by omega)
  have hlen0 : ((L.length : Int) + 3 == 0) = false := by rw [beq_eq_false_iff_ne]; omega
  have HW := Aside0.mk hw
  have HK2 := Aside0.mk hk2
  clear hC hz hk1 hk3 hfine hm hb hq hL hrt hw hk2
  obtain ⟨sb, hsb⟩ : ∃ sb, W.heap.size = sb := ⟨_, rfl⟩
  obtain ⟨w1, hw1⟩ : ∃ w1, W.alloc (.cells #[.int .i64 0, .int .i64 q, .slice A d.length c] 28) = w1 := ⟨_, rfl⟩
  have HB1 : Aside0 (Below W.heap.size W w1) := ⟨by rw [← hw1]; exact below_alloc (Below.refl _ _) _⟩
  have HX1 : Aside0 (w1.heap[sb]? = some (.cells #[.int .i64 0, .int .i64 q, .slice A d.length c] 28 (0, 0))) := ⟨by rw [← hw1, ← hsb]; exact blk_new W _⟩
  go_enter Try.func7, Try.ntmps7
  go_upto_region 1 with fail
  clear hw1
  obtain ⟨q0, q1, q2, q3, q4, q5⟩ := Parse.three HX1.out
  go_wp2_with fail
  refine (potsherdref3_MaySheet.calls kk 0 q A c d true w1 (Kd.C_below HC.out HB1.out) HZ.out HK1.out).mono ?_
  rintro ev w2 ⟨rfl, hb⟩
  have HB2 := Aside0.mk (below_step HB1.out hb)
  have HX2 := Aside0.mk (blk_below HX1.out hb)
  clear q0 q1 q2 q3 q4 q5 hb HB1 HX1
  obtain ⟨q0, q1, q2, q3, q4, q5⟩ := Parse.three HX2.out
  go_wp2_with fail
  refine (potsherdref3_SheetBytes.calls kk 0 q A c d L 0 w2 (Kd.C_below HC.out HB2.out) HZ.out HK3.out).mono ?_
  rintro ev w3 ⟨v, rfl, hR, hb⟩
  have HB3 := Aside0.mk (below_step HB2.out hb)
  have HX3 := Aside0.mk (blk_below HX2.out hb)
  obtain ⟨A3, c3, rfl, hc3, hC3⟩ := Kd.R_reads hR
  have HC3 := Aside0.mk hC3
  have HC3L := Aside0.mk hc3
  have HA3 : Aside0 (∀ ad, A3 = some ad → ad.block < w3.heap.size) := ⟨fun ad hA => (R_at hR ad hA).2⟩
  clear q0 q1 q2 q3 q4 q5 hb HB2 HX2 hR hC3 HC HZ HK1 HK3
  have hL2 := HF.out.2.2
  have hwr := wrap_small ((L.length : Int) + 3) (by omega) (by omega)
  have hsm : IntKind.u64.wrap ((L.length : Int) + 3) = (L.length : Int) + 3 := by rw [IntKind.wrap_u64]; omega
  clear hL2
  go_upto_region 5 with fail
  rw [HKL.out]
  go_wp2_with fail
  refine (newH w3 2 2 none 0 [] (C_none8 w3) (by decide) (by decide) (by decide) (by decide) (by decide) (by decide)).mono ?_
  rintro ev w4 ⟨g, rfl, hh, hbn⟩
  obtain ⟨S, hS⟩ : ∃ S : Nat → Prop, (fun k => w3.heap.size ≤ k ∧ k < w4.heap.size) = S := ⟨_, rfl⟩
  rw [hS, new_mkC] at hh
  have HBN4 := Aside0.mk hbn
  have HH4 := Aside0.mk hh
  clear hh hbn hS
  go_wp2_with fail
  refine (cutH HH4.out 0 k (by decide) (by have := HF.out.2.2; have := HK2.out; omega)).mono ?_
  rintro ev w5 ⟨⟨v, rfl⟩, hh5, hn5⟩
  have HBN5 := Aside0.mk (HBN4.out.trans hn5.bel)
  have HH5 := Aside0.mk hh5
  clear hh5 hn5 HH4 HBN4
  go_wp2_with fail
  refine (programH HH5.out 1 0 A3 c3 L (Kd.C_below HC3.out HBN5.out) HC3L.out (fun ad hA => by
    have h1_ := HA3.out ad hA
    have h2_ := HBN5.out.size
    refine ⟨by omega, fun hs => ?_⟩
    have h3_ := HH5.out.chip.okb _ hs
    omega)).mono ?_
  rintro ev w6 ⟨rfl, S6, hh6, hn6⟩
  obtain ⟨t1, -, t3⟩ := torn_mk (p := 2) (L := List.replicate 2 []) 0 0 0 (k : Int) (i := 1) (B := []) L (Int.natCast_nonneg k) rfl (by decide) (by decide) HF.out.2.1 HF.out.2.2
  have t1' : (progS (cutS (mkC 2 (List.replicate 2 []) 0 0 0) 0 k) 1 0 L).2 = 2 := t1
  rw [t1']
  have HT3 : Aside0 (powerS (progS (cutS (mkC 2 (List.replicate 2 []) 0 0 0) 0 k) 1 0 L).1 = mkC 2 (tnL (L.take k)) 0 (wrap64 (0 + 1)) k) := ⟨t3⟩
  have HBN6 := Aside0.mk (HBN5.out.trans hn6.bel)
  have HH6 := Aside0.mk hh6
  clear hh6 hn6 t1 t1' t3 HH5 HBN5
  go_wp2_with fail
  refine (powerH HH6.out).mono ?_
  rintro ev w7 ⟨⟨v, rfl⟩, hh7, hn7⟩
  rw [HT3.out] at hh7
  have HBN7 := Aside0.mk (HBN6.out.trans hn7.bel)
  have HH7 := Aside0.mk hh7
  clear hh7 hn7 HH6 HBN6 HT3
  have HOK := Aside0.mk (tn_ok (HF.out.1.take k) (by rw [List.length_take]; have := HF.out.2.2; omega))
  go_wp2_with fail
  refine (sd_new HBN7.out HH7.out HOK.out (by simp [tnL])).mono ?_
  rintro ev w8 ⟨qq, rfl, -, -, hs8⟩
  have HS8 := Aside0.mk hs8
  clear hs8 HH7 HBN7
  go_wp2_with fail
  refine (sd_step HS8.out HOK.out (by simp [tnL]) (by simp [tnL]) (by decide) (by decide) 10 (by decide) (Nat.zero_le _) 4 (by simp [tnL])).mono ?_
  rintro ev w9 ⟨rfl, hs9⟩
  have hs9' := hs9.over (by simp [tnL]) (by simp [tnL]) (by decide) (by decide) (by simp [tnL])
  rw [tn_F, tn_N, HSH.out] at hs9'
  have HS9 := Aside0.mk hs9'
  clear hs9 HS8 hs9'
  rw [show decide ((tnL (L.take k)).length * 2 ≤ 4) = true from rfl]
  go_wp2_with fail
  refine (sc_found HS9.out (by simp)).mono ?_
  rintro ev w10 ⟨v, rfl, hR, hb10⟩
  obtain ⟨A10, c10, rfl, -, -⟩ := Kd.R_reads hR
  have HS10 := Aside0.mk (HS9.out.step hb10)
  clear hR hb10 HS9
  rw [show (List.map (asF 1 0) [(⟨0, q, d⟩ : S28)]).length = 1 from rfl]
  go_wp2_with fail
  clear dw dw2
  refine (mroot HS10.out (by simp) (fun y hy => by obtain rfl := List.mem_singleton.1 hy; show d.length ≤ 100000; omega) (by rw [hrt2]; exact Int.le_of_lt (by have := HQ.out; show (0 : Int) < q; omega))).mono ?_
  rintro ev w11 ⟨v, rfl, hR, hb11⟩
  rw [hrt2] at hR ⊢
  obtain ⟨A11, c11, rfl, -, -⟩ := Kd.R_reads hR
  have HS11 := Aside0.mk (HS10.out.step hb11)
  clear hR hb11 HS10
  simp only [dq]
  go_upto_region 16 with fail
  obtain ⟨w12, hw12⟩ : ∃ w12, w11.alloc (.cells #[.int .i64 0, .int .i64 q, .slice A11 d.length c11] 28) = w12 := ⟨_, rfl⟩
  have HS12 : Aside0 (Sc w3 w12 _ _ _ _ _ _ _ _) := ⟨by rw [← hw12]; exact HS11.out.step (below_alloc (Below.refl _ _) _)⟩
  have HX12 := Aside0.mk (blk_below HX3.out HS12.out.below)
  try rw [hw12]
  clear hw12 HS11
  refine start_ (n := 40) (S := fun w' => w'.cell? ⟨sb, 0, none⟩ = some (.int .i64 0) ∧ w'.cell? ⟨sb, 1, none⟩ = some (.int .i64 q) ∧ w'.cell? ⟨sb, 2, none⟩ = some (.slice A d.length c)) (ds := []) #[false, false, false, false, false, false, false, false, false, false, false, false, false, false, false, false, false, false, false, false, false, false, false, false, false, false, false, false, false, false, false, false, false, false, false, false, false, false, false, false] (by kernel_rfl) rfl rfl (shHeld3 HX12.out (below_drew (Below.refl _ _))) (fun hHeld => ?_)
  refine with_tabW reg_LwTorn_16.tab reg_LwTorn_16.bits (fun HT_ HW_ => ?_)
  refine pure_ (i := 0) (N := (some 67)) (v := ?_) (a' := ?_) #[true, false, false, false, false, false, false, false, false, false, false, false, false, false, false, false, false, false, false, false, false, false, false, false, false, false, false, false, false, false, false, false, false, false, false, false, false, false, false, false] rfl rfl (any_of HT_.out (by kernel_rfl)) (fun _ _ _ h => h) (Or.inl ⟨by rfl, ?_⟩) ?_ ?_
  rotate_left
  · intro w'
    go_simp
    first | done | with_reducible rfl
  rotate_left
  · simp only [Act.put, List.setIfInBounds_toArray, List.set_cons_zero, List.set_cons_succ, i64_w, i32_w]
    rfl
  refine pure_ (i := 1) (N := (some 68)) (v := ?_) (a' := ?_) #[true, true, false, false, false, false, false, false, false, false, false, false, false, false, false, false, false, false, false, false, false, false, false, false, false, false, false, false, false, false, false, false, false, false, false, false, false, false, false, false] rfl rfl (any_of HT_.out (by kernel_rfl)) (fun _ _ _ h => h) (Or.inl ⟨by rfl, ?_⟩) ?_ ?_
  rotate_left
  · intro w'
    go_simp
    first | done | with_reducible rfl
  rotate_left
  · simp only [Act.put, List.setIfInBounds_toArray, List.set_cons_zero, List.set_cons_succ, i64_w, i32_w]
    rfl
  refine pure_ (i := 2) (N := (some 69)) (v := ?_) (a' := ?_) #[true, true, true, false, false, false, false, false, false, false, false, false, false, false, false, false, false, false, false, false, false, false, false, false, false, false, false, false, false, false, false, false, false, false, false, false, false, false, false, false] rfl rfl (any_of HT_.out (by kernel_rfl)) (fun _ _ _ h => h) (Or.inl ⟨by rfl, ?_⟩) ?_ ?_
  rotate_left
  · intro w'
    go_simp
    first | done | with_reducible rfl
  rotate_left
  · simp only [Act.put, List.setIfInBounds_toArray, List.set_cons_zero, List.set_cons_succ, i64_w, i32_w]
    rfl
  refine pure_ (i := 3) (N := (some 70)) (v := ?_) (a' := ?_) #[true, true, true, true, false, false, false, false, false, false, false, false, false, false, false, false, false, false, false, false, false, false, false, false, false, false, false, false, false, false, false, false, false, false, false, false, false, false, false, false] rfl rfl (any_of HT_.out (by kernel_rfl)) (fun _ _ _ h => h) (Or.inl ⟨by rfl, ?_⟩) ?_ ?_
  rotate_left
  · intro w'
    go_simp
    first | done | with_reducible rfl
  rotate_left
  · simp only [Act.put, List.setIfInBounds_toArray, List.set_cons_zero, List.set_cons_succ, i64_w, i32_w]
    rfl
  refine pure_ (i := 4) (N := (some 71)) (v := ?_) (a' := ?_) #[true, true, true, true, true, false, false, false, false, false, false, false, false, false, false, false, false, false, false, false, false, false, false, false, false, false, false, false, false, false, false, false, false, false, false, false, false, false, false, false] rfl rfl (any_of HT_.out (by kernel_rfl)) (fun _ _ _ h => h) (Or.inl ⟨by rfl, ?_⟩) ?_ ?_
  rotate_left
  · intro w'
    go_simp
    first | done | with_reducible rfl
  rotate_left
  · simp only [Act.put, List.setIfInBounds_toArray, List.set_cons_zero, List.set_cons_succ, i64_w, i32_w]
    rfl
  refine pure_ (i := 5) (N := (some 72)) (v := ?_) (a' := ?_) #[true, true, true, true, true, true, false, false, false, false, false, false, false, false, false, false, false, false, false, false, false, false, false, false, false, false, false, false, false, false, false, false, false, false, false, false, false, false, false, false] rfl rfl (any_of HT_.out (by kernel_rfl)) (fun _ _ _ h => h) (Or.inl ⟨by rfl, ?_⟩) ?_ ?_
  rotate_left
  · intro w'
    go_simp
    first | done | with_reducible rfl
  rotate_left
  · simp only [Act.put, List.setIfInBounds_toArray, List.set_cons_zero, List.set_cons_succ, i64_w, i32_w]
    rfl
  refine pure_ (i := 6) (N := (some 73)) (v := ?_) (a' := ?_) #[true, true, true, true, true, true, true, false, false, false, false, false, false, false, false, false, false, false, false, false, false, false, false, false, false, false, false, false, false, false, false, false, false, false, false, false, false, false, false, false] rfl rfl (any_of HT_.out (by kernel_rfl)) (fun _ _ _ h => h) (Or.inl ⟨by rfl, ?_⟩) ?_ ?_
  rotate_left
  · intro w'
    go_simp
    first | done | with_reducible rfl
  rotate_left
  · simp only [Act.put, List.setIfInBounds_toArray, List.set_cons_zero, List.set_cons_succ, i64_w, i32_w]
    rfl
  refine pure_ (i := 7) (N := (some 74)) (v := ?_) (a' := ?_) #[true, true, true, true, true, true, true, true, false, false, false, false, false, false, false, false, false, false, false, false, false, false, false, false, false, false, false, false, false, false, false, false, false, false, false, false, false, false, false, false] rfl rfl (any_of HT_.out (by kernel_rfl)) (fun _ _ _ h => h) (Or.inl ⟨by rfl, ?_⟩) ?_ ?_
  rotate_left
  · intro w'
    go_simp
    first | done | with_reducible rfl
  rotate_left
  · simp only [Act.put, List.setIfInBounds_toArray, List.set_cons_zero, List.set_cons_succ, i64_w, i32_w]
    rfl
  refine pure_ (i := 8) (N := (some 75)) (v := ?_) (a' := ?_) #[true, true, true, true, true, true, true, true, true, false, false, false, false, false, false, false, false, false, false, false, false, false, false, false, false, false, false, false, false, false, false, false, false, false, false, false, false, false, false, false] rfl rfl (any_of HT_.out (by kernel_rfl)) (fun _ _ _ h => h) (Or.inl ⟨by rfl, ?_⟩) ?_ ?_
  rotate_left
  · intro w'
    go_simp
    first | done | with_reducible rfl
  rotate_left
  · simp only [Act.put, List.setIfInBounds_toArray, List.set_cons_zero, List.set_cons_succ, i64_w, i32_w]
    rfl
  refine pure_ (i := 9) (N := (some 76)) (v := ?_) (a' := ?_) #[true, true, true, true, true, true, true, true, true, true, false, false, false, false, false, false, false, false, false, false, false, false, false, false, false, false, false, false, false, false, false, false, false, false, false, false, false, false, false, false] rfl rfl (any_of HT_.out (by kernel_rfl)) (fun _ _ _ h => h) (Or.inl ⟨by rfl, ?_⟩) ?_ ?_
  rotate_left
  · intro w'
    go_simp
    first | done | with_reducible rfl
  rotate_left
  · simp only [Act.put, List.setIfInBounds_toArray, List.set_cons_zero, List.set_cons_succ, i64_w, i32_w]
    rfl
  refine pure_ (i := 10) (N := (some 77)) (v := ?_) (a' := ?_) #[true, true, true, true, true, true, true, true, true, true, true, false, false, false, false, false, false, false, false, false, false, false, false, false, false, false, false, false, false, false, false, false, false, false, false, false, false, false, false, false] rfl rfl (any_of HT_.out (by kernel_rfl)) (fun _ _ _ h => h) (Or.inl ⟨by rfl, ?_⟩) ?_ ?_
  rotate_left
  · intro w'
    go_simp
    first | done | with_reducible rfl
  rotate_left
  · simp only [Act.put, List.setIfInBounds_toArray, List.set_cons_zero, List.set_cons_succ, i64_w, i32_w]
    rfl
  refine pure_ (i := 11) (N := (some 78)) (v := ?_) (a' := ?_) #[true, true, true, true, true, true, true, true, true, true, true, true, false, false, false, false, false, false, false, false, false, false, false, false, false, false, false, false, false, false, false, false, false, false, false, false, false, false, false, false] rfl rfl (any_of HT_.out (by kernel_rfl)) (fun _ _ _ h => h) (Or.inl ⟨by rfl, ?_⟩) ?_ ?_
  rotate_left
  · intro w'
    go_simp
    first | done | with_reducible rfl
  rotate_left
  · simp only [Act.put, List.setIfInBounds_toArray, List.set_cons_zero, List.set_cons_succ, i64_w, i32_w]
    rfl
  refine pure_ (i := 12) (N := (some 79)) (v := ?_) (a' := ?_) #[true, true, true, true, true, true, true, true, true, true, true, true, true, false, false, false, false, false, false, false, false, false, false, false, false, false, false, false, false, false, false, false, false, false, false, false, false, false, false, false] rfl rfl (any_of HT_.out (by kernel_rfl)) (fun _ _ _ h => h) (Or.inl ⟨by rfl, ?_⟩) ?_ ?_
  rotate_left
  · intro w'
    go_simp
    first | done | with_reducible rfl
  rotate_left
  · simp only [Act.put, List.setIfInBounds_toArray, List.set_cons_zero, List.set_cons_succ, i64_w, i32_w]
    rfl
  refine pure_ (i := 13) (N := (some 80)) (v := ?_) (a' := ?_) #[true, true, true, true, true, true, true, true, true, true, true, true, true, true, false, false, false, false, false, false, false, false, false, false, false, false, false, false, false, false, false, false, false, false, false, false, false, false, false, false] rfl rfl (any_of HT_.out (by kernel_rfl)) (fun _ _ _ h => h) (Or.inl ⟨by rfl, ?_⟩) ?_ ?_
  rotate_left
  · intro w'
    go_simp
    first | done | with_reducible rfl
  rotate_left
  · simp only [Act.put, List.setIfInBounds_toArray, List.set_cons_zero, List.set_cons_succ, i64_w, i32_w]
    rfl
  refine pure_ (i := 14) (N := (some 81)) (v := ?_) (a' := ?_) #[true, true, true, true, true, true, true, true, true, true, true, true, true, true, true, false, false, false, false, false, false, false, false, false, false, false, false, false, false, false, false, false, false, false, false, false, false, false, false, false] rfl rfl (any_of HT_.out (by kernel_rfl)) (fun _ _ _ h => h) (Or.inl ⟨by rfl, ?_⟩) ?_ ?_
  rotate_left
  · intro w'
    go_simp
    first | done | with_reducible rfl
  rotate_left
  · simp only [Act.put, List.setIfInBounds_toArray, List.set_cons_zero, List.set_cons_succ, i64_w, i32_w]
    rfl
  refine pure_ (i := 15) (N := (some 82)) (v := ?_) (a' := ?_) #[true, true, true, true, true, true, true, true, true, true, true, true, true, true, true, true, false, false, false, false, false, false, false, false, false, false, false, false, false, false, false, false, false, false, false, false, false, false, false, false] rfl rfl (any_of HT_.out (by kernel_rfl)) (fun _ _ _ h => h) (Or.inl ⟨by rfl, ?_⟩) ?_ ?_
  rotate_left
  · intro w'
    go_simp
    first | done | with_reducible rfl
  rotate_left
  · simp only [Act.put, List.setIfInBounds_toArray, List.set_cons_zero, List.set_cons_succ, i64_w, i32_w]
    rfl
  refine pure_ (i := 16) (N := (some 83)) (v := ?_) (a' := ?_) #[true, true, true, true, true, true, true, true, true, true, true, true, true, true, true, true, true, false, false, false, false, false, false, false, false, false, false, false, false, false, false, false, false, false, false, false, false, false, false, false] rfl rfl (any_of HT_.out (by kernel_rfl)) (fun _ _ _ h => h) (Or.inl ⟨by rfl, ?_⟩) ?_ ?_
  rotate_left
  · intro w'
    go_simp
    first | done | with_reducible rfl
  rotate_left
  · simp only [Act.put, List.setIfInBounds_toArray, List.set_cons_zero, List.set_cons_succ, i64_w, i32_w]
    rfl
  refine pure_ (i := 17) (N := (some 84)) (v := ?_) (a' := ?_) #[true, true, true, true, true, true, true, true, true, true, true, true, true, true, true, true, true, true, false, false, false, false, false, false, false, false, false, false, false, false, false, false, false, false, false, false, false, false, false, false] rfl rfl (any_of HT_.out (by kernel_rfl)) (fun _ _ _ h => h) (Or.inl ⟨by rfl, ?_⟩) ?_ ?_
  rotate_left
  · intro w'
    go_simp
    first | done | with_reducible rfl
  rotate_left
  · simp only [Act.put, List.setIfInBounds_toArray, List.set_cons_zero, List.set_cons_succ, i64_w, i32_w]
    rfl
  refine pure_ (i := 18) (N := (some 85)) (v := ?_) (a' := ?_) #[true, true, true, true, true, true, true, true, true, true, true, true, true, true, true, true, true, true, true, false, false, false, false, false, false, false, false, false, false, false, false, false, false, false, false, false, false, false, false, false] rfl rfl (any_of HT_.out (by kernel_rfl)) (fun _ _ _ h => h) (Or.inl ⟨by rfl, ?_⟩) ?_ ?_
  rotate_left
  · intro w'
    go_simp
    first | done | with_reducible rfl
  rotate_left
  · simp only [Act.put, List.setIfInBounds_toArray, List.set_cons_zero, List.set_cons_succ, i64_w, i32_w]
    rfl
  refine pure_ (i := 19) (N := (some 86)) (v := ?_) (a' := ?_) #[true, true, true, true, true, true, true, true, true, true, true, true, true, true, true, true, true, true, true, true, false, false, false, false, false, false, false, false, false, false, false, false, false, false, false, false, false, false, false, false] rfl rfl (any_of HT_.out (by kernel_rfl)) (fun _ _ _ h => h) (Or.inl ⟨by rfl, ?_⟩) ?_ ?_
  rotate_left
  · intro w'
    go_simp
    first | done | with_reducible rfl
  rotate_left
  · simp only [Act.put, List.setIfInBounds_toArray, List.set_cons_zero, List.set_cons_succ, i64_w, i32_w]
    rfl
  refine pure_ (i := 20) (N := (some 87)) (v := ?_) (a' := ?_) #[true, true, true, true, true, true, true, true, true, true, true, true, true, true, true, true, true, true, true, true, true, false, false, false, false, false, false, false, false, false, false, false, false, false, false, false, false, false, false, false] rfl rfl (any_of HT_.out (by kernel_rfl)) (fun _ _ _ h => h) (Or.inl ⟨by rfl, ?_⟩) ?_ ?_
  rotate_left
  · intro w'
    go_simp
    first | done | with_reducible rfl
  rotate_left
  · simp only [Act.put, List.setIfInBounds_toArray, List.set_cons_zero, List.set_cons_succ, i64_w, i32_w]
    rfl
  refine take_ (i := 21) (N := (some 88)) (v := ?_) (a' := ?_) #[true, true, true, true, true, true, true, true, true, true, true, true, true, true, true, true, true, true, true, true, true, true, false, false, false, false, false, false, false, false, false, false, false, false, false, false, false, false, false, false] rfl rfl (take_ofW HT_.out HW_.out (by kernel_rfl)) (fun _ _ _ h => h) (Or.inl ⟨by rfl, ?_⟩) hHeld ?_ ?_
  rotate_left
  · rintro w' ⟨s0, s1, s2⟩
    go_simp
    first | done | with_reducible rfl
  rotate_left
  · simp only [Act.put, List.setIfInBounds_toArray, List.set_cons_zero, List.set_cons_succ, i64_w, i32_w]
    rfl
  refine pure_ (i := 22) (N := (some 89)) (v := ?_) (a' := ?_) #[true, true, true, true, true, true, true, true, true, true, true, true, true, true, true, true, true, true, true, true, true, true, true, false, false, false, false, false, false, false, false, false, false, false, false, false, false, false, false, false] rfl rfl (any_of HT_.out (by kernel_rfl)) (fun _ _ _ h => h) (Or.inl ⟨by rfl, ?_⟩) ?_ ?_
  rotate_left
  · intro w'
    go_simp
    first | done | with_reducible rfl
  rotate_left
  · simp only [Act.put, List.setIfInBounds_toArray, List.set_cons_zero, List.set_cons_succ, i64_w, i32_w]
    rfl
  refine pure_ (i := 23) (N := (some 90)) (v := ?_) (a' := ?_) #[true, true, true, true, true, true, true, true, true, true, true, true, true, true, true, true, true, true, true, true, true, true, true, true, false, false, false, false, false, false, false, false, false, false, false, false, false, false, false, false] rfl rfl (any_of HT_.out (by kernel_rfl)) (fun _ _ _ h => h) (Or.inl ⟨by rfl, ?_⟩) ?_ ?_
  rotate_left
  · intro w'
    go_simp
    first | done | with_reducible rfl
  rotate_left
  · simp only [Act.put, List.setIfInBounds_toArray, List.set_cons_zero, List.set_cons_succ, i64_w, i32_w]
    rfl
  refine pure_ (i := 24) (N := (some 91)) (v := ?_) (a' := ?_) #[true, true, true, true, true, true, true, true, true, true, true, true, true, true, true, true, true, true, true, true, true, true, true, true, true, false, false, false, false, false, false, false, false, false, false, false, false, false, false, false] rfl rfl (any_of HT_.out (by kernel_rfl)) (fun _ _ _ h => h) (Or.inl ⟨by rfl, ?_⟩) ?_ ?_
  rotate_left
  · intro w'
    go_simp
    first | done | with_reducible rfl
  rotate_left
  · simp only [Act.put, List.setIfInBounds_toArray, List.set_cons_zero, List.set_cons_succ, i64_w, i32_w]
    rfl
  refine pure_ (i := 25) (N := (some 92)) (v := ?_) (a' := ?_) #[true, true, true, true, true, true, true, true, true, true, true, true, true, true, true, true, true, true, true, true, true, true, true, true, true, true, false, false, false, false, false, false, false, false, false, false, false, false, false, false] rfl rfl (any_of HT_.out (by kernel_rfl)) (fun _ _ _ h => h) (Or.inl ⟨by rfl, ?_⟩) ?_ ?_
  rotate_left
  · intro w'
    go_simp
    first | done | with_reducible rfl
  rotate_left
  · simp only [Act.put, List.setIfInBounds_toArray, List.set_cons_zero, List.set_cons_succ, i64_w, i32_w]
    rfl
  refine pure_ (i := 26) (N := (some 93)) (v := ?_) (a' := ?_) #[true, true, true, true, true, true, true, true, true, true, true, true, true, true, true, true, true, true, true, true, true, true, true, true, true, true, true, false, false, false, false, false, false, false, false, false, false, false, false, false] rfl rfl (any_of HT_.out (by kernel_rfl)) (fun _ _ _ h => h) (Or.inl ⟨by rfl, ?_⟩) ?_ ?_
  rotate_left
  · intro w'
    go_simp
    first | done | with_reducible rfl
  rotate_left
  · simp only [Act.put, List.setIfInBounds_toArray, List.set_cons_zero, List.set_cons_succ, i64_w, i32_w]
    rfl
  refine pure_ (i := 27) (N := (some 94)) (v := ?_) (a' := ?_) #[true, true, true, true, true, true, true, true, true, true, true, true, true, true, true, true, true, true, true, true, true, true, true, true, true, true, true, true, false, false, false, false, false, false, false, false, false, false, false, false] rfl rfl (any_of HT_.out (by kernel_rfl)) (fun _ _ _ h => h) (Or.inl ⟨by rfl, ?_⟩) ?_ ?_
  rotate_left
  · intro w'
    go_simp
    first | done | with_reducible rfl
  rotate_left
  · simp only [Act.put, List.setIfInBounds_toArray, List.set_cons_zero, List.set_cons_succ, i64_w, i32_w]
    rfl
  refine pure_ (i := 29) (N := (some 96)) (v := ?_) (a' := ?_) #[true, true, true, true, true, true, true, true, true, true, true, true, true, true, true, true, true, true, true, true, true, true, true, true, true, true, true, true, false, true, false, false, false, false, false, false, false, false, false, false] rfl rfl (any_of HT_.out (by kernel_rfl)) (fun _ _ _ h => h) (Or.inl ⟨by rfl, ?_⟩) ?_ ?_
  rotate_left
  · intro w'
    go_simp
    first | done | with_reducible rfl
  rotate_left
  · simp only [Act.put, List.setIfInBounds_toArray, List.set_cons_zero, List.set_cons_succ, i64_w, i32_w]
    rfl
  refine take_ (i := 30) (N := (some 97)) (v := ?_) (a' := ?_) #[true, true, true, true, true, true, true, true, true, true, true, true, true, true, true, true, true, true, true, true, true, true, true, true, true, true, true, true, false, true, true, false, false, false, false, false, false, false, false, false] rfl rfl (take_ofW HT_.out HW_.out (by kernel_rfl)) (fun _ _ _ h => h) (Or.inl ⟨by rfl, ?_⟩) hHeld ?_ ?_
  rotate_left
  · rintro w' ⟨s0, s1, s2⟩
    go_simp
    first | done | with_reducible rfl
  rotate_left
  · simp only [Act.put, List.setIfInBounds_toArray, List.set_cons_zero, List.set_cons_succ, i64_w, i32_w]
    rfl
  refine pure_ (i := 32) (N := (some 99)) (v := ?_) (a' := ?_) #[true, true, true, true, true, true, true, true, true, true, true, true, true, true, true, true, true, true, true, true, true, true, true, true, true, true, true, true, false, true, true, false, true, false, false, false, false, false, false, false] rfl rfl (any_of HT_.out (by kernel_rfl)) (fun _ _ _ h => h) (Or.inl ⟨by rfl, ?_⟩) ?_ ?_
  rotate_left
  · intro w'
    go_simp
    first | done | with_reducible rfl
  rotate_left
  · simp only [Act.put, List.setIfInBounds_toArray, List.set_cons_zero, List.set_cons_succ, i64_w, i32_w]
    rfl
  refine pure_ (i := 33) (N := (some 100)) (v := ?_) (a' := ?_) #[true, true, true, true, true, true, true, true, true, true, true, true, true, true, true, true, true, true, true, true, true, true, true, true, true, true, true, true, false, true, true, false, true, true, false, false, false, false, false, false] rfl rfl (any_of HT_.out (by kernel_rfl)) (fun _ _ _ h => h) (Or.inl ⟨by rfl, ?_⟩) ?_ ?_
  rotate_left
  · intro w'
    go_simp
    first | done | with_reducible rfl
  rotate_left
  · simp only [Act.put, List.setIfInBounds_toArray, List.set_cons_zero, List.set_cons_succ, i64_w, i32_w]
    rfl
  refine one_ (i := 28) (N := (some 95)) #[true, true, true, true, true, true, true, true, true, true, true, true, true, true, true, true, true, true, true, true, true, true, true, true, true, true, true, true, true, true, true, false, true, true, false, false, false, false, false, false] rfl rfl (one_of HT_.out (by kernel_rfl)) (by decide) (fun K hK => ?_)
  refine goes_ Try.func18 (by kernel_rfl) rfl #[.pointer (some ⟨qq, 0, none⟩)] (by rfl) rfl rfl (by (try simp only [List.map_toArray, List.map_cons, List.map_nil]); first | done | rfl) ?_
  with_reducible refine (sc_seq (HS12.out.step (below_drew (Below.refl _ _))) (by simp)).mono ?_
  rintro ev_ w13 ⟨rfl, hb13_⟩
  refine ⟨_, rfl, ?_⟩
  rw [hmq]
  have HS13 := Aside0.mk ((HS12.out.step (below_drew (Below.refl _ _))).step hb13_)
  have HX13 := Aside0.mk (blk_below HX3.out HS13.out.below)
  clear hb13_
  refine hK.out _ _ (shHeld3 HX13.out (Below.refl _ _)) (fun hHeld => ?_)
  clear hK K
  refine norm_ (a' := ?_) ?_ ?_
  rotate_left
  · show Act.put _ (some 95) _ = _
    simp only [Act.put, List.setIfInBounds_toArray, List.set_cons_zero, List.set_cons_succ, i64_w, i32_w]
    rfl
  refine pure_ (i := 31) (N := (some 98)) (v := ?_) (a' := ?_) #[true, true, true, true, true, true, true, true, true, true, true, true, true, true, true, true, true, true, true, true, true, true, true, true, true, true, true, true, true, true, true, true, true, true, false, false, false, false, false, false] rfl rfl (any_of HT_.out (by kernel_rfl)) (fun _ _ _ h => h) (Or.inl ⟨by rfl, ?_⟩) ?_ ?_
  rotate_left
  · intro w'
    go_simp
    first | done | with_reducible rfl
  rotate_left
  · simp only [Act.put, List.setIfInBounds_toArray, List.set_cons_zero, List.set_cons_succ, i64_w, i32_w]
    rfl
  refine pure_ (i := 34) (N := (some 101)) (v := ?_) (a' := ?_) #[true, true, true, true, true, true, true, true, true, true, true, true, true, true, true, true, true, true, true, true, true, true, true, true, true, true, true, true, true, true, true, true, true, true, true, false, false, false, false, false] rfl rfl (any_of HT_.out (by kernel_rfl)) (fun _ _ _ h => h) (Or.inl ⟨by rfl, ?_⟩) ?_ ?_
  rotate_left
  · intro w'
    go_simp
    first | done | with_reducible rfl
  rotate_left
  · simp only [Act.put, List.setIfInBounds_toArray, List.set_cons_zero, List.set_cons_succ, i64_w, i32_w]
    rfl
  refine pure_ (i := 35) (N := (some 102)) (v := ?_) (a' := ?_) #[true, true, true, true, true, true, true, true, true, true, true, true, true, true, true, true, true, true, true, true, true, true, true, true, true, true, true, true, true, true, true, true, true, true, true, true, false, false, false, false] rfl rfl (any_of HT_.out (by kernel_rfl)) (fun _ _ _ h => h) (Or.inl ⟨by rfl, ?_⟩) ?_ ?_
  rotate_left
  · intro w'
    go_simp
    first | done | with_reducible rfl
  rotate_left
  · simp only [Act.put, List.setIfInBounds_toArray, List.set_cons_zero, List.set_cons_succ, i64_w, i32_w]
    rfl
  refine pure_ (i := 36) (N := (some 103)) (v := ?_) (a' := ?_) #[true, true, true, true, true, true, true, true, true, true, true, true, true, true, true, true, true, true, true, true, true, true, true, true, true, true, true, true, true, true, true, true, true, true, true, true, true, false, false, false] rfl rfl (any_of HT_.out (by kernel_rfl)) (fun _ _ _ h => h) (Or.inl ⟨by rfl, ?_⟩) ?_ ?_
  rotate_left
  · intro w'
    go_simp
    first | done | with_reducible rfl
  rotate_left
  · simp only [Act.put, List.setIfInBounds_toArray, List.set_cons_zero, List.set_cons_succ, i64_w, i32_w]
    rfl
  refine one_ (i := 37) (N := (some 104)) #[true, true, true, true, true, true, true, true, true, true, true, true, true, true, true, true, true, true, true, true, true, true, true, true, true, true, true, true, true, true, true, true, true, true, true, true, true, true, false, false] rfl rfl (one_of HT_.out (by kernel_rfl)) (by decide) (fun K hK => ?_)
  refine goes_ Try.func9 (by kernel_rfl) rfl #[] (by rfl) rfl rfl (by (try simp only [List.map_toArray, List.map_cons, List.map_nil]); first | done | rfl) ?_
  with_reducible refine (awake11 _).mono ?_
  rintro ev_ w14 ⟨rfl, hb14_⟩
  refine ⟨_, rfl, ?_⟩
  have HB14 := Aside0.mk (HS13.out.step hb14_).below
  have HX14 := Aside0.mk (blk_below HX3.out HB14.out)
  clear hb14_
  refine hK.out _ _ (shHeld3 HX14.out (Below.refl _ _)) (fun hHeld => ?_)
  clear hK K
  refine norm_ (a' := ?_) ?_ ?_
  rotate_left
  · show Act.put _ (some 104) _ = _
    simp only [Act.put, List.setIfInBounds_toArray, List.set_cons_zero, List.set_cons_succ, i64_w, i32_w]
    rfl
  refine pure_ (i := 38) (N := (some 105)) (v := ?_) (a' := ?_) #[true, true, true, true, true, true, true, true, true, true, true, true, true, true, true, true, true, true, true, true, true, true, true, true, true, true, true, true, true, true, true, true, true, true, true, true, true, true, true, false] rfl rfl (any_of HT_.out (by kernel_rfl)) (fun _ _ _ h => h) (Or.inl ⟨by rfl, ?_⟩) ?_ ?_
  rotate_left
  · intro w'
    go_simp
    first | done | with_reducible rfl
  rotate_left
  · simp only [Act.put, List.setIfInBounds_toArray, List.set_cons_zero, List.set_cons_succ, i64_w, i32_w]
    rfl
  refine pure_ (i := 39) (N := (some 4)) (v := ?_) (a' := ?_) #[true, true, true, true, true, true, true, true, true, true, true, true, true, true, true, true, true, true, true, true, true, true, true, true, true, true, true, true, true, true, true, true, true, true, true, true, true, true, true, true] rfl rfl (any_of HT_.out (by kernel_rfl)) (fun _ _ _ h => h) (Or.inl ⟨by rfl, ?_⟩) ?_ ?_
  rotate_left
  · intro w'
    go_simp
    first | done | with_reducible rfl
  rotate_left
  · simp only [Act.put, List.setIfInBounds_toArray, List.set_cons_zero, List.set_cons_succ, i64_w, i32_w]
    rfl
  refine done_ (done_of HT_.out (by kernel_rfl)) ?_
  go_wp2_with fail
  go_ret
  exact ⟨rfl, below_step HB3.out ((HB14.out))⟩

set_option maxHeartbeats 4000000 in
set_option maxRecDepth 100000 in
theorem tornB {W : World} {x : S28} {A : Option Addr} {c : Nat} (a1 : Int) (hz : x.f2.length ≤ c) (hC : Kd.C (Kd.int .u8) W A x.f2.length x.f2) (hb : Bytes x.f2) (h100 : x.f2.length ≤ 100) (hm : mayB x.f0 x.f1 x.f2 = true) (k : Nat) (hk : wrap64 (Int.tmod (IntKind.u64.wrap a1) (((laidL x.f0 x.f1 x.f2).length : Int) + 3)) = (k : Int)) (hk2 : k < (laidL x.f0 x.f1 x.f2).length + 3) (hw : (laidL x.f0 x.f1 x.f2).length ≤ k) (hp : x.f0 ≠ 0) :
    Calls Try.prog 7 #[.agg #[.int .i64 x.f0, .int .i64 x.f1, .slice A x.f2.length c], .int .i64 a1] W fun e w' => e = .returned (.bool true) ∧ Below W.heap.size W w' := by
  obtain ⟨p, q, d⟩ := x
  simp only at hz hC hb h100 hm hk hk2 hw hp ⊢
  have HNP := Aside0.mk hp
  clear hp
  obtain ⟨kk, hk1, hk3⟩ := ref_bytes (x := ⟨p, q, d⟩) hm
  have hrt := root_one (x := ⟨p, q, d⟩) hm
  have HSH := Aside0.mk (sh_whole (x := ⟨p, q, d⟩) hm hw)
  have hfine := lay_fine (x := ⟨p, q, d⟩) hb hm
  have hq := (mayB_iff.1 hm).2.2.1
  simp only at hk1 hk3 HSH hfine hrt
  obtain ⟨L, hL⟩ : ∃ L, laidL p q d = L := ⟨_, rfl⟩
  rw [hL] at hk hk2 hk3 hw HSH hfine
  have HKL := Aside0.mk hk
  clear hk
  have HC := Aside0.mk hC
  have HZ := Aside0.mk hz
  have HK1 := Aside0.mk hk1
  have HK3 := Aside0.mk hk3
  have HF := Aside0.mk hfine
  have HM := Aside0.mk hm
  have HQ := Aside0.mk hq
  have d1 : decide ((100 : Int) < d.length) = false := decide_eq_false (by omega)
  have dw : decide ((L.length : Int) ≤ k) = true := decide_eq_true (by omega)
  have dw2 : decide (L.length ≤ k) = true := decide_eq_true (by omega)
  have hmq : mostQ (List.map (asF 1 0) [(⟨p, q, d⟩ : S28)]) = q := by show (if (0 : Int) < q then q else 0) = q; rw [if_pos (by omega)]
  have hrt2 : rootL [(⟨p, q, d⟩ : S28)] = ⟨0, 0, []⟩ := by rw [hrt, if_neg HNP.out]
  have dnp : decide (p = 0) = false := decide_eq_false HNP.out
  have dnp2 : (p == 0) = false := by rw [beq_eq_false_iff_ne]; exact HNP.out
  have hlen0 : ((L.length : Int) + 3 == 0) = false := by rw [beq_eq_false_iff_ne]; omega
  have HW := Aside0.mk hw
  have HK2 := Aside0.mk hk2
  clear hC hz hk1 hk3 hfine hm hb hq hL hrt hw hk2
  obtain ⟨sb, hsb⟩ : ∃ sb, W.heap.size = sb := ⟨_, rfl⟩
  obtain ⟨w1, hw1⟩ : ∃ w1, W.alloc (.cells #[.int .i64 p, .int .i64 q, .slice A d.length c] 28) = w1 := ⟨_, rfl⟩
  have HB1 : Aside0 (Below W.heap.size W w1) := ⟨by rw [← hw1]; exact below_alloc (Below.refl _ _) _⟩
  have HX1 : Aside0 (w1.heap[sb]? = some (.cells #[.int .i64 p, .int .i64 q, .slice A d.length c] 28 (0, 0))) := ⟨by rw [← hw1, ← hsb]; exact blk_new W _⟩
  go_enter Try.func7, Try.ntmps7
  go_upto_region 1 with fail
  clear hw1
  obtain ⟨q0, q1, q2, q3, q4, q5⟩ := Parse.three HX1.out
  go_wp2_with fail
  refine (potsherdref3_MaySheet.calls kk p q A c d true w1 (Kd.C_below HC.out HB1.out) HZ.out HK1.out).mono ?_
  rintro ev w2 ⟨rfl, hb⟩
  have HB2 := Aside0.mk (below_step HB1.out hb)
  have HX2 := Aside0.mk (blk_below HX1.out hb)
  clear q0 q1 q2 q3 q4 q5 hb HB1 HX1
  obtain ⟨q0, q1, q2, q3, q4, q5⟩ := Parse.three HX2.out
  go_wp2_with fail
  refine (potsherdref3_SheetBytes.calls kk p q A c d L 0 w2 (Kd.C_below HC.out HB2.out) HZ.out HK3.out).mono ?_
  rintro ev w3 ⟨v, rfl, hR, hb⟩
  have HB3 := Aside0.mk (below_step HB2.out hb)
  have HX3 := Aside0.mk (blk_below HX2.out hb)
  obtain ⟨A3, c3, rfl, hc3, hC3⟩ := Kd.R_reads hR
  have HC3 := Aside0.mk hC3
  have HC3L := Aside0.mk hc3
  have HA3 : Aside0 (∀ ad, A3 = some ad → ad.block < w3.heap.size) := ⟨fun ad hA => (R_at hR ad hA).2⟩
  clear q0 q1 q2 q3 q4 q5 hb HB2 HX2 hR hC3 HC HZ HK1 HK3
  have hL2 := HF.out.2.2
  have hwr := wrap_small ((L.length : Int) + 3) (by omega) (by omega)
  have hsm : IntKind.u64.wrap ((L.length : Int) + 3) = (L.length : Int) + 3 := by rw [IntKind.wrap_u64]; omega
  clear hL2
  go_upto_region 5 with fail
  rw [HKL.out]
  go_wp2_with fail
  refine (newH w3 2 2 none 0 [] (C_none8 w3) (by decide) (by decide) (by decide) (by decide) (by decide) (by decide)).mono ?_
  rintro ev w4 ⟨g, rfl, hh, hbn⟩
  obtain ⟨S, hS⟩ : ∃ S : Nat → Prop, (fun k => w3.heap.size ≤ k ∧ k < w4.heap.size) = S := ⟨_, rfl⟩
  rw [hS, new_mkC] at hh
  have HBN4 := Aside0.mk hbn
  have HH4 := Aside0.mk hh
  clear hh hbn hS
  go_wp2_with fail
  refine (cutH HH4.out 0 k (by decide) (by have := HF.out.2.2; have := HK2.out; omega)).mono ?_
  rintro ev w5 ⟨⟨v, rfl⟩, hh5, hn5⟩
  have HBN5 := Aside0.mk (HBN4.out.trans hn5.bel)
  have HH5 := Aside0.mk hh5
  clear hh5 hn5 HH4 HBN4
  go_wp2_with fail
  refine (programH HH5.out 1 0 A3 c3 L (Kd.C_below HC3.out HBN5.out) HC3L.out (fun ad hA => by
    have h1_ := HA3.out ad hA
    have h2_ := HBN5.out.size
    refine ⟨by omega, fun hs => ?_⟩
    have h3_ := HH5.out.chip.okb _ hs
    omega)).mono ?_
  rintro ev w6 ⟨rfl, S6, hh6, hn6⟩
  obtain ⟨t1, -, t3⟩ := torn_mk (p := 2) (L := List.replicate 2 []) 0 0 0 (k : Int) (i := 1) (B := []) L (Int.natCast_nonneg k) rfl (by decide) (by decide) HF.out.2.1 HF.out.2.2
  have t1' : (progS (cutS (mkC 2 (List.replicate 2 []) 0 0 0) 0 k) 1 0 L).2 = 2 := t1
  rw [t1']
  have HT3 : Aside0 (powerS (progS (cutS (mkC 2 (List.replicate 2 []) 0 0 0) 0 k) 1 0 L).1 = mkC 2 (tnL (L.take k)) 0 (wrap64 (0 + 1)) k) := ⟨t3⟩
  have HBN6 := Aside0.mk (HBN5.out.trans hn6.bel)
  have HH6 := Aside0.mk hh6
  clear hh6 hn6 t1 t1' t3 HH5 HBN5
  go_wp2_with fail
  refine (powerH HH6.out).mono ?_
  rintro ev w7 ⟨⟨v, rfl⟩, hh7, hn7⟩
  rw [HT3.out] at hh7
  have HBN7 := Aside0.mk (HBN6.out.trans hn7.bel)
  have HH7 := Aside0.mk hh7
  clear hh7 hn7 HH6 HBN6 HT3
  have HOK := Aside0.mk (tn_ok (HF.out.1.take k) (by rw [List.length_take]; have := HF.out.2.2; omega))
  go_wp2_with fail
  refine (sd_new HBN7.out HH7.out HOK.out (by simp [tnL])).mono ?_
  rintro ev w8 ⟨qq, rfl, -, -, hs8⟩
  have HS8 := Aside0.mk hs8
  clear hs8 HH7 HBN7
  go_wp2_with fail
  refine (sd_step HS8.out HOK.out (by simp [tnL]) (by simp [tnL]) (by decide) (by decide) 10 (by decide) (Nat.zero_le _) 4 (by simp [tnL])).mono ?_
  rintro ev w9 ⟨rfl, hs9⟩
  have hs9' := hs9.over (by simp [tnL]) (by simp [tnL]) (by decide) (by decide) (by simp [tnL])
  rw [tn_F, tn_N, HSH.out] at hs9'
  have HS9 := Aside0.mk hs9'
  clear hs9 HS8 hs9'
  rw [show decide ((tnL (L.take k)).length * 2 ≤ 4) = true from rfl]
  go_wp2_with fail
  refine (sc_found HS9.out (by simp)).mono ?_
  rintro ev w10 ⟨v, rfl, hR, hb10⟩
  obtain ⟨A10, c10, rfl, -, -⟩ := Kd.R_reads hR
  have HS10 := Aside0.mk (HS9.out.step hb10)
  clear hR hb10 HS9
  rw [show (List.map (asF 1 0) [(⟨p, q, d⟩ : S28)]).length = 1 from rfl]
  go_wp2_with fail
  clear dw dw2
  refine (mroot HS10.out (by simp) (fun y hy => by obtain rfl := List.mem_singleton.1 hy; show d.length ≤ 100000; omega) (by rw [hrt2]; exact Int.le_refl _)).mono ?_
  rintro ev w11 ⟨v, rfl, hR, hb11⟩
  rw [hrt2] at hR ⊢
  obtain ⟨A11, c11, rfl, -, -⟩ := Kd.R_reads hR
  have HS11 := Aside0.mk (HS10.out.step hb11)
  clear hR hb11 HS10
  simp only [Int.lt_irrefl, decide_false]
  go_upto_region 16 with fail
  obtain ⟨w12, hw12⟩ : ∃ w12, w11.alloc (.cells #[.int .i64 0, .int .i64 0, .slice A11 0 c11] 28) = w12 := ⟨_, rfl⟩
  have HS12 : Aside0 (Sc w3 w12 _ _ _ _ _ _ _ _) := ⟨by rw [← hw12]; exact HS11.out.step (below_alloc (Below.refl _ _) _)⟩
  have HX12 := Aside0.mk (blk_below HX3.out HS12.out.below)
  try rw [hw12]
  clear hw12 HS11
  refine start_ (n := 40) (S := fun w' => w'.cell? ⟨sb, 0, none⟩ = some (.int .i64 p) ∧ w'.cell? ⟨sb, 1, none⟩ = some (.int .i64 q) ∧ w'.cell? ⟨sb, 2, none⟩ = some (.slice A d.length c)) (ds := []) #[false, false, false, false, false, false, false, false, false, false, false, false, false, false, false, false, false, false, false, false, false, false, false, false, false, false, false, false, false, false, false, false, false, false, false, false, false, false, false, false] (by kernel_rfl) rfl rfl (shHeld3 HX12.out (below_drew (Below.refl _ _))) (fun hHeld => ?_)
  refine with_tabW reg_LwTorn_16.tab reg_LwTorn_16.bits (fun HT_ HW_ => ?_)
  refine pure_ (i := 0) (N := (some 67)) (v := ?_) (a' := ?_) #[true, false, false, false, false, false, false, false, false, false, false, false, false, false, false, false, false, false, false, false, false, false, false, false, false, false, false, false, false, false, false, false, false, false, false, false, false, false, false, false] rfl rfl (any_of HT_.out (by kernel_rfl)) (fun _ _ _ h => h) (Or.inl ⟨by rfl, ?_⟩) ?_ ?_
  rotate_left
  · intro w'
    go_simp
    first | done | with_reducible rfl
  rotate_left
  · simp only [Act.put, List.setIfInBounds_toArray, List.set_cons_zero, List.set_cons_succ, i64_w, i32_w]
    rfl
  refine pure_ (i := 1) (N := (some 68)) (v := ?_) (a' := ?_) #[true, true, false, false, false, false, false, false, false, false, false, false, false, false, false, false, false, false, false, false, false, false, false, false, false, false, false, false, false, false, false, false, false, false, false, false, false, false, false, false] rfl rfl (any_of HT_.out (by kernel_rfl)) (fun _ _ _ h => h) (Or.inl ⟨by rfl, ?_⟩) ?_ ?_
  rotate_left
  · intro w'
    go_simp
    first | done | with_reducible rfl
  rotate_left
  · simp only [Act.put, List.setIfInBounds_toArray, List.set_cons_zero, List.set_cons_succ, i64_w, i32_w]
    rfl
  refine pure_ (i := 2) (N := (some 69)) (v := ?_) (a' := ?_) #[true, true, true, false, false, false, false, false, false, false, false, false, false, false, false, false, false, false, false, false, false, false, false, false, false, false, false, false, false, false, false, false, false, false, false, false, false, false, false, false] rfl rfl (any_of HT_.out (by kernel_rfl)) (fun _ _ _ h => h) (Or.inl ⟨by rfl, ?_⟩) ?_ ?_
  rotate_left
  · intro w'
    go_simp
    first | done | with_reducible rfl
  rotate_left
  · simp only [Act.put, List.setIfInBounds_toArray, List.set_cons_zero, List.set_cons_succ, i64_w, i32_w]
    rfl
  refine pure_ (i := 3) (N := (some 70)) (v := ?_) (a' := ?_) #[true, true, true, true, false, false, false, false, false, false, false, false, false, false, false, false, false, false, false, false, false, false, false, false, false, false, false, false, false, false, false, false, false, false, false, false, false, false, false, false] rfl rfl (any_of HT_.out (by kernel_rfl)) (fun _ _ _ h => h) (Or.inl ⟨by rfl, ?_⟩) ?_ ?_
  rotate_left
  · intro w'
    go_simp
    first | done | with_reducible rfl
  rotate_left
  · simp only [Act.put, List.setIfInBounds_toArray, List.set_cons_zero, List.set_cons_succ, i64_w, i32_w]
    rfl
  refine pure_ (i := 4) (N := (some 71)) (v := ?_) (a' := ?_) #[true, true, true, true, true, false, false, false, false, false, false, false, false, false, false, false, false, false, false, false, false, false, false, false, false, false, false, false, false, false, false, false, false, false, false, false, false, false, false, false] rfl rfl (any_of HT_.out (by kernel_rfl)) (fun _ _ _ h => h) (Or.inl ⟨by rfl, ?_⟩) ?_ ?_
  rotate_left
  · intro w'
    go_simp
    first | done | with_reducible rfl
  rotate_left
  · simp only [Act.put, List.setIfInBounds_toArray, List.set_cons_zero, List.set_cons_succ, i64_w, i32_w]
    rfl
  refine pure_ (i := 5) (N := (some 72)) (v := ?_) (a' := ?_) #[true, true, true, true, true, true, false, false, false, false, false, false, false, false, false, false, false, false, false, false, false, false, false, false, false, false, false, false, false, false, false, false, false, false, false, false, false, false, false, false] rfl rfl (any_of HT_.out (by kernel_rfl)) (fun _ _ _ h => h) (Or.inl ⟨by rfl, ?_⟩) ?_ ?_
  rotate_left
  · intro w'
    go_simp
    first | done | with_reducible rfl
  rotate_left
  · simp only [Act.put, List.setIfInBounds_toArray, List.set_cons_zero, List.set_cons_succ, i64_w, i32_w]
    rfl
  refine pure_ (i := 6) (N := (some 73)) (v := ?_) (a' := ?_) #[true, true, true, true, true, true, true, false, false, false, false, false, false, false, false, false, false, false, false, false, false, false, false, false, false, false, false, false, false, false, false, false, false, false, false, false, false, false, false, false] rfl rfl (any_of HT_.out (by kernel_rfl)) (fun _ _ _ h => h) (Or.inl ⟨by rfl, ?_⟩) ?_ ?_
  rotate_left
  · intro w'
    go_simp
    first | done | with_reducible rfl
  rotate_left
  · simp only [Act.put, List.setIfInBounds_toArray, List.set_cons_zero, List.set_cons_succ, i64_w, i32_w]
    rfl
  refine pure_ (i := 7) (N := (some 74)) (v := ?_) (a' := ?_) #[true, true, true, true, true, true, true, true, false, false, false, false, false, false, false, false, false, false, false, false, false, false, false, false, false, false, false, false, false, false, false, false, false, false, false, false, false, false, false, false] rfl rfl (any_of HT_.out (by kernel_rfl)) (fun _ _ _ h => h) (Or.inl ⟨by rfl, ?_⟩) ?_ ?_
  rotate_left
  · intro w'
    go_simp
    first | done | with_reducible rfl
  rotate_left
  · simp only [Act.put, List.setIfInBounds_toArray, List.set_cons_zero, List.set_cons_succ, i64_w, i32_w]
    rfl
  refine pure_ (i := 8) (N := (some 75)) (v := ?_) (a' := ?_) #[true, true, true, true, true, true, true, true, true, false, false, false, false, false, false, false, false, false, false, false, false, false, false, false, false, false, false, false, false, false, false, false, false, false, false, false, false, false, false, false] rfl rfl (any_of HT_.out (by kernel_rfl)) (fun _ _ _ h => h) (Or.inl ⟨by rfl, ?_⟩) ?_ ?_
  rotate_left
  · intro w'
    go_simp
    first | done | with_reducible rfl
  rotate_left
  · simp only [Act.put, List.setIfInBounds_toArray, List.set_cons_zero, List.set_cons_succ, i64_w, i32_w]
    rfl
  refine pure_ (i := 9) (N := (some 76)) (v := ?_) (a' := ?_) #[true, true, true, true, true, true, true, true, true, true, false, false, false, false, false, false, false, false, false, false, false, false, false, false, false, false, false, false, false, false, false, false, false, false, false, false, false, false, false, false] rfl rfl (any_of HT_.out (by kernel_rfl)) (fun _ _ _ h => h) (Or.inl ⟨by rfl, ?_⟩) ?_ ?_
  rotate_left
  · intro w'
    go_simp
    first | done | with_reducible rfl
  rotate_left
  · simp only [Act.put, List.setIfInBounds_toArray, List.set_cons_zero, List.set_cons_succ, i64_w, i32_w]
    rfl
  refine pure_ (i := 10) (N := (some 77)) (v := ?_) (a' := ?_) #[true, true, true, true, true, true, true, true, true, true, true, false, false, false, false, false, false, false, false, false, false, false, false, false, false, false, false, false, false, false, false, false, false, false, false, false, false, false, false, false] rfl rfl (any_of HT_.out (by kernel_rfl)) (fun _ _ _ h => h) (Or.inl ⟨by rfl, ?_⟩) ?_ ?_
  rotate_left
  · intro w'
    go_simp
    first | done | with_reducible rfl
  rotate_left
  · simp only [Act.put, List.setIfInBounds_toArray, List.set_cons_zero, List.set_cons_succ, i64_w, i32_w]
    rfl
  refine pure_ (i := 11) (N := (some 78)) (v := ?_) (a' := ?_) #[true, true, true, true, true, true, true, true, true, true, true, true, false, false, false, false, false, false, false, false, false, false, false, false, false, false, false, false, false, false, false, false, false, false, false, false, false, false, false, false] rfl rfl (any_of HT_.out (by kernel_rfl)) (fun _ _ _ h => h) (Or.inl ⟨by rfl, ?_⟩) ?_ ?_
  rotate_left
  · intro w'
    go_simp
    first | done | with_reducible rfl
  rotate_left
  · simp only [Act.put, List.setIfInBounds_toArray, List.set_cons_zero, List.set_cons_succ, i64_w, i32_w]
    rfl
  refine pure_ (i := 12) (N := (some 79)) (v := ?_) (a' := ?_) #[true, true, true, true, true, true, true, true, true, true, true, true, true, false, false, false, false, false, false, false, false, false, false, false, false, false, false, false, false, false, false, false, false, false, false, false, false, false, false, false] rfl rfl (any_of HT_.out (by kernel_rfl)) (fun _ _ _ h => h) (Or.inl ⟨by rfl, ?_⟩) ?_ ?_
  rotate_left
  · intro w'
    go_simp
    first | done | with_reducible rfl
  rotate_left
  · simp only [Act.put, List.setIfInBounds_toArray, List.set_cons_zero, List.set_cons_succ, i64_w, i32_w]
    rfl
  refine pure_ (i := 13) (N := (some 80)) (v := ?_) (a' := ?_) #[true, true, true, true, true, true, true, true, true, true, true, true, true, true, false, false, false, false, false, false, false, false, false, false, false, false, false, false, false, false, false, false, false, false, false, false, false, false, false, false] rfl rfl (any_of HT_.out (by kernel_rfl)) (fun _ _ _ h => h) (Or.inl ⟨by rfl, ?_⟩) ?_ ?_
  rotate_left
  · intro w'
    go_simp
    first | done | with_reducible rfl
  rotate_left
  · simp only [Act.put, List.setIfInBounds_toArray, List.set_cons_zero, List.set_cons_succ, i64_w, i32_w]
    rfl
  refine pure_ (i := 14) (N := (some 81)) (v := ?_) (a' := ?_) #[true, true, true, true, true, true, true, true, true, true, true, true, true, true, true, false, false, false, false, false, false, false, false, false, false, false, false, false, false, false, false, false, false, false, false, false, false, false, false, false] rfl rfl (any_of HT_.out (by kernel_rfl)) (fun _ _ _ h => h) (Or.inl ⟨by rfl, ?_⟩) ?_ ?_
  rotate_left
  · intro w'
    go_simp
    first | done | with_reducible rfl
  rotate_left
  · simp only [Act.put, List.setIfInBounds_toArray, List.set_cons_zero, List.set_cons_succ, i64_w, i32_w]
    rfl
  refine pure_ (i := 15) (N := (some 82)) (v := ?_) (a' := ?_) #[true, true, true, true, true, true, true, true, true, true, true, true, true, true, true, true, false, false, false, false, false, false, false, false, false, false, false, false, false, false, false, false, false, false, false, false, false, false, false, false] rfl rfl (any_of HT_.out (by kernel_rfl)) (fun _ _ _ h => h) (Or.inl ⟨by rfl, ?_⟩) ?_ ?_
  rotate_left
  · intro w'
    go_simp
    first | done | with_reducible rfl
  rotate_left
  · simp only [Act.put, List.setIfInBounds_toArray, List.set_cons_zero, List.set_cons_succ, i64_w, i32_w]
    rfl
  refine pure_ (i := 16) (N := (some 83)) (v := ?_) (a' := ?_) #[true, true, true, true, true, true, true, true, true, true, true, true, true, true, true, true, true, false, false, false, false, false, false, false, false, false, false, false, false, false, false, false, false, false, false, false, false, false, false, false] rfl rfl (any_of HT_.out (by kernel_rfl)) (fun _ _ _ h => h) (Or.inl ⟨by rfl, ?_⟩) ?_ ?_
  rotate_left
  · intro w'
    go_simp
    first | done | with_reducible rfl
  rotate_left
  · simp only [Act.put, List.setIfInBounds_toArray, List.set_cons_zero, List.set_cons_succ, i64_w, i32_w]
    rfl
  refine pure_ (i := 17) (N := (some 84)) (v := ?_) (a' := ?_) #[true, true, true, true, true, true, true, true, true, true, true, true, true, true, true, true, true, true, false, false, false, false, false, false, false, false, false, false, false, false, false, false, false, false, false, false, false, false, false, false] rfl rfl (any_of HT_.out (by kernel_rfl)) (fun _ _ _ h => h) (Or.inl ⟨by rfl, ?_⟩) ?_ ?_
  rotate_left
  · intro w'
    go_simp
    first | done | with_reducible rfl
  rotate_left
  · simp only [Act.put, List.setIfInBounds_toArray, List.set_cons_zero, List.set_cons_succ, i64_w, i32_w]
    rfl
  refine pure_ (i := 18) (N := (some 85)) (v := ?_) (a' := ?_) #[true, true, true, true, true, true, true, true, true, true, true, true, true, true, true, true, true, true, true, false, false, false, false, false, false, false, false, false, false, false, false, false, false, false, false, false, false, false, false, false] rfl rfl (any_of HT_.out (by kernel_rfl)) (fun _ _ _ h => h) (Or.inl ⟨by rfl, ?_⟩) ?_ ?_
  rotate_left
  · intro w'
    go_simp
    first | done | with_reducible rfl
  rotate_left
  · simp only [Act.put, List.setIfInBounds_toArray, List.set_cons_zero, List.set_cons_succ, i64_w, i32_w]
    rfl
  refine pure_ (i := 19) (N := (some 86)) (v := ?_) (a' := ?_) #[true, true, true, true, true, true, true, true, true, true, true, true, true, true, true, true, true, true, true, true, false, false, false, false, false, false, false, false, false, false, false, false, false, false, false, false, false, false, false, false] rfl rfl (any_of HT_.out (by kernel_rfl)) (fun _ _ _ h => h) (Or.inl ⟨by rfl, ?_⟩) ?_ ?_
  rotate_left
  · intro w'
    go_simp
    first | done | with_reducible rfl
  rotate_left
  · simp only [Act.put, List.setIfInBounds_toArray, List.set_cons_zero, List.set_cons_succ, i64_w, i32_w]
    rfl
  refine pure_ (i := 20) (N := (some 87)) (v := ?_) (a' := ?_) #[true, true, true, true, true, true, true, true, true, true, true, true, true, true, true, true, true, true, true, true, true, false, false, false, false, false, false, false, false, false, false, false, false, false, false, false, false, false, false, false] rfl rfl (any_of HT_.out (by kernel_rfl)) (fun _ _ _ h => h) (Or.inl ⟨by rfl, ?_⟩) ?_ ?_
  rotate_left
  · intro w'
    go_simp
    first | done | with_reducible rfl
  rotate_left
  · simp only [Act.put, List.setIfInBounds_toArray, List.set_cons_zero, List.set_cons_succ, i64_w, i32_w]
    rfl
  refine take_ (i := 21) (N := (some 88)) (v := ?_) (a' := ?_) #[true, true, true, true, true, true, true, true, true, true, true, true, true, true, true, true, true, true, true, true, true, true, false, false, false, false, false, false, false, false, false, false, false, false, false, false, false, false, false, false] rfl rfl (take_ofW HT_.out HW_.out (by kernel_rfl)) (fun _ _ _ h => h) (Or.inl ⟨by rfl, ?_⟩) hHeld ?_ ?_
  rotate_left
  · rintro w' ⟨s0, s1, s2⟩
    go_simp
    first | done | with_reducible rfl
  rotate_left
  · simp only [Act.put, List.setIfInBounds_toArray, List.set_cons_zero, List.set_cons_succ, i64_w, i32_w]
    rfl
  refine pure_ (i := 22) (N := (some 89)) (v := ?_) (a' := ?_) #[true, true, true, true, true, true, true, true, true, true, true, true, true, true, true, true, true, true, true, true, true, true, true, false, false, false, false, false, false, false, false, false, false, false, false, false, false, false, false, false] rfl rfl (any_of HT_.out (by kernel_rfl)) (fun _ _ _ h => h) (Or.inl ⟨by rfl, ?_⟩) ?_ ?_
  rotate_left
  · intro w'
    go_simp
    first | done | with_reducible rfl
  rotate_left
  · simp only [Act.put, List.setIfInBounds_toArray, List.set_cons_zero, List.set_cons_succ, i64_w, i32_w]
    rfl
  refine pure_ (i := 23) (N := (some 90)) (v := ?_) (a' := ?_) #[true, true, true, true, true, true, true, true, true, true, true, true, true, true, true, true, true, true, true, true, true, true, true, true, false, false, false, false, false, false, false, false, false, false, false, false, false, false, false, false] rfl rfl (any_of HT_.out (by kernel_rfl)) (fun _ _ _ h => h) (Or.inl ⟨by rfl, ?_⟩) ?_ ?_
  rotate_left
  · intro w'
    go_simp
    first | done | with_reducible rfl
  rotate_left
  · simp only [Act.put, List.setIfInBounds_toArray, List.set_cons_zero, List.set_cons_succ, i64_w, i32_w]
    rfl
  refine pure_ (i := 24) (N := (some 91)) (v := ?_) (a' := ?_) #[true, true, true, true, true, true, true, true, true, true, true, true, true, true, true, true, true, true, true, true, true, true, true, true, true, false, false, false, false, false, false, false, false, false, false, false, false, false, false, false] rfl rfl (any_of HT_.out (by kernel_rfl)) (fun _ _ _ h => h) (Or.inl ⟨by rfl, ?_⟩) ?_ ?_
  rotate_left
  · intro w'
    go_simp
    first | done | with_reducible rfl
  rotate_left
  · simp only [Act.put, List.setIfInBounds_toArray, List.set_cons_zero, List.set_cons_succ, i64_w, i32_w]
    rfl
  refine pure_ (i := 25) (N := (some 92)) (v := ?_) (a' := ?_) #[true, true, true, true, true, true, true, true, true, true, true, true, true, true, true, true, true, true, true, true, true, true, true, true, true, true, false, false, false, false, false, false, false, false, false, false, false, false, false, false] rfl rfl (any_of HT_.out (by kernel_rfl)) (fun _ _ _ h => h) (Or.inl ⟨by rfl, ?_⟩) ?_ ?_
  rotate_left
  · intro w'
    go_simp
    first | done | with_reducible rfl
  rotate_left
  · simp only [Act.put, List.setIfInBounds_toArray, List.set_cons_zero, List.set_cons_succ, i64_w, i32_w]
    rfl
  refine pure_ (i := 26) (N := (some 93)) (v := ?_) (a' := ?_) #[true, true, true, true, true, true, true, true, true, true, true, true, true, true, true, true, true, true, true, true, true, true, true, true, true, true, true, false, false, false, false, false, false, false, false, false, false, false, false, false] rfl rfl (any_of HT_.out (by kernel_rfl)) (fun _ _ _ h => h) (Or.inl ⟨by rfl, ?_⟩) ?_ ?_
  rotate_left
  · intro w'
    go_simp
    first | done | with_reducible rfl
  rotate_left
  · simp only [Act.put, List.setIfInBounds_toArray, List.set_cons_zero, List.set_cons_succ, i64_w, i32_w]
    rfl
  refine pure_ (i := 27) (N := (some 94)) (v := ?_) (a' := ?_) #[true, true, true, true, true, true, true, true, true, true, true, true, true, true, true, true, true, true, true, true, true, true, true, true, true, true, true, true, false, false, false, false, false, false, false, false, false, false, false, false] rfl rfl (any_of HT_.out (by kernel_rfl)) (fun _ _ _ h => h) (Or.inl ⟨by rfl, ?_⟩) ?_ ?_
  rotate_left
  · intro w'
    go_simp
    first | done | with_reducible rfl
  rotate_left
  · simp only [Act.put, List.setIfInBounds_toArray, List.set_cons_zero, List.set_cons_succ, i64_w, i32_w]
    rfl
  refine pure_ (i := 29) (N := (some 96)) (v := ?_) (a' := ?_) #[true, true, true, true, true, true, true, true, true, true, true, true, true, true, true, true, true, true, true, true, true, true, true, true, true, true, true, true, false, true, false, false, false, false, false, false, false, false, false, false] rfl rfl (any_of HT_.out (by kernel_rfl)) (fun _ _ _ h => h) (Or.inl ⟨by rfl, ?_⟩) ?_ ?_
  rotate_left
  · intro w'
    go_simp
    first | done | with_reducible rfl
  rotate_left
  · simp only [Act.put, List.setIfInBounds_toArray, List.set_cons_zero, List.set_cons_succ, i64_w, i32_w]
    rfl
  refine take_ (i := 30) (N := (some 97)) (v := ?_) (a' := ?_) #[true, true, true, true, true, true, true, true, true, true, true, true, true, true, true, true, true, true, true, true, true, true, true, true, true, true, true, true, false, true, true, false, false, false, false, false, false, false, false, false] rfl rfl (take_ofW HT_.out HW_.out (by kernel_rfl)) (fun _ _ _ h => h) (Or.inl ⟨by rfl, ?_⟩) hHeld ?_ ?_
  rotate_left
  · rintro w' ⟨s0, s1, s2⟩
    go_simp
    first | done | with_reducible rfl
  rotate_left
  · simp only [Act.put, List.setIfInBounds_toArray, List.set_cons_zero, List.set_cons_succ, i64_w, i32_w]
    rfl
  refine pure_ (i := 32) (N := (some 99)) (v := ?_) (a' := ?_) #[true, true, true, true, true, true, true, true, true, true, true, true, true, true, true, true, true, true, true, true, true, true, true, true, true, true, true, true, false, true, true, false, true, false, false, false, false, false, false, false] rfl rfl (any_of HT_.out (by kernel_rfl)) (fun _ _ _ h => h) (Or.inl ⟨by rfl, ?_⟩) ?_ ?_
  rotate_left
  · intro w'
    go_simp
    first | done | with_reducible rfl
  rotate_left
  · simp only [Act.put, List.setIfInBounds_toArray, List.set_cons_zero, List.set_cons_succ, i64_w, i32_w]
    rfl
  refine pure_ (i := 33) (N := (some 100)) (v := ?_) (a' := ?_) #[true, true, true, true, true, true, true, true, true, true, true, true, true, true, true, true, true, true, true, true, true, true, true, true, true, true, true, true, false, true, true, false, true, true, false, false, false, false, false, false] rfl rfl (any_of HT_.out (by kernel_rfl)) (fun _ _ _ h => h) (Or.inl ⟨by rfl, ?_⟩) ?_ ?_
  rotate_left
  · intro w'
    go_simp
    first | done | with_reducible rfl
  rotate_left
  · simp only [Act.put, List.setIfInBounds_toArray, List.set_cons_zero, List.set_cons_succ, i64_w, i32_w]
    rfl
  refine one_ (i := 28) (N := (some 95)) #[true, true, true, true, true, true, true, true, true, true, true, true, true, true, true, true, true, true, true, true, true, true, true, true, true, true, true, true, true, true, true, false, true, true, false, false, false, false, false, false] rfl rfl (one_of HT_.out (by kernel_rfl)) (by decide) (fun K hK => ?_)
  refine goes_ Try.func18 (by kernel_rfl) rfl #[.pointer (some ⟨qq, 0, none⟩)] (by rfl) rfl rfl (by (try simp only [List.map_toArray, List.map_cons, List.map_nil]); first | done | rfl) ?_
  with_reducible refine (sc_seq (HS12.out.step (below_drew (Below.refl _ _))) (by simp)).mono ?_
  rintro ev_ w13 ⟨rfl, hb13_⟩
  refine ⟨_, rfl, ?_⟩
  rw [hmq]
  have HS13 := Aside0.mk ((HS12.out.step (below_drew (Below.refl _ _))).step hb13_)
  have HX13 := Aside0.mk (blk_below HX3.out HS13.out.below)
  clear hb13_
  refine hK.out _ _ (shHeld3 HX13.out (Below.refl _ _)) (fun hHeld => ?_)
  clear hK K
  refine norm_ (a' := ?_) ?_ ?_
  rotate_left
  · show Act.put _ (some 95) _ = _
    simp only [Act.put, List.setIfInBounds_toArray, List.set_cons_zero, List.set_cons_succ, i64_w, i32_w]
    rfl
  refine pure_ (i := 31) (N := (some 98)) (v := ?_) (a' := ?_) #[true, true, true, true, true, true, true, true, true, true, true, true, true, true, true, true, true, true, true, true, true, true, true, true, true, true, true, true, true, true, true, true, true, true, false, false, false, false, false, false] rfl rfl (any_of HT_.out (by kernel_rfl)) (fun _ _ _ h => h) (Or.inl ⟨by rfl, ?_⟩) ?_ ?_
  rotate_left
  · intro w'
    go_simp
    first | done | with_reducible rfl
  rotate_left
  · simp only [Act.put, List.setIfInBounds_toArray, List.set_cons_zero, List.set_cons_succ, i64_w, i32_w]
    rfl
  refine pure_ (i := 34) (N := (some 101)) (v := ?_) (a' := ?_) #[true, true, true, true, true, true, true, true, true, true, true, true, true, true, true, true, true, true, true, true, true, true, true, true, true, true, true, true, true, true, true, true, true, true, true, false, false, false, false, false] rfl rfl (any_of HT_.out (by kernel_rfl)) (fun _ _ _ h => h) (Or.inl ⟨by rfl, ?_⟩) ?_ ?_
  rotate_left
  · intro w'
    go_simp
    first | done | with_reducible rfl
  rotate_left
  · simp only [Act.put, List.setIfInBounds_toArray, List.set_cons_zero, List.set_cons_succ, i64_w, i32_w]
    rfl
  refine pure_ (i := 35) (N := (some 102)) (v := ?_) (a' := ?_) #[true, true, true, true, true, true, true, true, true, true, true, true, true, true, true, true, true, true, true, true, true, true, true, true, true, true, true, true, true, true, true, true, true, true, true, true, false, false, false, false] rfl rfl (any_of HT_.out (by kernel_rfl)) (fun _ _ _ h => h) (Or.inl ⟨by rfl, ?_⟩) ?_ ?_
  rotate_left
  · intro w'
    go_simp
    first | done | with_reducible rfl
  rotate_left
  · simp only [Act.put, List.setIfInBounds_toArray, List.set_cons_zero, List.set_cons_succ, i64_w, i32_w]
    rfl
  refine pure_ (i := 36) (N := (some 103)) (v := ?_) (a' := ?_) #[true, true, true, true, true, true, true, true, true, true, true, true, true, true, true, true, true, true, true, true, true, true, true, true, true, true, true, true, true, true, true, true, true, true, true, true, true, false, false, false] rfl rfl (any_of HT_.out (by kernel_rfl)) (fun _ _ _ h => h) (Or.inl ⟨by rfl, ?_⟩) ?_ ?_
  rotate_left
  · intro w'
    go_simp
    first | done | with_reducible rfl
  rotate_left
  · simp only [Act.put, List.setIfInBounds_toArray, List.set_cons_zero, List.set_cons_succ, i64_w, i32_w]
    rfl
  refine one_ (i := 37) (N := (some 104)) #[true, true, true, true, true, true, true, true, true, true, true, true, true, true, true, true, true, true, true, true, true, true, true, true, true, true, true, true, true, true, true, true, true, true, true, true, true, true, false, false] rfl rfl (one_of HT_.out (by kernel_rfl)) (by decide) (fun K hK => ?_)
  refine goes_ Try.func9 (by kernel_rfl) rfl #[] (by rfl) rfl rfl (by (try simp only [List.map_toArray, List.map_cons, List.map_nil]); first | done | rfl) ?_
  with_reducible refine (awake11 _).mono ?_
  rintro ev_ w14 ⟨rfl, hb14_⟩
  refine ⟨_, rfl, ?_⟩
  have HB14 := Aside0.mk (HS13.out.step hb14_).below
  have HX14 := Aside0.mk (blk_below HX3.out HB14.out)
  clear hb14_
  refine hK.out _ _ (shHeld3 HX14.out (Below.refl _ _)) (fun hHeld => ?_)
  clear hK K
  refine norm_ (a' := ?_) ?_ ?_
  rotate_left
  · show Act.put _ (some 104) _ = _
    simp only [Act.put, List.setIfInBounds_toArray, List.set_cons_zero, List.set_cons_succ, i64_w, i32_w]
    rfl
  refine pure_ (i := 38) (N := (some 105)) (v := ?_) (a' := ?_) #[true, true, true, true, true, true, true, true, true, true, true, true, true, true, true, true, true, true, true, true, true, true, true, true, true, true, true, true, true, true, true, true, true, true, true, true, true, true, true, false] rfl rfl (any_of HT_.out (by kernel_rfl)) (fun _ _ _ h => h) (Or.inl ⟨by rfl, ?_⟩) ?_ ?_
  rotate_left
  · intro w'
    go_simp
    first | done | with_reducible rfl
  rotate_left
  · simp only [Act.put, List.setIfInBounds_toArray, List.set_cons_zero, List.set_cons_succ, i64_w, i32_w]
    rfl
  refine pure_ (i := 39) (N := (some 4)) (v := ?_) (a' := ?_) #[true, true, true, true, true, true, true, true, true, true, true, true, true, true, true, true, true, true, true, true, true, true, true, true, true, true, true, true, true, true, true, true, true, true, true, true, true, true, true, true] rfl rfl (any_of HT_.out (by kernel_rfl)) (fun _ _ _ h => h) (Or.inl ⟨by rfl, ?_⟩) ?_ ?_
  rotate_left
  · intro w'
    go_simp
    first | done | with_reducible rfl
  rotate_left
  · simp only [Act.put, List.setIfInBounds_toArray, List.set_cons_zero, List.set_cons_succ, i64_w, i32_w]
    rfl
  refine done_ (done_of HT_.out (by kernel_rfl)) ?_
  go_wp2_with fail
  go_ret
  exact ⟨rfl, below_step HB3.out ((HB14.out))⟩

set_option maxHeartbeats 4000000 in
set_option maxRecDepth 100000 in
theorem tornC {W : World} {x : S28} {A : Option Addr} {c : Nat} (a1 : Int) (hz : x.f2.length ≤ c) (hC : Kd.C (Kd.int .u8) W A x.f2.length x.f2) (hb : Bytes x.f2) (h100 : x.f2.length ≤ 100) (hm : mayB x.f0 x.f1 x.f2 = true) (k : Nat) (hk : wrap64 (Int.tmod (IntKind.u64.wrap a1) (((laidL x.f0 x.f1 x.f2).length : Int) + 3)) = (k : Int)) (hk2 : k < (laidL x.f0 x.f1 x.f2).length + 3) (hw : k < (laidL x.f0 x.f1 x.f2).length) :
    Calls Try.prog 7 #[.agg #[.int .i64 x.f0, .int .i64 x.f1, .slice A x.f2.length c], .int .i64 a1] W fun e w' => e = .returned (.bool true) ∧ Below W.heap.size W w' := by
  obtain ⟨p, q, d⟩ := x
  simp only at hz hC hb h100 hm hk hk2 hw  ⊢
  skip
  obtain ⟨kk, hk1, hk3⟩ := ref_bytes (x := ⟨p, q, d⟩) hm
  have hrt := root_one (x := ⟨p, q, d⟩) hm
  have HSH := Aside0.mk (sh_part (x := ⟨p, q, d⟩) hb hm hw)
  have hfine := lay_fine (x := ⟨p, q, d⟩) hb hm
  have hq := (mayB_iff.1 hm).2.2.1
  simp only at hk1 hk3 HSH hfine hrt
  obtain ⟨L, hL⟩ : ∃ L, laidL p q d = L := ⟨_, rfl⟩
  rw [hL] at hk hk2 hk3 hw HSH hfine
  have HKL := Aside0.mk hk
  clear hk
  have HC := Aside0.mk hC
  have HZ := Aside0.mk hz
  have HK1 := Aside0.mk hk1
  have HK3 := Aside0.mk hk3
  have HF := Aside0.mk hfine
  have HM := Aside0.mk hm
  have HQ := Aside0.mk hq
  have d1 : decide ((100 : Int) < d.length) = false := decide_eq_false (by omega)
  have dw : decide ((L.length : Int) ≤ k) = false := decide_eq_false (by omega)
  have dw2 : decide (L.length ≤ k) = false := decide_eq_false (by omega)
  have hmq : mostQ (List.map (asF 1 0) ([] : List S28)) = 0 := rfl
  have hrt2 : rootL ([] : List S28) = ⟨0, 0, []⟩ := rfl
  have dq0 : decide ((0 : Int) = q) = false := decide_eq_false (by omega)
  have dq1 : ((0 : Int) == q) = false := by rw [beq_eq_false_iff_ne]; omega
  have hlen0 : ((L.length : Int) + 3 == 0) = false := by rw [beq_eq_false_iff_ne]; omega
  have HW := Aside0.mk hw
  have HK2 := Aside0.mk hk2
  clear hC hz hk1 hk3 hfine hm hb hq hL hrt hw hk2
  obtain ⟨sb, hsb⟩ : ∃ sb, W.heap.size = sb := ⟨_, rfl⟩
  obtain ⟨w1, hw1⟩ : ∃ w1, W.alloc (.cells #[.int .i64 p, .int .i64 q, .slice A d.length c] 28) = w1 := ⟨_, rfl⟩
  have HB1 : Aside0 (Below W.heap.size W w1) := ⟨by rw [← hw1]; exact below_alloc (Below.refl _ _) _⟩
  have HX1 : Aside0 (w1.heap[sb]? = some (.cells #[.int .i64 p, .int .i64 q, .slice A d.length c] 28 (0, 0))) := ⟨by rw [← hw1, ← hsb]; exact blk_new W _⟩
  go_enter Try.func7, Try.ntmps7
  go_upto_region 1 with fail
  clear hw1
  obtain ⟨q0, q1, q2, q3, q4, q5⟩ := Parse.three HX1.out
  go_wp2_with fail
  refine (potsherdref3_MaySheet.calls kk p q A c d true w1 (Kd.C_below HC.out HB1.out) HZ.out HK1.out).mono ?_
  rintro ev w2 ⟨rfl, hb⟩
  have HB2 := Aside0.mk (below_step HB1.out hb)
  have HX2 := Aside0.mk (blk_below HX1.out hb)
  clear q0 q1 q2 q3 q4 q5 hb HB1 HX1
  obtain ⟨q0, q1, q2, q3, q4, q5⟩ := Parse.three HX2.out
  go_wp2_with fail
  refine (potsherdref3_SheetBytes.calls kk p q A c d L 0 w2 (Kd.C_below HC.out HB2.out) HZ.out HK3.out).mono ?_
  rintro ev w3 ⟨v, rfl, hR, hb⟩
  have HB3 := Aside0.mk (below_step HB2.out hb)
  have HX3 := Aside0.mk (blk_below HX2.out hb)
  obtain ⟨A3, c3, rfl, hc3, hC3⟩ := Kd.R_reads hR
  have HC3 := Aside0.mk hC3
  have HC3L := Aside0.mk hc3
  have HA3 : Aside0 (∀ ad, A3 = some ad → ad.block < w3.heap.size) := ⟨fun ad hA => (R_at hR ad hA).2⟩
  clear q0 q1 q2 q3 q4 q5 hb HB2 HX2 hR hC3 HC HZ HK1 HK3
  have hL2 := HF.out.2.2
  have hwr := wrap_small ((L.length : Int) + 3) (by omega) (by omega)
  have hsm : IntKind.u64.wrap ((L.length : Int) + 3) = (L.length : Int) + 3 := by rw [IntKind.wrap_u64]; omega
  clear hL2
  go_upto_region 5 with fail
  rw [HKL.out]
  go_wp2_with fail
  refine (newH w3 2 2 none 0 [] (C_none8 w3) (by decide) (by decide) (by decide) (by decide) (by decide) (by decide)).mono ?_
  rintro ev w4 ⟨g, rfl, hh, hbn⟩
  obtain ⟨S, hS⟩ : ∃ S : Nat → Prop, (fun k => w3.heap.size ≤ k ∧ k < w4.heap.size) = S := ⟨_, rfl⟩
  rw [hS, new_mkC] at hh
  have HBN4 := Aside0.mk hbn
  have HH4 := Aside0.mk hh
  clear hh hbn hS
  go_wp2_with fail
  refine (cutH HH4.out 0 k (by decide) (by have := HF.out.2.2; have := HK2.out; omega)).mono ?_
  rintro ev w5 ⟨⟨v, rfl⟩, hh5, hn5⟩
  have HBN5 := Aside0.mk (HBN4.out.trans hn5.bel)
  have HH5 := Aside0.mk hh5
  clear hh5 hn5 HH4 HBN4
  go_wp2_with fail
  refine (programH HH5.out 1 0 A3 c3 L (Kd.C_below HC3.out HBN5.out) HC3L.out (fun ad hA => by
    have h1_ := HA3.out ad hA
    have h2_ := HBN5.out.size
    refine ⟨by omega, fun hs => ?_⟩
    have h3_ := HH5.out.chip.okb _ hs
    omega)).mono ?_
  rintro ev w6 ⟨rfl, S6, hh6, hn6⟩
  obtain ⟨t1, -, t3⟩ := torn_mk (p := 2) (L := List.replicate 2 []) 0 0 0 (k : Int) (i := 1) (B := []) L (Int.natCast_nonneg k) rfl (by decide) (by decide) HF.out.2.1 HF.out.2.2
  have t1' : (progS (cutS (mkC 2 (List.replicate 2 []) 0 0 0) 0 k) 1 0 L).2 = 2 := t1
  rw [t1']
  have HT3 : Aside0 (powerS (progS (cutS (mkC 2 (List.replicate 2 []) 0 0 0) 0 k) 1 0 L).1 = mkC 2 (tnL (L.take k)) 0 (wrap64 (0 + 1)) k) := ⟨t3⟩
  have HBN6 := Aside0.mk (HBN5.out.trans hn6.bel)
  have HH6 := Aside0.mk hh6
  clear hh6 hn6 t1 t1' t3 HH5 HBN5
  go_wp2_with fail
  refine (powerH HH6.out).mono ?_
  rintro ev w7 ⟨⟨v, rfl⟩, hh7, hn7⟩
  rw [HT3.out] at hh7
  have HBN7 := Aside0.mk (HBN6.out.trans hn7.bel)
  have HH7 := Aside0.mk hh7
  clear hh7 hn7 HH6 HBN6 HT3
  have HOK := Aside0.mk (tn_ok (HF.out.1.take k) (by rw [List.length_take]; have := HF.out.2.2; omega))
  go_wp2_with fail
  refine (sd_new HBN7.out HH7.out HOK.out (by simp [tnL])).mono ?_
  rintro ev w8 ⟨qq, rfl, -, -, hs8⟩
  have HS8 := Aside0.mk hs8
  clear hs8 HH7 HBN7
  go_wp2_with fail
  refine (sd_step HS8.out HOK.out (by simp [tnL]) (by simp [tnL]) (by decide) (by decide) 10 (by decide) (Nat.zero_le _) 4 (by simp [tnL])).mono ?_
  rintro ev w9 ⟨rfl, hs9⟩
  have hs9' := hs9.over (by simp [tnL]) (by simp [tnL]) (by decide) (by decide) (by simp [tnL])
  rw [tn_F, tn_N, HSH.out] at hs9'
  have HS9 := Aside0.mk hs9'
  clear hs9 HS8 hs9'
  rw [show decide ((tnL (L.take k)).length * 2 ≤ 4) = true from rfl]
  go_wp2_with fail
  refine (sc_found HS9.out (by simp)).mono ?_
  rintro ev w10 ⟨v, rfl, hR, hb10⟩
  obtain ⟨A10, c10, rfl, -, -⟩ := Kd.R_reads hR
  have HS10 := Aside0.mk (HS9.out.step hb10)
  clear hR hb10 HS9
  rw [show (List.map (asF 1 0) ([] : List S28)).length = 0 from rfl]
  go_wp2_with fail
  clear dw dw2
  refine (mroot HS10.out (by simp) (fun y hy => by cases hy) (by rw [hrt2]; exact Int.le_refl _)).mono ?_
  rintro ev w11 ⟨v, rfl, hR, hb11⟩
  rw [hrt2] at hR ⊢
  obtain ⟨A11, c11, rfl, -, -⟩ := Kd.R_reads hR
  have HS11 := Aside0.mk (HS10.out.step hb11)
  clear hR hb11 HS10
  simp only [Int.lt_irrefl, decide_false]
  go_upto_region 16 with fail
  obtain ⟨w12, hw12⟩ : ∃ w12, w11.alloc (.cells #[.int .i64 0, .int .i64 0, .slice A11 0 c11] 28) = w12 := ⟨_, rfl⟩
  have HS12 : Aside0 (Sc w3 w12 _ _ _ _ _ _ _ _) := ⟨by rw [← hw12]; exact HS11.out.step (below_alloc (Below.refl _ _) _)⟩
  have HX12 := Aside0.mk (blk_below HX3.out HS12.out.below)
  try rw [hw12]
  clear hw12 HS11
  refine start_ (n := 40) (S := fun w' => w'.cell? ⟨sb, 0, none⟩ = some (.int .i64 p) ∧ w'.cell? ⟨sb, 1, none⟩ = some (.int .i64 q) ∧ w'.cell? ⟨sb, 2, none⟩ = some (.slice A d.length c)) (ds := []) #[false, false, false, false, false, false, false, false, false, false, false, false, false, false, false, false, false, false, false, false, false, false, false, false, false, false, false, false, false, false, false, false, false, false, false, false, false, false, false, false] (by kernel_rfl) rfl rfl (shHeld3 HX12.out (below_drew (Below.refl _ _))) (fun hHeld => ?_)
  refine with_tabW reg_LwTorn_16.tab reg_LwTorn_16.bits (fun HT_ HW_ => ?_)
  refine pure_ (i := 0) (N := (some 67)) (v := ?_) (a' := ?_) #[true, false, false, false, false, false, false, false, false, false, false, false, false, false, false, false, false, false, false, false, false, false, false, false, false, false, false, false, false, false, false, false, false, false, false, false, false, false, false, false] rfl rfl (any_of HT_.out (by kernel_rfl)) (fun _ _ _ h => h) (Or.inl ⟨by rfl, ?_⟩) ?_ ?_
  rotate_left
  · intro w'
    go_simp
    first | done | with_reducible rfl
  rotate_left
  · simp only [Act.put, List.setIfInBounds_toArray, List.set_cons_zero, List.set_cons_succ, i64_w, i32_w]
    rfl
  refine pure_ (i := 1) (N := (some 68)) (v := ?_) (a' := ?_) #[true, true, false, false, false, false, false, false, false, false, false, false, false, false, false, false, false, false, false, false, false, false, false, false, false, false, false, false, false, false, false, false, false, false, false, false, false, false, false, false] rfl rfl (any_of HT_.out (by kernel_rfl)) (fun _ _ _ h => h) (Or.inl ⟨by rfl, ?_⟩) ?_ ?_
  rotate_left
  · intro w'
    go_simp
    first | done | with_reducible rfl
  rotate_left
  · simp only [Act.put, List.setIfInBounds_toArray, List.set_cons_zero, List.set_cons_succ, i64_w, i32_w]
    rfl
  refine pure_ (i := 2) (N := (some 69)) (v := ?_) (a' := ?_) #[true, true, true, false, false, false, false, false, false, false, false, false, false, false, false, false, false, false, false, false, false, false, false, false, false, false, false, false, false, false, false, false, false, false, false, false, false, false, false, false] rfl rfl (any_of HT_.out (by kernel_rfl)) (fun _ _ _ h => h) (Or.inl ⟨by rfl, ?_⟩) ?_ ?_
  rotate_left
  · intro w'
    go_simp
    first | done | with_reducible rfl
  rotate_left
  · simp only [Act.put, List.setIfInBounds_toArray, List.set_cons_zero, List.set_cons_succ, i64_w, i32_w]
    rfl
  refine pure_ (i := 3) (N := (some 70)) (v := ?_) (a' := ?_) #[true, true, true, true, false, false, false, false, false, false, false, false, false, false, false, false, false, false, false, false, false, false, false, false, false, false, false, false, false, false, false, false, false, false, false, false, false, false, false, false] rfl rfl (any_of HT_.out (by kernel_rfl)) (fun _ _ _ h => h) (Or.inl ⟨by rfl, ?_⟩) ?_ ?_
  rotate_left
  · intro w'
    go_simp
    first | done | with_reducible rfl
  rotate_left
  · simp only [Act.put, List.setIfInBounds_toArray, List.set_cons_zero, List.set_cons_succ, i64_w, i32_w]
    rfl
  refine pure_ (i := 4) (N := (some 71)) (v := ?_) (a' := ?_) #[true, true, true, true, true, false, false, false, false, false, false, false, false, false, false, false, false, false, false, false, false, false, false, false, false, false, false, false, false, false, false, false, false, false, false, false, false, false, false, false] rfl rfl (any_of HT_.out (by kernel_rfl)) (fun _ _ _ h => h) (Or.inl ⟨by rfl, ?_⟩) ?_ ?_
  rotate_left
  · intro w'
    go_simp
    first | done | with_reducible rfl
  rotate_left
  · simp only [Act.put, List.setIfInBounds_toArray, List.set_cons_zero, List.set_cons_succ, i64_w, i32_w]
    rfl
  refine pure_ (i := 5) (N := (some 72)) (v := ?_) (a' := ?_) #[true, true, true, true, true, true, false, false, false, false, false, false, false, false, false, false, false, false, false, false, false, false, false, false, false, false, false, false, false, false, false, false, false, false, false, false, false, false, false, false] rfl rfl (any_of HT_.out (by kernel_rfl)) (fun _ _ _ h => h) (Or.inl ⟨by rfl, ?_⟩) ?_ ?_
  rotate_left
  · intro w'
    go_simp
    first | done | with_reducible rfl
  rotate_left
  · simp only [Act.put, List.setIfInBounds_toArray, List.set_cons_zero, List.set_cons_succ, i64_w, i32_w]
    rfl
  refine pure_ (i := 6) (N := (some 73)) (v := ?_) (a' := ?_) #[true, true, true, true, true, true, true, false, false, false, false, false, false, false, false, false, false, false, false, false, false, false, false, false, false, false, false, false, false, false, false, false, false, false, false, false, false, false, false, false] rfl rfl (any_of HT_.out (by kernel_rfl)) (fun _ _ _ h => h) (Or.inl ⟨by rfl, ?_⟩) ?_ ?_
  rotate_left
  · intro w'
    go_simp
    first | done | with_reducible rfl
  rotate_left
  · simp only [Act.put, List.setIfInBounds_toArray, List.set_cons_zero, List.set_cons_succ, i64_w, i32_w]
    rfl
  refine pure_ (i := 7) (N := (some 74)) (v := ?_) (a' := ?_) #[true, true, true, true, true, true, true, true, false, false, false, false, false, false, false, false, false, false, false, false, false, false, false, false, false, false, false, false, false, false, false, false, false, false, false, false, false, false, false, false] rfl rfl (any_of HT_.out (by kernel_rfl)) (fun _ _ _ h => h) (Or.inl ⟨by rfl, ?_⟩) ?_ ?_
  rotate_left
  · intro w'
    go_simp
    first | done | with_reducible rfl
  rotate_left
  · simp only [Act.put, List.setIfInBounds_toArray, List.set_cons_zero, List.set_cons_succ, i64_w, i32_w]
    rfl
  refine pure_ (i := 8) (N := (some 75)) (v := ?_) (a' := ?_) #[true, true, true, true, true, true, true, true, true, false, false, false, false, false, false, false, false, false, false, false, false, false, false, false, false, false, false, false, false, false, false, false, false, false, false, false, false, false, false, false] rfl rfl (any_of HT_.out (by kernel_rfl)) (fun _ _ _ h => h) (Or.inl ⟨by rfl, ?_⟩) ?_ ?_
  rotate_left
  · intro w'
    go_simp
    first | done | with_reducible rfl
  rotate_left
  · simp only [Act.put, List.setIfInBounds_toArray, List.set_cons_zero, List.set_cons_succ, i64_w, i32_w]
    rfl
  refine pure_ (i := 9) (N := (some 76)) (v := ?_) (a' := ?_) #[true, true, true, true, true, true, true, true, true, true, false, false, false, false, false, false, false, false, false, false, false, false, false, false, false, false, false, false, false, false, false, false, false, false, false, false, false, false, false, false] rfl rfl (any_of HT_.out (by kernel_rfl)) (fun _ _ _ h => h) (Or.inl ⟨by rfl, ?_⟩) ?_ ?_
  rotate_left
  · intro w'
    go_simp
    first | done | with_reducible rfl
  rotate_left
  · simp only [Act.put, List.setIfInBounds_toArray, List.set_cons_zero, List.set_cons_succ, i64_w, i32_w]
    rfl
  refine pure_ (i := 10) (N := (some 77)) (v := ?_) (a' := ?_) #[true, true, true, true, true, true, true, true, true, true, true, false, false, false, false, false, false, false, false, false, false, false, false, false, false, false, false, false, false, false, false, false, false, false, false, false, false, false, false, false] rfl rfl (any_of HT_.out (by kernel_rfl)) (fun _ _ _ h => h) (Or.inl ⟨by rfl, ?_⟩) ?_ ?_
  rotate_left
  · intro w'
    go_simp
    first | done | with_reducible rfl
  rotate_left
  · simp only [Act.put, List.setIfInBounds_toArray, List.set_cons_zero, List.set_cons_succ, i64_w, i32_w]
    rfl
  refine pure_ (i := 11) (N := (some 78)) (v := ?_) (a' := ?_) #[true, true, true, true, true, true, true, true, true, true, true, true, false, false, false, false, false, false, false, false, false, false, false, false, false, false, false, false, false, false, false, false, false, false, false, false, false, false, false, false] rfl rfl (any_of HT_.out (by kernel_rfl)) (fun _ _ _ h => h) (Or.inl ⟨by rfl, ?_⟩) ?_ ?_
  rotate_left
  · intro w'
    go_simp
    first | done | with_reducible rfl
  rotate_left
  · simp only [Act.put, List.setIfInBounds_toArray, List.set_cons_zero, List.set_cons_succ, i64_w, i32_w]
    rfl
  refine pure_ (i := 12) (N := (some 79)) (v := ?_) (a' := ?_) #[true, true, true, true, true, true, true, true, true, true, true, true, true, false, false, false, false, false, false, false, false, false, false, false, false, false, false, false, false, false, false, false, false, false, false, false, false, false, false, false] rfl rfl (any_of HT_.out (by kernel_rfl)) (fun _ _ _ h => h) (Or.inl ⟨by rfl, ?_⟩) ?_ ?_
  rotate_left
  · intro w'
    go_simp
    first | done | with_reducible rfl
  rotate_left
  · simp only [Act.put, List.setIfInBounds_toArray, List.set_cons_zero, List.set_cons_succ, i64_w, i32_w]
    rfl
  refine pure_ (i := 13) (N := (some 80)) (v := ?_) (a' := ?_) #[true, true, true, true, true, true, true, true, true, true, true, true, true, true, false, false, false, false, false, false, false, false, false, false, false, false, false, false, false, false, false, false, false, false, false, false, false, false, false, false] rfl rfl (any_of HT_.out (by kernel_rfl)) (fun _ _ _ h => h) (Or.inl ⟨by rfl, ?_⟩) ?_ ?_
  rotate_left
  · intro w'
    go_simp
    first | done | with_reducible rfl
  rotate_left
  · simp only [Act.put, List.setIfInBounds_toArray, List.set_cons_zero, List.set_cons_succ, i64_w, i32_w]
    rfl
  refine pure_ (i := 14) (N := (some 81)) (v := ?_) (a' := ?_) #[true, true, true, true, true, true, true, true, true, true, true, true, true, true, true, false, false, false, false, false, false, false, false, false, false, false, false, false, false, false, false, false, false, false, false, false, false, false, false, false] rfl rfl (any_of HT_.out (by kernel_rfl)) (fun _ _ _ h => h) (Or.inl ⟨by rfl, ?_⟩) ?_ ?_
  rotate_left
  · intro w'
    go_simp
    first | done | with_reducible rfl
  rotate_left
  · simp only [Act.put, List.setIfInBounds_toArray, List.set_cons_zero, List.set_cons_succ, i64_w, i32_w]
    rfl
  refine pure_ (i := 15) (N := (some 82)) (v := ?_) (a' := ?_) #[true, true, true, true, true, true, true, true, true, true, true, true, true, true, true, true, false, false, false, false, false, false, false, false, false, false, false, false, false, false, false, false, false, false, false, false, false, false, false, false] rfl rfl (any_of HT_.out (by kernel_rfl)) (fun _ _ _ h => h) (Or.inl ⟨by rfl, ?_⟩) ?_ ?_
  rotate_left
  · intro w'
    go_simp
    first | done | with_reducible rfl
  rotate_left
  · simp only [Act.put, List.setIfInBounds_toArray, List.set_cons_zero, List.set_cons_succ, i64_w, i32_w]
    rfl
  refine pure_ (i := 16) (N := (some 83)) (v := ?_) (a' := ?_) #[true, true, true, true, true, true, true, true, true, true, true, true, true, true, true, true, true, false, false, false, false, false, false, false, false, false, false, false, false, false, false, false, false, false, false, false, false, false, false, false] rfl rfl (any_of HT_.out (by kernel_rfl)) (fun _ _ _ h => h) (Or.inl ⟨by rfl, ?_⟩) ?_ ?_
  rotate_left
  · intro w'
    go_simp
    first | done | with_reducible rfl
  rotate_left
  · simp only [Act.put, List.setIfInBounds_toArray, List.set_cons_zero, List.set_cons_succ, i64_w, i32_w]
    rfl
  refine pure_ (i := 17) (N := (some 84)) (v := ?_) (a' := ?_) #[true, true, true, true, true, true, true, true, true, true, true, true, true, true, true, true, true, true, false, false, false, false, false, false, false, false, false, false, false, false, false, false, false, false, false, false, false, false, false, false] rfl rfl (any_of HT_.out (by kernel_rfl)) (fun _ _ _ h => h) (Or.inl ⟨by rfl, ?_⟩) ?_ ?_
  rotate_left
  · intro w'
    go_simp
    first | done | with_reducible rfl
  rotate_left
  · simp only [Act.put, List.setIfInBounds_toArray, List.set_cons_zero, List.set_cons_succ, i64_w, i32_w]
    rfl
  refine pure_ (i := 18) (N := (some 85)) (v := ?_) (a' := ?_) #[true, true, true, true, true, true, true, true, true, true, true, true, true, true, true, true, true, true, true, false, false, false, false, false, false, false, false, false, false, false, false, false, false, false, false, false, false, false, false, false] rfl rfl (any_of HT_.out (by kernel_rfl)) (fun _ _ _ h => h) (Or.inl ⟨by rfl, ?_⟩) ?_ ?_
  rotate_left
  · intro w'
    go_simp
    first | done | with_reducible rfl
  rotate_left
  · simp only [Act.put, List.setIfInBounds_toArray, List.set_cons_zero, List.set_cons_succ, i64_w, i32_w]
    rfl
  refine pure_ (i := 19) (N := (some 86)) (v := ?_) (a' := ?_) #[true, true, true, true, true, true, true, true, true, true, true, true, true, true, true, true, true, true, true, true, false, false, false, false, false, false, false, false, false, false, false, false, false, false, false, false, false, false, false, false] rfl rfl (any_of HT_.out (by kernel_rfl)) (fun _ _ _ h => h) (Or.inl ⟨by rfl, ?_⟩) ?_ ?_
  rotate_left
  · intro w'
    go_simp
    first | done | with_reducible rfl
  rotate_left
  · simp only [Act.put, List.setIfInBounds_toArray, List.set_cons_zero, List.set_cons_succ, i64_w, i32_w]
    rfl
  refine pure_ (i := 20) (N := (some 87)) (v := undef) (a' := ?_) #[true, true, true, true, true, true, true, true, true, true, true, true, true, true, true, true, true, true, true, true, true, false, false, false, false, false, false, false, false, false, false, false, false, false, false, false, false, false, false, false] rfl rfl (any_of HT_.out (by kernel_rfl)) (fun _ _ _ h => h) (Or.inr ⟨by rfl, rfl⟩) ?_ ?_
  rotate_left
  · simp only [Act.put, List.setIfInBounds_toArray, List.set_cons_zero, List.set_cons_succ, i64_w, i32_w]
    rfl
  refine pure_ (i := 21) (N := (some 88)) (v := undef) (a' := ?_) #[true, true, true, true, true, true, true, true, true, true, true, true, true, true, true, true, true, true, true, true, true, true, false, false, false, false, false, false, false, false, false, false, false, false, false, false, false, false, false, false] rfl rfl (any_of HT_.out (by kernel_rfl)) (fun _ _ _ h => h) (Or.inr ⟨by rfl, rfl⟩) ?_ ?_
  rotate_left
  · simp only [Act.put, List.setIfInBounds_toArray, List.set_cons_zero, List.set_cons_succ, i64_w, i32_w]
    rfl
  refine pure_ (i := 22) (N := (some 89)) (v := undef) (a' := ?_) #[true, true, true, true, true, true, true, true, true, true, true, true, true, true, true, true, true, true, true, true, true, true, true, false, false, false, false, false, false, false, false, false, false, false, false, false, false, false, false, false] rfl rfl (any_of HT_.out (by kernel_rfl)) (fun _ _ _ h => h) (Or.inr ⟨by rfl, rfl⟩) ?_ ?_
  rotate_left
  · simp only [Act.put, List.setIfInBounds_toArray, List.set_cons_zero, List.set_cons_succ, i64_w, i32_w]
    rfl
  refine pure_ (i := 23) (N := (some 90)) (v := ?_) (a' := ?_) #[true, true, true, true, true, true, true, true, true, true, true, true, true, true, true, true, true, true, true, true, true, true, true, true, false, false, false, false, false, false, false, false, false, false, false, false, false, false, false, false] rfl rfl (any_of HT_.out (by kernel_rfl)) (fun _ _ _ h => h) (Or.inl ⟨by rfl, ?_⟩) ?_ ?_
  rotate_left
  · intro w'
    go_simp
    first | done | with_reducible rfl
  rotate_left
  · simp only [Act.put, List.setIfInBounds_toArray, List.set_cons_zero, List.set_cons_succ, i64_w, i32_w]
    rfl
  refine pure_ (i := 24) (N := (some 91)) (v := ?_) (a' := ?_) #[true, true, true, true, true, true, true, true, true, true, true, true, true, true, true, true, true, true, true, true, true, true, true, true, true, false, false, false, false, false, false, false, false, false, false, false, false, false, false, false] rfl rfl (any_of HT_.out (by kernel_rfl)) (fun _ _ _ h => h) (Or.inl ⟨by rfl, ?_⟩) ?_ ?_
  rotate_left
  · intro w'
    go_simp
    first | done | with_reducible rfl
  rotate_left
  · simp only [Act.put, List.setIfInBounds_toArray, List.set_cons_zero, List.set_cons_succ, i64_w, i32_w]
    rfl
  refine pure_ (i := 25) (N := (some 92)) (v := ?_) (a' := ?_) #[true, true, true, true, true, true, true, true, true, true, true, true, true, true, true, true, true, true, true, true, true, true, true, true, true, true, false, false, false, false, false, false, false, false, false, false, false, false, false, false] rfl rfl (any_of HT_.out (by kernel_rfl)) (fun _ _ _ h => h) (Or.inl ⟨by rfl, ?_⟩) ?_ ?_
  rotate_left
  · intro w'
    go_simp
    first | done | with_reducible rfl
  rotate_left
  · simp only [Act.put, List.setIfInBounds_toArray, List.set_cons_zero, List.set_cons_succ, i64_w, i32_w]
    rfl
  refine pure_ (i := 26) (N := (some 93)) (v := ?_) (a' := ?_) #[true, true, true, true, true, true, true, true, true, true, true, true, true, true, true, true, true, true, true, true, true, true, true, true, true, true, true, false, false, false, false, false, false, false, false, false, false, false, false, false] rfl rfl (any_of HT_.out (by kernel_rfl)) (fun _ _ _ h => h) (Or.inl ⟨by rfl, ?_⟩) ?_ ?_
  rotate_left
  · intro w'
    go_simp
    first | done | with_reducible rfl
  rotate_left
  · simp only [Act.put, List.setIfInBounds_toArray, List.set_cons_zero, List.set_cons_succ, i64_w, i32_w]
    rfl
  refine pure_ (i := 27) (N := (some 94)) (v := ?_) (a' := ?_) #[true, true, true, true, true, true, true, true, true, true, true, true, true, true, true, true, true, true, true, true, true, true, true, true, true, true, true, true, false, false, false, false, false, false, false, false, false, false, false, false] rfl rfl (any_of HT_.out (by kernel_rfl)) (fun _ _ _ h => h) (Or.inl ⟨by rfl, ?_⟩) ?_ ?_
  rotate_left
  · intro w'
    go_simp
    first | done | with_reducible rfl
  rotate_left
  · simp only [Act.put, List.setIfInBounds_toArray, List.set_cons_zero, List.set_cons_succ, i64_w, i32_w]
    rfl
  refine pure_ (i := 29) (N := (some 96)) (v := ?_) (a' := ?_) #[true, true, true, true, true, true, true, true, true, true, true, true, true, true, true, true, true, true, true, true, true, true, true, true, true, true, true, true, false, true, false, false, false, false, false, false, false, false, false, false] rfl rfl (any_of HT_.out (by kernel_rfl)) (fun _ _ _ h => h) (Or.inl ⟨by rfl, ?_⟩) ?_ ?_
  rotate_left
  · intro w'
    go_simp
    first | done | with_reducible rfl
  rotate_left
  · simp only [Act.put, List.setIfInBounds_toArray, List.set_cons_zero, List.set_cons_succ, i64_w, i32_w]
    rfl
  refine take_ (i := 30) (N := (some 97)) (v := ?_) (a' := ?_) #[true, true, true, true, true, true, true, true, true, true, true, true, true, true, true, true, true, true, true, true, true, true, true, true, true, true, true, true, false, true, true, false, false, false, false, false, false, false, false, false] rfl rfl (take_ofW HT_.out HW_.out (by kernel_rfl)) (fun _ _ _ h => h) (Or.inl ⟨by rfl, ?_⟩) hHeld ?_ ?_
  rotate_left
  · rintro w' ⟨s0, s1, s2⟩
    go_simp
    first | done | with_reducible rfl
  rotate_left
  · simp only [Act.put, List.setIfInBounds_toArray, List.set_cons_zero, List.set_cons_succ, i64_w, i32_w]
    rfl
  refine pure_ (i := 32) (N := (some 99)) (v := ?_) (a' := ?_) #[true, true, true, true, true, true, true, true, true, true, true, true, true, true, true, true, true, true, true, true, true, true, true, true, true, true, true, true, false, true, true, false, true, false, false, false, false, false, false, false] rfl rfl (any_of HT_.out (by kernel_rfl)) (fun _ _ _ h => h) (Or.inl ⟨by rfl, ?_⟩) ?_ ?_
  rotate_left
  · intro w'
    go_simp
    first | done | with_reducible rfl
  rotate_left
  · simp only [Act.put, List.setIfInBounds_toArray, List.set_cons_zero, List.set_cons_succ, i64_w, i32_w]
    rfl
  refine pure_ (i := 33) (N := (some 100)) (v := ?_) (a' := ?_) #[true, true, true, true, true, true, true, true, true, true, true, true, true, true, true, true, true, true, true, true, true, true, true, true, true, true, true, true, false, true, true, false, true, true, false, false, false, false, false, false] rfl rfl (any_of HT_.out (by kernel_rfl)) (fun _ _ _ h => h) (Or.inl ⟨by rfl, ?_⟩) ?_ ?_
  rotate_left
  · intro w'
    go_simp
    first | done | with_reducible rfl
  rotate_left
  · simp only [Act.put, List.setIfInBounds_toArray, List.set_cons_zero, List.set_cons_succ, i64_w, i32_w]
    rfl
  refine one_ (i := 28) (N := (some 95)) #[true, true, true, true, true, true, true, true, true, true, true, true, true, true, true, true, true, true, true, true, true, true, true, true, true, true, true, true, true, true, true, false, true, true, false, false, false, false, false, false] rfl rfl (one_of HT_.out (by kernel_rfl)) (by decide) (fun K hK => ?_)
  refine goes_ Try.func18 (by kernel_rfl) rfl #[.pointer (some ⟨qq, 0, none⟩)] (by rfl) rfl rfl (by (try simp only [List.map_toArray, List.map_cons, List.map_nil]); first | done | rfl) ?_
  with_reducible refine (sc_seq (HS12.out.step (below_drew (Below.refl _ _))) (by simp)).mono ?_
  rintro ev_ w13 ⟨rfl, hb13_⟩
  refine ⟨_, rfl, ?_⟩
  rw [hmq]
  have HS13 := Aside0.mk ((HS12.out.step (below_drew (Below.refl _ _))).step hb13_)
  have HX13 := Aside0.mk (blk_below HX3.out HS13.out.below)
  clear hb13_
  refine hK.out _ _ (shHeld3 HX13.out (Below.refl _ _)) (fun hHeld => ?_)
  clear hK K
  refine norm_ (a' := ?_) ?_ ?_
  rotate_left
  · show Act.put _ (some 95) _ = _
    simp only [Act.put, List.setIfInBounds_toArray, List.set_cons_zero, List.set_cons_succ, i64_w, i32_w]
    rfl
  refine pure_ (i := 31) (N := (some 98)) (v := ?_) (a' := ?_) #[true, true, true, true, true, true, true, true, true, true, true, true, true, true, true, true, true, true, true, true, true, true, true, true, true, true, true, true, true, true, true, true, true, true, false, false, false, false, false, false] rfl rfl (any_of HT_.out (by kernel_rfl)) (fun _ _ _ h => h) (Or.inl ⟨by rfl, ?_⟩) ?_ ?_
  rotate_left
  · intro w'
    go_simp
    first | done | with_reducible rfl
  rotate_left
  · simp only [Act.put, List.setIfInBounds_toArray, List.set_cons_zero, List.set_cons_succ, i64_w, i32_w]
    rfl
  refine pure_ (i := 34) (N := (some 101)) (v := ?_) (a' := ?_) #[true, true, true, true, true, true, true, true, true, true, true, true, true, true, true, true, true, true, true, true, true, true, true, true, true, true, true, true, true, true, true, true, true, true, true, false, false, false, false, false] rfl rfl (any_of HT_.out (by kernel_rfl)) (fun _ _ _ h => h) (Or.inl ⟨by rfl, ?_⟩) ?_ ?_
  rotate_left
  · intro w'
    go_simp
    first | done | with_reducible rfl
  rotate_left
  · simp only [Act.put, List.setIfInBounds_toArray, List.set_cons_zero, List.set_cons_succ, i64_w, i32_w]
    rfl
  refine pure_ (i := 35) (N := (some 102)) (v := ?_) (a' := ?_) #[true, true, true, true, true, true, true, true, true, true, true, true, true, true, true, true, true, true, true, true, true, true, true, true, true, true, true, true, true, true, true, true, true, true, true, true, false, false, false, false] rfl rfl (any_of HT_.out (by kernel_rfl)) (fun _ _ _ h => h) (Or.inl ⟨by rfl, ?_⟩) ?_ ?_
  rotate_left
  · intro w'
    go_simp
    first | done | with_reducible rfl
  rotate_left
  · simp only [Act.put, List.setIfInBounds_toArray, List.set_cons_zero, List.set_cons_succ, i64_w, i32_w]
    rfl
  refine pure_ (i := 36) (N := (some 103)) (v := ?_) (a' := ?_) #[true, true, true, true, true, true, true, true, true, true, true, true, true, true, true, true, true, true, true, true, true, true, true, true, true, true, true, true, true, true, true, true, true, true, true, true, true, false, false, false] rfl rfl (any_of HT_.out (by kernel_rfl)) (fun _ _ _ h => h) (Or.inl ⟨by rfl, ?_⟩) ?_ ?_
  rotate_left
  · intro w'
    go_simp
    first | done | with_reducible rfl
  rotate_left
  · simp only [Act.put, List.setIfInBounds_toArray, List.set_cons_zero, List.set_cons_succ, i64_w, i32_w]
    rfl
  refine one_ (i := 37) (N := (some 104)) #[true, true, true, true, true, true, true, true, true, true, true, true, true, true, true, true, true, true, true, true, true, true, true, true, true, true, true, true, true, true, true, true, true, true, true, true, true, true, false, false] rfl rfl (one_of HT_.out (by kernel_rfl)) (by decide) (fun K hK => ?_)
  refine goes_ Try.func9 (by kernel_rfl) rfl #[] (by rfl) rfl rfl (by (try simp only [List.map_toArray, List.map_cons, List.map_nil]); first | done | rfl) ?_
  with_reducible refine (awake11 _).mono ?_
  rintro ev_ w14 ⟨rfl, hb14_⟩
  refine ⟨_, rfl, ?_⟩
  have HB14 := Aside0.mk (HS13.out.step hb14_).below
  have HX14 := Aside0.mk (blk_below HX3.out HB14.out)
  clear hb14_
  refine hK.out _ _ (shHeld3 HX14.out (Below.refl _ _)) (fun hHeld => ?_)
  clear hK K
  refine norm_ (a' := ?_) ?_ ?_
  rotate_left
  · show Act.put _ (some 104) _ = _
    simp only [Act.put, List.setIfInBounds_toArray, List.set_cons_zero, List.set_cons_succ, i64_w, i32_w]
    rfl
  refine pure_ (i := 38) (N := (some 105)) (v := ?_) (a' := ?_) #[true, true, true, true, true, true, true, true, true, true, true, true, true, true, true, true, true, true, true, true, true, true, true, true, true, true, true, true, true, true, true, true, true, true, true, true, true, true, true, false] rfl rfl (any_of HT_.out (by kernel_rfl)) (fun _ _ _ h => h) (Or.inl ⟨by rfl, ?_⟩) ?_ ?_
  rotate_left
  · intro w'
    go_simp
    first | done | with_reducible rfl
  rotate_left
  · simp only [Act.put, List.setIfInBounds_toArray, List.set_cons_zero, List.set_cons_succ, i64_w, i32_w]
    rfl
  refine pure_ (i := 39) (N := (some 4)) (v := ?_) (a' := ?_) #[true, true, true, true, true, true, true, true, true, true, true, true, true, true, true, true, true, true, true, true, true, true, true, true, true, true, true, true, true, true, true, true, true, true, true, true, true, true, true, true] rfl rfl (any_of HT_.out (by kernel_rfl)) (fun _ _ _ h => h) (Or.inl ⟨by rfl, ?_⟩) ?_ ?_
  rotate_left
  · intro w'
    go_simp
    first | done | with_reducible rfl
  rotate_left
  · simp only [Act.put, List.setIfInBounds_toArray, List.set_cons_zero, List.set_cons_succ, i64_w, i32_w]
    rfl
  refine done_ (done_of HT_.out (by kernel_rfl)) ?_
  go_wp2_with fail
  go_ret
  exact ⟨rfl, below_step HB3.out ((HB14.out))⟩

theorem tornFinal (W : World) (cs : Array Value) (x : S28) (hK : k28.K W x cs.toList) (hok : (Lit.int .i64 x.f0).wf = true ∧ (Lit.int .i64 x.f1).wf = true ∧ (x.f2.length ≤ maxLen ∧ ∀ y ∈ x.f2, (Lit.int .u8 y).wf = true)) (a1 : Int) (w1 : (Lit.int .i64 a1).wf = true) :
    Calls Try.prog 7 #[.agg cs, .int .i64 a1] W fun e w' => e = .returned (.bool true) ∧ Below W.heap.size W w' := by
  obtain ⟨A, c, rfl, hz, hC⟩ := agg28 hK
  by_cases h : x.f2.length ≤ 100
  · by_cases hm : mayB x.f0 x.f1 x.f2 = true
    · have hb := u8wf hok.2.2.2
      obtain ⟨-, h1, h2⟩ := lay_fine hb hm
      obtain ⟨k, hk1, hk2⟩ := smallW a1 (((laidL x.f0 x.f1 x.f2).length : Int) + 3) (by omega) (by omega)
      by_cases hw : (laidL x.f0 x.f1 x.f2).length ≤ k
      · by_cases hp : x.f0 = 0
        · exact tornA a1 hz hC hb h hm k hk1 (by omega) hw hp
        · exact tornB a1 hz hC hb h hm k hk1 (by omega) hw hp
      · exact tornC a1 hz hC hb h hm k hk1 (by omega) (by omega)
    · exact tornNot a1 hz hC (.inr ⟨h, by simpa using hm⟩)
  · exact tornNot a1 hz hC (.inl (by omega))
end Go.Proofs.Ytkncmbbkehnagaa.Cm

