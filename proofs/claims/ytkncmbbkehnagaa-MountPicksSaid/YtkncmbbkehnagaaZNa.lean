import Derived.Test.YtkncmbbkehnagaaZb10
set_option linter.unusedVariables false
set_option linter.unusedSimpArgs false
/-! MountPicks. -/
namespace Go.Proofs.Ytkncmbbkehnagaa.Cm
open Go.RowKit Go.Proofs.YtkncmbbkehnagaaW.PrintWords Go.Proofs.YtkncmbbkehnagaaW.PrintLast Go.Proofs.YtkncmbbkehnagaaW.PrintMore Go.Proofs.Ytkncmbbkehnagaa.Kp Go.Proofs.Ytkncmbbkehnagaa.Cp Go.Proofs.Ytkncmbbkehnagaa.PAll Go.Proofs.Ytkncmbbkehnagaa.Iter Go.Proofs.Ytkncmbbkehnagaa.St Go.Proofs.Ytkncmbbkehnagaa.Sp Go.Proofs.Ytkncmbbkehnagaa.Pl1 Go.Proofs.Ytkncmbbkehnagaa.Pl2
attribute [local go_sem] max2_int min2_int max_two min_two max_three min_three max_four min_four

set_option maxHeartbeats 4000000 in
set_option maxRecDepth 100000 in
theorem picksNot {W : World} {A : Option Addr} {c : Nat} {l : List S28} (a1 : Int) (hC : Kd.C k28 W A l.length l) (h : l.length < 1 ∨ (1 ≤ l.length ∧ 20 < l.length) ∨ ((1 ≤ l.length ∧ l.length ≤ 20) ∧ l.all ltB = false)) : Calls Try.prog 4 #[.slice A l.length c, .int .i64 a1] W fun e w' => e = .returned (.bool true) ∧ Below W.heap.size W w' := by
  have HC := Aside0.mk hC
  have HH := Aside0.mk h
  clear hC h
  obtain ⟨n, hn⟩ : ∃ n, l.length = n := ⟨_, rfl⟩
  have HN := Aside0.mk hn
  rw [hn]
  have HCn : Aside0 (Kd.C k28 W A l.length l) := HC
  clear HC
  go_enter Try.func4, Try.ntmps4
  rcases HH.out with h | ⟨h1, h⟩ | ⟨⟨h1, h⟩, hm⟩
  · have d1 : decide ((n : Int) < 1) = true := decide_eq_true (by omega)
    have d2 : decide (n < 1) = true := decide_eq_true (by omega)
    clear h hn
    go_wp2_with fail
    refine (awake11 W).mono ?_
    rintro ev w2 ⟨rfl, hb⟩
    go_wp2_with fail
    go_ret
    exact ⟨rfl, hb⟩
  · have d1 : decide ((n : Int) < 1) = false := decide_eq_false (by omega)
    have d2 : decide (n < 1) = false := decide_eq_false (by omega)
    have d3 : decide ((20 : Int) < n) = true := decide_eq_true (by omega)
    have d4 : decide (20 < n) = true := decide_eq_true (by omega)
    clear h h1 hn
    go_wp2_with fail
    refine (awake11 W).mono ?_
    rintro ev w2 ⟨rfl, hb⟩
    go_wp2_with fail
    go_ret
    exact ⟨rfl, hb⟩
  · have d1 : decide ((n : Int) < 1) = false := decide_eq_false (by omega)
    have d2 : decide (n < 1) = false := decide_eq_false (by omega)
    have d3 : decide ((20 : Int) < n) = false := decide_eq_false (by omega)
    have d4 : decide (20 < n) = false := decide_eq_false (by omega)
    have HLL := Aside0.mk (show l.length ≤ 60 by omega)
    clear h h1 hn
    go_wp2_with fail
    rw [← HN.out]
    refine (light11 HCn.out HLL.out).mono ?_
    rintro ev w2 ⟨rfl, hb⟩
    have HB := Aside0.mk hb
    rw [hm]
    clear hb
    go_wp2_with fail
    refine (awake11 w2).mono ?_
    rintro ev w3 ⟨rfl, hb⟩
    have hbb := below_step HB.out hb
    go_wp2_with fail
    go_ret
    exact ⟨rfl, hbb⟩
theorem lit1 (w : World) (p q : Int) : Kd.C k2 (w.alloc (.cells #[.int .i64 p, .int .i64 q] 31)) (some ⟨w.heap.size, 0, none⟩) 1 [(p, q)] := k2_lit (l := [(p, q)]) (by simp) (fun j r hj => by
  match j, hj with
  | 0, hj =>
    obtain rfl : ((p, q) : Rf) = r := by simpa using hj
    exact two (blk_new w _)
  | j + 1, hj => simp at hj)
theorem lit2 (w : World) (p q p' q' : Int) : Kd.C k2 (w.alloc (.cells #[.int .i64 p, .int .i64 q, .int .i64 p', .int .i64 q'] 31)) (some ⟨w.heap.size, 0, none⟩) 2 [(p, q), (p', q')] := k2_lit (l := [(p, q), (p', q')]) (by simp) (fun j r hj => by
  match j, hj with
  | 0, hj =>
    obtain rfl : ((p, q) : Rf) = r := by simpa using hj
    exact ⟨(blk_cell (blk_new w _) 0).trans rfl, (blk_cell (blk_new w _) 1).trans rfl⟩
  | 1, hj =>
    obtain rfl : ((p', q') : Rf) = r := by simpa using hj
    exact ⟨(blk_cell (blk_new w _) 2).trans rfl, (blk_cell (blk_new w _) 3).trans rfl⟩
  | j + 2, hj => simp at hj)
theorem pkHeld {W W1 : World} {b6 b9 : Nat} {p q : Int} (h : W.heap[b6]? = some (.cells #[.int .i64 p, .int .i64 q] 31 (0, 0))) (h9 : W.cell? ⟨b9, 0, none⟩ = some (.int .i64 p) ∧ W.cell? ⟨b9, 1, none⟩ = some (.int .i64 q) ∧ W.cell? ⟨b9, 2, none⟩ = some (.int .i64 1)) (hb : Below W.heap.size W W1) :
    (W1.cell? ⟨b6, 0, none⟩ = some (.int .i64 p) ∧ W1.cell? ⟨b6, 1, none⟩ = some (.int .i64 q)) ∧ W1.cell? ⟨b9, 0, none⟩ = some (.int .i64 p) ∧ W1.cell? ⟨b9, 1, none⟩ = some (.int .i64 q) ∧ W1.cell? ⟨b9, 2, none⟩ = some (.int .i64 1) :=
  ⟨⟨pw_cell_below hb (two h).1, pw_cell_below hb (two h).2⟩, pw_cell_below hb h9.1, pw_cell_below hb h9.2.1, pw_cell_below hb h9.2.2⟩
def reg_LwPicks_19.T : Bool × List (List Nat × List Nat) := (true, [([], []), ([0], [0]), ([1], [1]), ([2], [2]), ([3, 2], [2, 3]), ([4, 2], [2, 4]), ([2, 5], [2, 5]), ([6, 2], [6]), ([7], [7]), ([8, 7], [7, 8]), ([9, 7], [7, 9]), ([10, 7], [7, 10]), ([7], [7]), ([11, 12, 7], [7, 11, 12]), ([7, 13], [7, 13]), ([14, 7], [14]), ([15], [15]), ([16, 15], [15, 16]), ([17, 15], [15, 17]), ([18, 15], [15, 18]), ([19, 15], [15, 19]), ([20, 15], [15, 20]), ([15, 21], [15, 21]), ([22, 15], [22]), ([23], [23]), ([24, 23], [23, 24]), ([23, 25], [23, 25]), ([26, 23], [26]), ([27], [27]), ([28, 27], [27, 28]), ([27, 29], [27, 29]), ([30, 27], [30]), ([31], [31]), ([32, 31], [31, 32]), ([31, 33], [31, 33]), ([34, 31], [34]), ([35], [35]), ([36, 35], [35, 36]), ([37, 35], [35, 37]), ([35, 38], [35, 38]), ([39, 35], [39]), ([40, 40], [40]), ([40, 41], [40, 41]), ([42, 41, 0, 1, 2, 3, 4, 5, 6, 7, 8, 9, 10, 11, 12, 13, 14, 15, 16, 17, 18, 19, 20, 21, 22, 23, 24, 25, 26, 27, 28, 29, 30, 31, 32, 33, 34, 35, 36, 37, 38, 39, 40, 41, 42], [42])])
def reg_LwPicks_19.B : List Nat := [0, 1, 3, 7, 15, 31, 63, 127, 255, 511, 1023, 2047, 255, 8191, 16383, 32767, 65535, 131071, 262143, 524287, 1048575, 2097151, 4194303, 8388607, 16777215, 33554431, 67108863, 134217727, 268435455, 536870911, 1073741823, 2147483647, 4294967295, 8589934591, 17179869183, 34359738367, 68719476735, 137438953471, 274877906943, 549755813887, 1099511627775, 2199023255551, 4398046511103, 8796093022207]
theorem reg_LwPicks_19.tab : rtab .any (opsOf Try.f4 19) = reg_LwPicks_19.T := by kernel_rfl
theorem reg_LwPicks_19.bits : waitsOk reg_LwPicks_19.T.2 reg_LwPicks_19.B = true := by kernel_rfl
set_option maxHeartbeats 4000000 in
set_option maxRecDepth 100000 in
theorem picksWalk {W : World} {A : Option Addr} {c : Nat} {l : List S28} (a1 : Int) (hC : Kd.C k28 W A l.length l) (hz : l.length ≤ c) (hl : 1 ≤ l.length ∧ l.length ≤ 20) (hlt : l.all ltB = true) (hby : ∀ x ∈ l, Bytes x.f2) (kk : Nat) (hkk : wrap64 (Int.tmod (IntKind.u64.wrap a1) (l.length : Int)) = (kk : Int)) (hkl : kk < l.length) :
    Calls Try.prog 4 #[.slice A l.length c, .int .i64 a1] W fun e w' => e = .returned (.bool true) ∧ Below W.heap.size W w' := by
  have HC := Aside0.mk hC
  have HZ := Aside0.mk hz
  have HL := Aside0.mk hl
  have HLT := Aside0.mk hlt
  have HBY := Aside0.mk hby
  have HKK := Aside0.mk hkk
  have HKKL := Aside0.mk hkl
  have d1 : decide ((l.length : Int) < 1) = false := decide_eq_false (by omega)
  have d2 : decide (l.length < 1) = false := decide_eq_false (by omega)
  have d3 : decide ((20 : Int) < l.length) = false := decide_eq_false (by omega)
  have d4 : decide (20 < l.length) = false := decide_eq_false (by omega)
  have hsm : IntKind.u64.wrap (l.length : Int) = (l.length : Int) := by rw [IntKind.wrap_u64]; omega
  have hl0 : ((l.length : Int) == 0) = false := by rw [beq_eq_false_iff_ne]; omega
  clear hC hz hl hlt hby hkk hkl
  go_enter Try.func4, Try.ntmps4
  go_wp2_with fail
  refine (light11 HC.out (by have := HL.out; omega)).mono ?_
  rintro ev w1 ⟨rfl, hb⟩
  rw [HLT.out]
  have HB1 := Aside0.mk hb
  clear hb
  go_wp2_with fail
  clear d1 d2 d3 d4
  refine (newH w1 3 20 none 0 [] (C_none8 w1) (by decide) (by decide) (by decide) (by decide) (by decide) (by decide)).mono ?_
  rintro ev w2 ⟨g, rfl, hh, hbn⟩
  obtain ⟨S0, hS⟩ : ∃ S : Nat → Prop, (fun k => w1.heap.size ≤ k ∧ k < w2.heap.size) = S := ⟨_, rfl⟩
  rw [hS, new_mkC] at hh
  have HBN := Aside0.mk hbn
  have HH0 : Aside0 (Hd w2 w1.heap.size S0 g (mkC 20 (pkL (l.take 0)) 0 0 0)) := ⟨hh⟩
  clear hh hbn hS
  go_upto_region 5 with fail
  go_loopw [38] (fun v38 wr => ∃ (k : Nat) (bp : Int) (S : Nat → Prop), k ≤ l.length ∧ v38 = .int .i64 (k : Int) ∧ Aside0 (Hd wr w1.heap.size S g (mkC 20 (pkL (l.take k)) 0 bp 0)) ∧ Aside0 (∀ x ∈ l.take k, GoodS x) ∧ Aside0 (Below w1.heap.size w1 wr)) (fun v38 _ => l.length - (intOf v38).toNat)
  case atStart => exact ⟨0, 0, S0, Nat.zero_le _, rfl, HH0, ⟨fun x hx => by simp at hx⟩, HBN⟩
  case round =>
    obtain ⟨k, bp, S, hk, rfl, HH, HG, HB⟩ := hrel
    clear HH0 HBN
    by_cases hkl : k < l.length
    · have e4 : decide ((k : Int) < (l.length : Int)) = true := decide_eq_true (by omega)
      have e6 : (k : Int) < (l.length : Int) := by omega
      have HKL := Aside0.mk hkl
      have hw4 : wrap64 ((k : Int) + 1) = ((k + 1 : Nat) : Int) := by rw [show (k : Int) + 1 = ((k + 1 : Nat) : Int) by omega]; exact wrap_small _ (by omega) (by have := HL.out.2; omega)
      have HMS : Aside0 (l.length - ((k + 1 : Nat) : Int).toNat < l.length - ((k : Nat) : Int).toNat) := ⟨by omega⟩
      obtain ⟨x, hx⟩ : ∃ x, l[k]? = some x := ⟨_, List.getElem?_eq_getElem hkl⟩
      have hrd : rd_T28 l (k : Int) = x := by unfold rd_T28; rw [List.getD_eq_getElem?_getD, Int.toNat_natCast, hx]; rfl
      obtain ⟨ad, A5, c5, hA5, x0, x1, x2, hle5, hC5⟩ := at_T28 HC.out (k : Int) (by omega) e6
      have HBW := Aside0.mk (below_step HB1.out HB.out)
      rw [hrd] at x0 x1 x2 hle5 hC5
      rw [Int.toNat_natCast] at x0 x1 x2
      replace x0 := pw_cell_below HBW.out x0
      replace x1 := pw_cell_below HBW.out x1
      replace x2 := pw_cell_below HBW.out x2
      cases hA5
      have HX := Aside0.mk hx
      have HC5 := Aside0.mk hC5
      have HLE5 := Aside0.mk hle5
      have HXM : Aside0 (x ∈ l) := ⟨List.mem_of_getElem? hx⟩
      clear hkl hx hrd hC5 hle5 hk
      go_upto_region 7 with fail
      obtain ⟨w6, hw6⟩ : ∃ w6, wr.alloc (.cells #[.int .i64 x.f0, .int .i64 x.f1, .slice A5 x.f2.length c5] 28) = w6 := ⟨_, rfl⟩
      obtain ⟨b6, hb6⟩ : ∃ x, wr.heap.size = x := ⟨_, rfl⟩
      have hbl6 : Below wr.heap.size wr w6 := by rw [← hw6]; exact below_alloc (Below.refl _ _) _
      have HBW6 := Aside0.mk (below_step HBW.out hbl6)
      have HB6 := Aside0.mk (below_step HB.out hbl6)
      have HH6 := Aside0.mk (HH.out.below hbl6)
      have hx6 : w6.heap[b6]? = some (.cells #[.int .i64 x.f0, .int .i64 x.f1, .slice A5 x.f2.length c5] 28 (0, 0)) := by rw [← hw6, ← hb6]; exact blk_new wr _
      rw [hw6, hb6]
      clear x0 x1 x2
      obtain ⟨x0, x1, x2, z0, z1, z2⟩ := Parse.three hx6
      clear hw6 hb6 hx6 hbl6 HH HB HBW
      obtain ⟨kq, hkq⟩ := (refBytes_ev x.f0 x.f1 x.f2).rounds
      unfold bytesL at hkq
      by_cases hmy : mayB x.f0 x.f1 x.f2 = true
      · rw [if_pos hmy] at hkq
        have HGX : Aside0 (GoodS x) := ⟨⟨hmy, HBY.out x HXM.out⟩⟩
        have HPR := Aside0.mk (pk_prog bp HX.out HL.out.2 HGX.out)
        obtain ⟨X, hX⟩ : ∃ X, laidL x.f0 x.f1 x.f2 = X := ⟨_, rfl⟩
        rw [hX] at hkq HPR
        have HKQ := Aside0.mk hkq
        clear hmy hkq hX
        go_wp2_with fail
        refine (potsherdref3_SheetBytes.calls kq x.f0 x.f1 A5 c5 x.f2 X 0 w6 (Kd.C_below HC5.out HBW6.out) HLE5.out HKQ.out).mono ?_
        rintro ev w11 ⟨v, rfl, hR11, hb11⟩
        obtain ⟨A11, c11, rfl, hz11, hC11⟩ := Kd.R_reads hR11
        have HCH := Aside0.mk (HH6.out.below hb11)
        have HA11 : Aside0 (∀ a_, A11 = some a_ → a_.block < w11.heap.size ∧ ¬ S a_.block) := ⟨fun a_ hA => by
          obtain ⟨q1, q2⟩ := R_at hR11 a_ hA
          refine ⟨q2, fun hs => ?_⟩
          have := HH6.out.lt _ hs
          omega⟩
        have HC11 := Aside0.mk hC11
        have HZ11 := Aside0.mk hz11
        have HB11 := Aside0.mk (below_step HB6.out hb11)
        clear hR11 hb11 hz11 hC11 x0 x1 x2 z0 z1 z2 HH6 HB6 HBW6
        go_wp2_with fail
        refine (programH HCH.out 1 (k : Int) A11 c11 X HC11.out HZ11.out HA11.out).mono ?_
        rintro ev w12 ⟨rfl, S12, hh12, hn12⟩
        rw [HPR.out] at hh12 ⊢
        have HH12 := Aside0.mk hh12
        have HB12 := Aside0.mk (HB11.out.trans hn12.bel)
        clear hh12 hn12 HCH HA11 HC11 HZ11 HB11
        go_wp2_with fail
        go_roundw
        case measure => first | exact HMS.out | (rw [hw4]; exact HMS.out)
        case rel =>
          refine ⟨k + 1, wrap64 (bp + 1), S12, HKL.out, by first | rw [hw4] | rfl, HH12, ⟨fun y hy => ?_⟩, HB12⟩
          rw [take_snoc2 l k x HX.out] at hy
          rcases List.mem_append.1 hy with hy | hy
          · exact HG.out y hy
          · rw [List.mem_singleton.1 hy]
            exact HGX.out
      · rw [if_neg hmy] at hkq
        have HKQ := Aside0.mk hkq
        clear hmy hkq
        go_wp2_with fail
        refine (potsherdref3_SheetBytes.calls kq x.f0 x.f1 A5 c5 x.f2 [] 1 w6 (Kd.C_below HC5.out HBW6.out) HLE5.out HKQ.out).mono ?_
        rintro ev w11 ⟨v, rfl, hR11, hb11⟩
        have HBX := Aside0.mk (below_step HBW6.out hb11)
        clear hR11 hb11 x0 x1 x2 z0 z1 z2
        go_wp2_with fail
        refine (awake11 w11).mono ?_
        rintro ev w12 ⟨rfl, hb12⟩
        have HBF := Aside0.mk (below_step HBX.out hb12)
        clear hb12
        go_wp2_with fail
        go_ret
        exact ⟨rfl, HBF.out⟩
    · have hke : k = l.length := by omega
      have e4 : decide ((k : Int) < (l.length : Int)) = false := decide_eq_false (by omega)
      have e5 : decide (k < l.length) = false := decide_eq_false hkl
      have hg := HG.out
      have hh := HH.out
      rw [hke, List.take_length] at hg hh
      have HGA := Aside0.mk hg
      have HHA := Aside0.mk hh
      clear hke hkl hk hg hh HG HH
      go_wp2_with fail
      refine (sd_new HB.out HHA.out (pkL_ok HL.out.2 HGA.out) (by simp [pkL])).mono ?_
      rintro ev w3 ⟨q, rfl, -, -, hs3⟩
      have HS3 := Aside0.mk hs3
      clear hs3
      go_wp2_with fail
      refine (sd_step HS3.out (pkL_ok HL.out.2 HGA.out) (by simp [pkL]) (by simp [pkL]) (by decide) (by decide) 100 (by decide) (Nat.zero_le _) 60 (by simp [pkL])).mono ?_
      rintro ev w4 ⟨rfl, hs4⟩
      have hs4' := hs4.over (by simp [pkL]) (by simp [pkL]) (by decide) (by decide) (by simp [pkL])
      rw [pk_F HL.out.2 HGA.out, pk_N HL.out.2 HGA.out] at hs4'
      have HS4 := Aside0.mk hs4'
      clear hs4 hs4' HS3 HHA HB
      go_upto_region 13 with fail
      have HBW4 := Aside0.mk (below_step HB1.out HS4.out.below)
      obtain ⟨s, hs⟩ : ∃ s, l[kk]? = some s := ⟨_, List.getElem?_eq_getElem HKKL.out⟩
      have hrd : rd_T28 l (kk : Int) = s := by unfold rd_T28; rw [List.getD_eq_getElem?_getD, Int.toNat_natCast, hs]; rfl
      have hk6 : (kk : Int) < (l.length : Int) := Int.ofNat_lt.2 HKKL.out
      obtain ⟨ad, A5, c5, hA5, x0, x1, x2, hle5, hC5⟩ := at_T28 HC.out (kk : Int) (Int.natCast_nonneg kk) hk6
      rw [hrd] at x0 x1 x2 hle5 hC5
      rw [Int.toNat_natCast] at x0 x1 x2
      replace x0 := pw_cell_below HBW4.out x0
      replace x1 := pw_cell_below HBW4.out x1
      replace x2 := pw_cell_below HBW4.out x2
      cases hA5
      have HSS := Aside0.mk hs
      have hkk := HKK.out
      clear hs hrd hC5 hle5 e4 e5
      go_upto_region 14 with fail
      obtain ⟨w5, hw5⟩ : ∃ w5, w4.alloc (.cells #[.int .i64 s.f0, .int .i64 s.f1, .slice A5 s.f2.length c5] 28) = w5 := ⟨_, rfl⟩
      obtain ⟨b5, hb5⟩ : ∃ x, w4.heap.size = x := ⟨_, rfl⟩
      have hbl5 : Below w4.heap.size w4 w5 := by rw [← hw5]; exact below_alloc (Below.refl _ _) _
      have HS5 := Aside0.mk (HS4.out.step hbl5)
      have hx5 : w5.heap[b5]? = some (.cells #[.int .i64 s.f0, .int .i64 s.f1, .slice A5 s.f2.length c5] 28 (0, 0)) := by rw [← hw5, ← hb5]; exact blk_new w4 _
      rw [hw5, hb5]
      clear x0 x1 x2 hkk
      obtain ⟨x0, x1, x2, z0, z1, z2⟩ := Parse.three hx5
      clear hw5 hb5 hx5 hbl5 HS4 HBW4
      go_upto_region 15 with fail
      obtain ⟨w6, hw6⟩ : ∃ w6, w5.alloc (.cells #[.int .i64 s.f0, .int .i64 s.f1] 31) = w6 := ⟨_, rfl⟩
      obtain ⟨b6, hb6⟩ : ∃ x, w5.heap.size = x := ⟨_, rfl⟩
      have hbl6 : Below w5.heap.size w5 w6 := by rw [← hw6]; exact below_alloc (Below.refl _ _) _
      have HS6 := Aside0.mk (HS5.out.step hbl6)
      have HX6 : Aside0 (w6.heap[b6]? = some (.cells #[.int .i64 s.f0, .int .i64 s.f1] 31 (0, 0))) := ⟨by rw [← hw6, ← hb6]; exact blk_new w5 _⟩
      rw [hw6, hb6]
      clear x0 x1 x2 z0 z1 z2 hw6 hb6 hbl6 HS5
      obtain ⟨y0, y1⟩ := two HX6.out
      go_wp2_with fail
      have HWF := Aside0.mk (fds_wf (i := 1) (by decide) (by have := HL.out.2; omega) HGA.out)
      have HFL : Aside0 ((fds 1 l).length ≤ 100000) := ⟨by rw [fds_len]; have := HL.out.2; omega⟩
      have hbp1 := below_alloc (Below.refl w6.heap.size w6) (.cells #[.int .i64 s.f0, .int .i64 s.f1] 31)
      refine (sc_pick (HS6.out.step hbp1) (lit1 w6 s.f0 s.f1) (by simp) HFL.out (by simp) HWF.out (fds_ap 1 l)).mono ?_
      rintro ev w7 ⟨v, rfl, hR7, hb7⟩
      obtain ⟨m, hpk, hm1, hm2, hm3⟩ := pick_one (i := 1) HSS.out
      rw [hpk] at hR7 ⊢
      obtain ⟨A7, c7, rfl, hc7, hC7⟩ := Kd.R_reads hR7
      obtain ⟨ad7, rfl, g1, g2, g3, -⟩ := fdAt hC7 0 (by simp)
      obtain ⟨b9, rfl⟩ := R_plain hR7
      simp only [List.getD_cons_zero, Nat.zero_mul, add_at, Nat.zero_add, hm1, hm2, hm3] at g1 g2 g3
      have hb7' := below_step hbp1 hb7
      have HX7 := Aside0.mk (blk_below HX6.out hb7')
      have HS7 := Aside0.mk (HS6.out.step hb7')
      have HG7 : Aside0 (w7.cell? ⟨b9, 0, none⟩ = some (.int .i64 s.f0) ∧ w7.cell? ⟨b9, 1, none⟩ = some (.int .i64 s.f1) ∧ w7.cell? ⟨b9, 2, none⟩ = some (.int .i64 1)) := ⟨⟨g1, g2, g3⟩⟩
      have hl1 : [m].length = 1 := rfl
      rw [hl1]
      clear hl1 g1 g2 g3 hm1 hm2 hm3 hpk hb7 hb7' hbp1 hR7 hC7 hc7 HX6 HS6 y0 y1
      obtain ⟨y0, y1⟩ := two HX7.out
      go_upto_region 16 with fail
      go_wp2_with fail
      have hbp2 := below_alloc (Below.refl w7.heap.size w7) (.cells #[.int .i64 s.f0, .int .i64 s.f1, .int .i64 s.f0, .int .i64 (wrap64 (s.f1 + 1))] 31)
      refine (sc_pick (HS7.out.step hbp2) (lit2 w7 s.f0 s.f1 s.f0 (wrap64 (s.f1 + 1))) (by simp) HFL.out (by simp) HWF.out (fds_ap 1 l)).mono ?_
      rintro ev w8 ⟨v, rfl, hR8, hb8⟩
      rw [pick_twice] at hR8 ⊢
      obtain ⟨A8, c8, rfl, -, -⟩ := Kd.R_reads hR8
      have hb8' := below_step hbp2 hb8
      have HX8 := Aside0.mk (blk_below HX7.out hb8')
      have HS8 := Aside0.mk (HS7.out.step hb8')
      have HG8 := Aside0.mk (pkHeld HX7.out HG7.out hb8').2
      clear hb8 hb8' hbp2 hR8 HX7 HS7 HG7 y0 y1
      go_wp2_with fail
      have hbp3 := below_alloc (Below.refl w8.heap.size w8) (.cells #[.int .i64 5, .int .i64 1099511627777] 31)
      refine (sc_pick (HS8.out.step hbp3) (lit1 w8 5 1099511627777) (by simp) HFL.out (by simp) HWF.out (fds_ap 1 l)).mono ?_
      rintro ev w9 ⟨v, rfl, hR9, hb9⟩
      rw [pick_none (keepF_none (fun x hx he => by
        obtain ⟨j, s', _, hs', rfl⟩ := fds_mem hx
        have h1_ := (mayB_iff.1 (HGA.out s' (List.mem_of_getElem? hs')).1).2.2.2.1
        have h2_ : s'.f1 = 1099511627777 := he.2
        omega))] at hR9 ⊢
      obtain ⟨A9, c9, rfl, -, -⟩ := Kd.R_reads hR9
      have hb9' := below_step hbp3 hb9
      have HX9 := Aside0.mk (blk_below HX8.out hb9')
      have HS9 := Aside0.mk (HS8.out.step hb9')
      have HG9 := Aside0.mk (pkHeld HX8.out HG8.out hb9').2
      clear hb9 hb9' hbp3 hR9 HX8 HS8 HG8
      go_wp2_with fail
      refine (sc_pick (live := []) HS9.out (C_none2 w9) (by simp) HFL.out (by simp) HWF.out (fds_ap 1 l)).mono ?_
      rintro ev w10 ⟨v, rfl, hR10, hb10⟩
      rw [pick_nil] at hR10 ⊢
      obtain ⟨A10, c10, rfl, -, -⟩ := Kd.R_reads hR10
      have HX10 := Aside0.mk (blk_below HX9.out hb10)
      have HS10 := Aside0.mk (HS9.out.step hb10)
      have HG10 := Aside0.mk (pkHeld HX9.out HG9.out hb10).2
      have hln : ([] : List FD).length = 0 := rfl
      rw [hln]
      clear hln hb10 hR10 HX9 HS9 HG9
      go_upto_region 19 with fail
      refine start_ (n := 44) (S := fun w' => (w'.cell? ⟨b6, 0, none⟩ = some (.int .i64 s.f0) ∧ w'.cell? ⟨b6, 1, none⟩ = some (.int .i64 s.f1)) ∧ w'.cell? ⟨b9, 0, none⟩ = some (.int .i64 s.f0) ∧ w'.cell? ⟨b9, 1, none⟩ = some (.int .i64 s.f1) ∧ w'.cell? ⟨b9, 2, none⟩ = some (.int .i64 1)) (ds := []) #[false, false, false, false, false, false, false, false, false, false, false, false, false, false, false, false, false, false, false, false, false, false, false, false, false, false, false, false, false, false, false, false, false, false, false, false, false, false, false, false, false, false, false, false] (by kernel_rfl) rfl rfl (pkHeld HX10.out HG10.out (below_drew (Below.refl _ _))) (fun hHeld => ?_)
      refine with_tabW reg_LwPicks_19.tab reg_LwPicks_19.bits (fun HT_ HW_ => ?_)
      refine pure_ (i := 0) (N := (some 115)) (v := ?_) (a' := ?_) #[true, false, false, false, false, false, false, false, false, false, false, false, false, false, false, false, false, false, false, false, false, false, false, false, false, false, false, false, false, false, false, false, false, false, false, false, false, false, false, false, false, false, false, false] rfl rfl (any_of HT_.out (by kernel_rfl)) (fun _ _ _ h => h) (Or.inl ⟨by rfl, ?_⟩) ?_ ?_
      rotate_left
      · intro w'
        go_simp
        first | done | with_reducible rfl
      rotate_left
      · simp only [Act.put, List.setIfInBounds_toArray, List.set_cons_zero, List.set_cons_succ, i64_w, i32_w]
        rfl
      refine pure_ (i := 1) (N := (some 116)) (v := ?_) (a' := ?_) #[true, true, false, false, false, false, false, false, false, false, false, false, false, false, false, false, false, false, false, false, false, false, false, false, false, false, false, false, false, false, false, false, false, false, false, false, false, false, false, false, false, false, false, false] rfl rfl (any_of HT_.out (by kernel_rfl)) (fun _ _ _ h => h) (Or.inl ⟨by rfl, ?_⟩) ?_ ?_
      rotate_left
      · intro w'
        go_simp
        first | done | with_reducible rfl
      rotate_left
      · simp only [Act.put, List.setIfInBounds_toArray, List.set_cons_zero, List.set_cons_succ, i64_w, i32_w]
        rfl
      refine pure_ (i := 2) (N := (some 117)) (v := ?_) (a' := ?_) #[true, true, true, false, false, false, false, false, false, false, false, false, false, false, false, false, false, false, false, false, false, false, false, false, false, false, false, false, false, false, false, false, false, false, false, false, false, false, false, false, false, false, false, false] rfl rfl (any_of HT_.out (by kernel_rfl)) (fun _ _ _ h => h) (Or.inl ⟨by rfl, ?_⟩) ?_ ?_
      rotate_left
      · intro w'
        go_simp
        first | done | with_reducible rfl
      rotate_left
      · simp only [Act.put, List.setIfInBounds_toArray, List.set_cons_zero, List.set_cons_succ, i64_w, i32_w]
        rfl
      refine pure_ (i := 3) (N := (some 118)) (v := ?_) (a' := ?_) #[true, true, true, true, false, false, false, false, false, false, false, false, false, false, false, false, false, false, false, false, false, false, false, false, false, false, false, false, false, false, false, false, false, false, false, false, false, false, false, false, false, false, false, false] rfl rfl (any_of HT_.out (by kernel_rfl)) (fun _ _ _ h => h) (Or.inl ⟨by rfl, ?_⟩) ?_ ?_
      rotate_left
      · intro w'
        go_simp
        first | done | with_reducible rfl
      rotate_left
      · simp only [Act.put, List.setIfInBounds_toArray, List.set_cons_zero, List.set_cons_succ, i64_w, i32_w]
        rfl
      refine pure_ (i := 4) (N := (some 119)) (v := ?_) (a' := ?_) #[true, true, true, true, true, false, false, false, false, false, false, false, false, false, false, false, false, false, false, false, false, false, false, false, false, false, false, false, false, false, false, false, false, false, false, false, false, false, false, false, false, false, false, false] rfl rfl (any_of HT_.out (by kernel_rfl)) (fun _ _ _ h => h) (Or.inl ⟨by rfl, ?_⟩) ?_ ?_
      rotate_left
      · intro w'
        go_simp
        first | done | with_reducible rfl
      rotate_left
      · simp only [Act.put, List.setIfInBounds_toArray, List.set_cons_zero, List.set_cons_succ, i64_w, i32_w]
        rfl
      refine pure_ (i := 5) (N := (some 120)) (v := ?_) (a' := ?_) #[true, true, true, true, true, true, false, false, false, false, false, false, false, false, false, false, false, false, false, false, false, false, false, false, false, false, false, false, false, false, false, false, false, false, false, false, false, false, false, false, false, false, false, false] rfl rfl (any_of HT_.out (by kernel_rfl)) (fun _ _ _ h => h) (Or.inl ⟨by rfl, ?_⟩) ?_ ?_
      rotate_left
      · intro w'
        go_simp
        first | done | with_reducible rfl
      rotate_left
      · simp only [Act.put, List.setIfInBounds_toArray, List.set_cons_zero, List.set_cons_succ, i64_w, i32_w]
        rfl
      refine pure_ (i := 6) (N := (some 121)) (v := ?_) (a' := ?_) #[true, true, true, true, true, true, true, false, false, false, false, false, false, false, false, false, false, false, false, false, false, false, false, false, false, false, false, false, false, false, false, false, false, false, false, false, false, false, false, false, false, false, false, false] rfl rfl (any_of HT_.out (by kernel_rfl)) (fun _ _ _ h => h) (Or.inl ⟨by rfl, ?_⟩) ?_ ?_
      rotate_left
      · intro w'
        go_simp
        first | done | with_reducible rfl
      rotate_left
      · simp only [Act.put, List.setIfInBounds_toArray, List.set_cons_zero, List.set_cons_succ, i64_w, i32_w]
        rfl
      refine pure_ (i := 7) (N := (some 122)) (v := ?_) (a' := ?_) #[true, true, true, true, true, true, true, true, false, false, false, false, false, false, false, false, false, false, false, false, false, false, false, false, false, false, false, false, false, false, false, false, false, false, false, false, false, false, false, false, false, false, false, false] rfl rfl (any_of HT_.out (by kernel_rfl)) (fun _ _ _ h => h) (Or.inl ⟨by rfl, ?_⟩) ?_ ?_
      rotate_left
      · intro w'
        go_simp
        first | done | with_reducible rfl
      rotate_left
      · simp only [Act.put, List.setIfInBounds_toArray, List.set_cons_zero, List.set_cons_succ, i64_w, i32_w]
        rfl
      refine pure_ (i := 8) (N := (some 123)) (v := ?_) (a' := ?_) #[true, true, true, true, true, true, true, true, true, false, false, false, false, false, false, false, false, false, false, false, false, false, false, false, false, false, false, false, false, false, false, false, false, false, false, false, false, false, false, false, false, false, false, false] rfl rfl (any_of HT_.out (by kernel_rfl)) (fun _ _ _ h => h) (Or.inl ⟨by rfl, ?_⟩) ?_ ?_
      rotate_left
      · intro w'
        go_simp
        first | done | with_reducible rfl
      rotate_left
      · simp only [Act.put, List.setIfInBounds_toArray, List.set_cons_zero, List.set_cons_succ, i64_w, i32_w]
        rfl
      refine pure_ (i := 9) (N := (some 124)) (v := ?_) (a' := ?_) #[true, true, true, true, true, true, true, true, true, true, false, false, false, false, false, false, false, false, false, false, false, false, false, false, false, false, false, false, false, false, false, false, false, false, false, false, false, false, false, false, false, false, false, false] rfl rfl (any_of HT_.out (by kernel_rfl)) (fun _ _ _ h => h) (Or.inl ⟨by rfl, ?_⟩) ?_ ?_
      rotate_left
      · intro w'
        go_simp
        first | done | with_reducible rfl
      rotate_left
      · simp only [Act.put, List.setIfInBounds_toArray, List.set_cons_zero, List.set_cons_succ, i64_w, i32_w]
        rfl
      refine pure_ (i := 10) (N := (some 125)) (v := ?_) (a' := ?_) #[true, true, true, true, true, true, true, true, true, true, true, false, false, false, false, false, false, false, false, false, false, false, false, false, false, false, false, false, false, false, false, false, false, false, false, false, false, false, false, false, false, false, false, false] rfl rfl (any_of HT_.out (by kernel_rfl)) (fun _ _ _ h => h) (Or.inl ⟨by rfl, ?_⟩) ?_ ?_
      rotate_left
      · intro w'
        go_simp
        first | done | with_reducible rfl
      rotate_left
      · simp only [Act.put, List.setIfInBounds_toArray, List.set_cons_zero, List.set_cons_succ, i64_w, i32_w]
        rfl
      refine take_ (i := 11) (N := (some 126)) (v := ?_) (a' := ?_) #[true, true, true, true, true, true, true, true, true, true, true, true, false, false, false, false, false, false, false, false, false, false, false, false, false, false, false, false, false, false, false, false, false, false, false, false, false, false, false, false, false, false, false, false] rfl rfl (take_ofW HT_.out HW_.out (by kernel_rfl)) (fun _ _ _ h => h) (Or.inl ⟨by rfl, ?_⟩) hHeld ?_ ?_
      rotate_left
      · rintro w' ⟨⟨s0, s1⟩, s2, s3, s4⟩
        go_simp
        first | done | with_reducible rfl
      rotate_left
      · simp only [Act.put, List.setIfInBounds_toArray, List.set_cons_zero, List.set_cons_succ, i64_w, i32_w]
        rfl
      refine take_ (i := 12) (N := (some 127)) (v := ?_) (a' := ?_) #[true, true, true, true, true, true, true, true, true, true, true, true, true, false, false, false, false, false, false, false, false, false, false, false, false, false, false, false, false, false, false, false, false, false, false, false, false, false, false, false, false, false, false, false] rfl rfl (take_ofW HT_.out HW_.out (by kernel_rfl)) (fun _ _ _ h => h) (Or.inl ⟨by rfl, ?_⟩) hHeld ?_ ?_
      rotate_left
      · rintro w' ⟨⟨s0, s1⟩, s2, s3, s4⟩
        go_simp
        first | done | with_reducible rfl
      rotate_left
      · simp only [Act.put, List.setIfInBounds_toArray, List.set_cons_zero, List.set_cons_succ, i64_w, i32_w]
        rfl
      refine pure_ (i := 13) (N := (some 128)) (v := ?_) (a' := ?_) #[true, true, true, true, true, true, true, true, true, true, true, true, true, true, false, false, false, false, false, false, false, false, false, false, false, false, false, false, false, false, false, false, false, false, false, false, false, false, false, false, false, false, false, false] rfl rfl (any_of HT_.out (by kernel_rfl)) (fun _ _ _ h => h) (Or.inl ⟨by rfl, ?_⟩) ?_ ?_
      rotate_left
      · intro w'
        go_simp
        first | done | with_reducible rfl
      rotate_left
      · simp only [Act.put, List.setIfInBounds_toArray, List.set_cons_zero, List.set_cons_succ, i64_w, i32_w]
        rfl
      refine pure_ (i := 14) (N := (some 129)) (v := ?_) (a' := ?_) #[true, true, true, true, true, true, true, true, true, true, true, true, true, true, true, false, false, false, false, false, false, false, false, false, false, false, false, false, false, false, false, false, false, false, false, false, false, false, false, false, false, false, false, false] rfl rfl (any_of HT_.out (by kernel_rfl)) (fun _ _ _ h => h) (Or.inl ⟨by rfl, ?_⟩) ?_ ?_
      rotate_left
      · intro w'
        go_simp
        first | done | with_reducible rfl
      rotate_left
      · simp only [Act.put, List.setIfInBounds_toArray, List.set_cons_zero, List.set_cons_succ, i64_w, i32_w]
        rfl
      refine pure_ (i := 15) (N := (some 130)) (v := ?_) (a' := ?_) #[true, true, true, true, true, true, true, true, true, true, true, true, true, true, true, true, false, false, false, false, false, false, false, false, false, false, false, false, false, false, false, false, false, false, false, false, false, false, false, false, false, false, false, false] rfl rfl (any_of HT_.out (by kernel_rfl)) (fun _ _ _ h => h) (Or.inl ⟨by rfl, ?_⟩) ?_ ?_
      rotate_left
      · intro w'
        go_simp
        first | done | with_reducible rfl
      rotate_left
      · simp only [Act.put, List.setIfInBounds_toArray, List.set_cons_zero, List.set_cons_succ, i64_w, i32_w]
        rfl
      refine pure_ (i := 16) (N := (some 131)) (v := ?_) (a' := ?_) #[true, true, true, true, true, true, true, true, true, true, true, true, true, true, true, true, true, false, false, false, false, false, false, false, false, false, false, false, false, false, false, false, false, false, false, false, false, false, false, false, false, false, false, false] rfl rfl (any_of HT_.out (by kernel_rfl)) (fun _ _ _ h => h) (Or.inl ⟨by rfl, ?_⟩) ?_ ?_
      rotate_left
      · intro w'
        go_simp
        first | done | with_reducible rfl
      rotate_left
      · simp only [Act.put, List.setIfInBounds_toArray, List.set_cons_zero, List.set_cons_succ, i64_w, i32_w]
        rfl
      refine pure_ (i := 17) (N := (some 132)) (v := ?_) (a' := ?_) #[true, true, true, true, true, true, true, true, true, true, true, true, true, true, true, true, true, true, false, false, false, false, false, false, false, false, false, false, false, false, false, false, false, false, false, false, false, false, false, false, false, false, false, false] rfl rfl (any_of HT_.out (by kernel_rfl)) (fun _ _ _ h => h) (Or.inl ⟨by rfl, ?_⟩) ?_ ?_
      rotate_left
      · intro w'
        go_simp
        first | done | with_reducible rfl
      rotate_left
      · simp only [Act.put, List.setIfInBounds_toArray, List.set_cons_zero, List.set_cons_succ, i64_w, i32_w]
        rfl
      refine pure_ (i := 18) (N := (some 133)) (v := ?_) (a' := ?_) #[true, true, true, true, true, true, true, true, true, true, true, true, true, true, true, true, true, true, true, false, false, false, false, false, false, false, false, false, false, false, false, false, false, false, false, false, false, false, false, false, false, false, false, false] rfl rfl (any_of HT_.out (by kernel_rfl)) (fun _ _ _ h => h) (Or.inl ⟨by rfl, ?_⟩) ?_ ?_
      rotate_left
      · intro w'
        go_simp
        first | done | with_reducible rfl
      rotate_left
      · simp only [Act.put, List.setIfInBounds_toArray, List.set_cons_zero, List.set_cons_succ, i64_w, i32_w]
        rfl
      refine pure_ (i := 19) (N := (some 134)) (v := ?_) (a' := ?_) #[true, true, true, true, true, true, true, true, true, true, true, true, true, true, true, true, true, true, true, true, false, false, false, false, false, false, false, false, false, false, false, false, false, false, false, false, false, false, false, false, false, false, false, false] rfl rfl (any_of HT_.out (by kernel_rfl)) (fun _ _ _ h => h) (Or.inl ⟨by rfl, ?_⟩) ?_ ?_
      rotate_left
      · intro w'
        go_simp
        first | done | with_reducible rfl
      rotate_left
      · simp only [Act.put, List.setIfInBounds_toArray, List.set_cons_zero, List.set_cons_succ, i64_w, i32_w]
        rfl
      refine take_ (i := 20) (N := (some 135)) (v := ?_) (a' := ?_) #[true, true, true, true, true, true, true, true, true, true, true, true, true, true, true, true, true, true, true, true, true, false, false, false, false, false, false, false, false, false, false, false, false, false, false, false, false, false, false, false, false, false, false, false] rfl rfl (take_ofW HT_.out HW_.out (by kernel_rfl)) (fun _ _ _ h => h) (Or.inl ⟨by rfl, ?_⟩) hHeld ?_ ?_
      rotate_left
      · rintro w' ⟨⟨s0, s1⟩, s2, s3, s4⟩
        go_simp
        first | done | with_reducible rfl
      rotate_left
      · simp only [Act.put, List.setIfInBounds_toArray, List.set_cons_zero, List.set_cons_succ, i64_w, i32_w]
        rfl
      refine pure_ (i := 21) (N := (some 136)) (v := ?_) (a' := ?_) #[true, true, true, true, true, true, true, true, true, true, true, true, true, true, true, true, true, true, true, true, true, true, false, false, false, false, false, false, false, false, false, false, false, false, false, false, false, false, false, false, false, false, false, false] rfl rfl (any_of HT_.out (by kernel_rfl)) (fun _ _ _ h => h) (Or.inl ⟨by rfl, ?_⟩) ?_ ?_
      rotate_left
      · intro w'
        go_simp
        first | done | with_reducible rfl
      rotate_left
      · simp only [Act.put, List.setIfInBounds_toArray, List.set_cons_zero, List.set_cons_succ, i64_w, i32_w]
        rfl
      refine pure_ (i := 22) (N := (some 137)) (v := ?_) (a' := ?_) #[true, true, true, true, true, true, true, true, true, true, true, true, true, true, true, true, true, true, true, true, true, true, true, false, false, false, false, false, false, false, false, false, false, false, false, false, false, false, false, false, false, false, false, false] rfl rfl (any_of HT_.out (by kernel_rfl)) (fun _ _ _ h => h) (Or.inl ⟨by rfl, ?_⟩) ?_ ?_
      rotate_left
      · intro w'
        go_simp
        first | done | with_reducible rfl
      rotate_left
      · simp only [Act.put, List.setIfInBounds_toArray, List.set_cons_zero, List.set_cons_succ, i64_w, i32_w]
        rfl
      refine pure_ (i := 23) (N := (some 138)) (v := ?_) (a' := ?_) #[true, true, true, true, true, true, true, true, true, true, true, true, true, true, true, true, true, true, true, true, true, true, true, true, false, false, false, false, false, false, false, false, false, false, false, false, false, false, false, false, false, false, false, false] rfl rfl (any_of HT_.out (by kernel_rfl)) (fun _ _ _ h => h) (Or.inl ⟨by rfl, ?_⟩) ?_ ?_
      rotate_left
      · intro w'
        go_simp
        first | done | with_reducible rfl
      rotate_left
      · simp only [Act.put, List.setIfInBounds_toArray, List.set_cons_zero, List.set_cons_succ, i64_w, i32_w]
        rfl
      refine pure_ (i := 24) (N := (some 139)) (v := ?_) (a' := ?_) #[true, true, true, true, true, true, true, true, true, true, true, true, true, true, true, true, true, true, true, true, true, true, true, true, true, false, false, false, false, false, false, false, false, false, false, false, false, false, false, false, false, false, false, false] rfl rfl (any_of HT_.out (by kernel_rfl)) (fun _ _ _ h => h) (Or.inl ⟨by rfl, ?_⟩) ?_ ?_
      rotate_left
      · intro w'
        go_simp
        first | done | with_reducible rfl
      rotate_left
      · simp only [Act.put, List.setIfInBounds_toArray, List.set_cons_zero, List.set_cons_succ, i64_w, i32_w]
        rfl
      refine pure_ (i := 25) (N := (some 140)) (v := ?_) (a' := ?_) #[true, true, true, true, true, true, true, true, true, true, true, true, true, true, true, true, true, true, true, true, true, true, true, true, true, true, false, false, false, false, false, false, false, false, false, false, false, false, false, false, false, false, false, false] rfl rfl (any_of HT_.out (by kernel_rfl)) (fun _ _ _ h => h) (Or.inl ⟨by rfl, ?_⟩) ?_ ?_
      rotate_left
      · intro w'
        go_simp
        first | done | with_reducible rfl
      rotate_left
      · simp only [Act.put, List.setIfInBounds_toArray, List.set_cons_zero, List.set_cons_succ, i64_w, i32_w]
        rfl
      refine pure_ (i := 26) (N := (some 141)) (v := ?_) (a' := ?_) #[true, true, true, true, true, true, true, true, true, true, true, true, true, true, true, true, true, true, true, true, true, true, true, true, true, true, true, false, false, false, false, false, false, false, false, false, false, false, false, false, false, false, false, false] rfl rfl (any_of HT_.out (by kernel_rfl)) (fun _ _ _ h => h) (Or.inl ⟨by rfl, ?_⟩) ?_ ?_
      rotate_left
      · intro w'
        go_simp
        first | done | with_reducible rfl
      rotate_left
      · simp only [Act.put, List.setIfInBounds_toArray, List.set_cons_zero, List.set_cons_succ, i64_w, i32_w]
        rfl
      refine pure_ (i := 27) (N := (some 142)) (v := ?_) (a' := ?_) #[true, true, true, true, true, true, true, true, true, true, true, true, true, true, true, true, true, true, true, true, true, true, true, true, true, true, true, true, false, false, false, false, false, false, false, false, false, false, false, false, false, false, false, false] rfl rfl (any_of HT_.out (by kernel_rfl)) (fun _ _ _ h => h) (Or.inl ⟨by rfl, ?_⟩) ?_ ?_
      rotate_left
      · intro w'
        go_simp
        first | done | with_reducible rfl
      rotate_left
      · simp only [Act.put, List.setIfInBounds_toArray, List.set_cons_zero, List.set_cons_succ, i64_w, i32_w]
        rfl
      refine pure_ (i := 28) (N := (some 143)) (v := ?_) (a' := ?_) #[true, true, true, true, true, true, true, true, true, true, true, true, true, true, true, true, true, true, true, true, true, true, true, true, true, true, true, true, true, false, false, false, false, false, false, false, false, false, false, false, false, false, false, false] rfl rfl (any_of HT_.out (by kernel_rfl)) (fun _ _ _ h => h) (Or.inl ⟨by rfl, ?_⟩) ?_ ?_
      rotate_left
      · intro w'
        go_simp
        first | done | with_reducible rfl
      rotate_left
      · simp only [Act.put, List.setIfInBounds_toArray, List.set_cons_zero, List.set_cons_succ, i64_w, i32_w]
        rfl
      refine pure_ (i := 29) (N := (some 144)) (v := ?_) (a' := ?_) #[true, true, true, true, true, true, true, true, true, true, true, true, true, true, true, true, true, true, true, true, true, true, true, true, true, true, true, true, true, true, false, false, false, false, false, false, false, false, false, false, false, false, false, false] rfl rfl (any_of HT_.out (by kernel_rfl)) (fun _ _ _ h => h) (Or.inl ⟨by rfl, ?_⟩) ?_ ?_
      rotate_left
      · intro w'
        go_simp
        first | done | with_reducible rfl
      rotate_left
      · simp only [Act.put, List.setIfInBounds_toArray, List.set_cons_zero, List.set_cons_succ, i64_w, i32_w]
        rfl
      refine pure_ (i := 30) (N := (some 145)) (v := ?_) (a' := ?_) #[true, true, true, true, true, true, true, true, true, true, true, true, true, true, true, true, true, true, true, true, true, true, true, true, true, true, true, true, true, true, true, false, false, false, false, false, false, false, false, false, false, false, false, false] rfl rfl (any_of HT_.out (by kernel_rfl)) (fun _ _ _ h => h) (Or.inl ⟨by rfl, ?_⟩) ?_ ?_
      rotate_left
      · intro w'
        go_simp
        first | done | with_reducible rfl
      rotate_left
      · simp only [Act.put, List.setIfInBounds_toArray, List.set_cons_zero, List.set_cons_succ, i64_w, i32_w]
        rfl
      refine pure_ (i := 31) (N := (some 146)) (v := ?_) (a' := ?_) #[true, true, true, true, true, true, true, true, true, true, true, true, true, true, true, true, true, true, true, true, true, true, true, true, true, true, true, true, true, true, true, true, false, false, false, false, false, false, false, false, false, false, false, false] rfl rfl (any_of HT_.out (by kernel_rfl)) (fun _ _ _ h => h) (Or.inl ⟨by rfl, ?_⟩) ?_ ?_
      rotate_left
      · intro w'
        go_simp
        first | done | with_reducible rfl
      rotate_left
      · simp only [Act.put, List.setIfInBounds_toArray, List.set_cons_zero, List.set_cons_succ, i64_w, i32_w]
        rfl
      refine pure_ (i := 32) (N := (some 147)) (v := ?_) (a' := ?_) #[true, true, true, true, true, true, true, true, true, true, true, true, true, true, true, true, true, true, true, true, true, true, true, true, true, true, true, true, true, true, true, true, true, false, false, false, false, false, false, false, false, false, false, false] rfl rfl (any_of HT_.out (by kernel_rfl)) (fun _ _ _ h => h) (Or.inl ⟨by rfl, ?_⟩) ?_ ?_
      rotate_left
      · intro w'
        go_simp
        first | done | with_reducible rfl
      rotate_left
      · simp only [Act.put, List.setIfInBounds_toArray, List.set_cons_zero, List.set_cons_succ, i64_w, i32_w]
        rfl
      refine pure_ (i := 33) (N := (some 148)) (v := ?_) (a' := ?_) #[true, true, true, true, true, true, true, true, true, true, true, true, true, true, true, true, true, true, true, true, true, true, true, true, true, true, true, true, true, true, true, true, true, true, false, false, false, false, false, false, false, false, false, false] rfl rfl (any_of HT_.out (by kernel_rfl)) (fun _ _ _ h => h) (Or.inl ⟨by rfl, ?_⟩) ?_ ?_
      rotate_left
      · intro w'
        go_simp
        first | done | with_reducible rfl
      rotate_left
      · simp only [Act.put, List.setIfInBounds_toArray, List.set_cons_zero, List.set_cons_succ, i64_w, i32_w]
        rfl
      refine pure_ (i := 34) (N := (some 149)) (v := ?_) (a' := ?_) #[true, true, true, true, true, true, true, true, true, true, true, true, true, true, true, true, true, true, true, true, true, true, true, true, true, true, true, true, true, true, true, true, true, true, true, false, false, false, false, false, false, false, false, false] rfl rfl (any_of HT_.out (by kernel_rfl)) (fun _ _ _ h => h) (Or.inl ⟨by rfl, ?_⟩) ?_ ?_
      rotate_left
      · intro w'
        go_simp
        first | done | with_reducible rfl
      rotate_left
      · simp only [Act.put, List.setIfInBounds_toArray, List.set_cons_zero, List.set_cons_succ, i64_w, i32_w]
        rfl
      refine pure_ (i := 35) (N := (some 150)) (v := ?_) (a' := ?_) #[true, true, true, true, true, true, true, true, true, true, true, true, true, true, true, true, true, true, true, true, true, true, true, true, true, true, true, true, true, true, true, true, true, true, true, true, false, false, false, false, false, false, false, false] rfl rfl (any_of HT_.out (by kernel_rfl)) (fun _ _ _ h => h) (Or.inl ⟨by rfl, ?_⟩) ?_ ?_
      rotate_left
      · intro w'
        go_simp
        first | done | with_reducible rfl
      rotate_left
      · simp only [Act.put, List.setIfInBounds_toArray, List.set_cons_zero, List.set_cons_succ, i64_w, i32_w]
        rfl
      refine pure_ (i := 36) (N := (some 151)) (v := ?_) (a' := ?_) #[true, true, true, true, true, true, true, true, true, true, true, true, true, true, true, true, true, true, true, true, true, true, true, true, true, true, true, true, true, true, true, true, true, true, true, true, true, false, false, false, false, false, false, false] rfl rfl (any_of HT_.out (by kernel_rfl)) (fun _ _ _ h => h) (Or.inl ⟨by rfl, ?_⟩) ?_ ?_
      rotate_left
      · intro w'
        go_simp
        first | done | with_reducible rfl
      rotate_left
      · simp only [Act.put, List.setIfInBounds_toArray, List.set_cons_zero, List.set_cons_succ, i64_w, i32_w]
        rfl
      refine pure_ (i := 37) (N := (some 152)) (v := ?_) (a' := ?_) #[true, true, true, true, true, true, true, true, true, true, true, true, true, true, true, true, true, true, true, true, true, true, true, true, true, true, true, true, true, true, true, true, true, true, true, true, true, true, false, false, false, false, false, false] rfl rfl (any_of HT_.out (by kernel_rfl)) (fun _ _ _ h => h) (Or.inl ⟨by rfl, ?_⟩) ?_ ?_
      rotate_left
      · intro w'
        go_simp
        first | done | with_reducible rfl
      rotate_left
      · simp only [Act.put, List.setIfInBounds_toArray, List.set_cons_zero, List.set_cons_succ, i64_w, i32_w]
        rfl
      refine pure_ (i := 38) (N := (some 153)) (v := ?_) (a' := ?_) #[true, true, true, true, true, true, true, true, true, true, true, true, true, true, true, true, true, true, true, true, true, true, true, true, true, true, true, true, true, true, true, true, true, true, true, true, true, true, true, false, false, false, false, false] rfl rfl (any_of HT_.out (by kernel_rfl)) (fun _ _ _ h => h) (Or.inl ⟨by rfl, ?_⟩) ?_ ?_
      rotate_left
      · intro w'
        go_simp
        first | done | with_reducible rfl
      rotate_left
      · simp only [Act.put, List.setIfInBounds_toArray, List.set_cons_zero, List.set_cons_succ, i64_w, i32_w]
        rfl
      refine pure_ (i := 39) (N := (some 154)) (v := ?_) (a' := ?_) #[true, true, true, true, true, true, true, true, true, true, true, true, true, true, true, true, true, true, true, true, true, true, true, true, true, true, true, true, true, true, true, true, true, true, true, true, true, true, true, true, false, false, false, false] rfl rfl (any_of HT_.out (by kernel_rfl)) (fun _ _ _ h => h) (Or.inl ⟨by rfl, ?_⟩) ?_ ?_
      rotate_left
      · intro w'
        go_simp
        first | done | with_reducible rfl
      rotate_left
      · simp only [Act.put, List.setIfInBounds_toArray, List.set_cons_zero, List.set_cons_succ, i64_w, i32_w]
        rfl
      refine pure_ (i := 40) (N := (some 155)) (v := ?_) (a' := ?_) #[true, true, true, true, true, true, true, true, true, true, true, true, true, true, true, true, true, true, true, true, true, true, true, true, true, true, true, true, true, true, true, true, true, true, true, true, true, true, true, true, true, false, false, false] rfl rfl (any_of HT_.out (by kernel_rfl)) (fun _ _ _ h => h) (Or.inl ⟨by rfl, ?_⟩) ?_ ?_
      rotate_left
      · intro w'
        go_simp
        first | done | with_reducible rfl
      rotate_left
      · simp only [Act.put, List.setIfInBounds_toArray, List.set_cons_zero, List.set_cons_succ, i64_w, i32_w]
        rfl
      refine one_ (i := 41) (N := (some 156)) #[true, true, true, true, true, true, true, true, true, true, true, true, true, true, true, true, true, true, true, true, true, true, true, true, true, true, true, true, true, true, true, true, true, true, true, true, true, true, true, true, true, true, false, false] rfl rfl (one_of HT_.out (by kernel_rfl)) (by decide) (fun K hK => ?_)
      refine goes_ Try.func9 (by kernel_rfl) rfl #[] (by rfl) rfl rfl (by (try simp only [List.map_toArray, List.map_cons, List.map_nil]); first | done | rfl) ?_
      with_reducible refine (awake11 _).mono ?_
      rintro ev_ w14 ⟨rfl, hb14_⟩
      refine ⟨_, rfl, ?_⟩
      have hb15_ := below_step (below_drew (Below.refl _ _)) hb14_
      have HB14 := Aside0.mk (HS10.out.step hb15_).below
      have HG14 := Aside0.mk (pkHeld HX10.out HG10.out hb15_)
      clear hb14_ hb15_
      refine hK.out _ _ HG14.out (fun hHeld => ?_)
      clear hK K
      refine norm_ (a' := ?_) ?_ ?_
      rotate_left
      · show Act.put _ (some 156) _ = _
        simp only [Act.put, List.setIfInBounds_toArray, List.set_cons_zero, List.set_cons_succ, i64_w, i32_w]
        rfl
      refine pure_ (i := 42) (N := (some 157)) (v := ?_) (a' := ?_) #[true, true, true, true, true, true, true, true, true, true, true, true, true, true, true, true, true, true, true, true, true, true, true, true, true, true, true, true, true, true, true, true, true, true, true, true, true, true, true, true, true, true, true, false] rfl rfl (any_of HT_.out (by kernel_rfl)) (fun _ _ _ h => h) (Or.inl ⟨by rfl, ?_⟩) ?_ ?_
      rotate_left
      · intro w'
        go_simp
        first | done | with_reducible rfl
      rotate_left
      · simp only [Act.put, List.setIfInBounds_toArray, List.set_cons_zero, List.set_cons_succ, i64_w, i32_w]
        rfl
      refine pure_ (i := 43) (N := (some 4)) (v := ?_) (a' := ?_) #[true, true, true, true, true, true, true, true, true, true, true, true, true, true, true, true, true, true, true, true, true, true, true, true, true, true, true, true, true, true, true, true, true, true, true, true, true, true, true, true, true, true, true, true] rfl rfl (any_of HT_.out (by kernel_rfl)) (fun _ _ _ h => h) (Or.inl ⟨by rfl, ?_⟩) ?_ ?_
      rotate_left
      · intro w'
        go_simp
        first | done | with_reducible rfl
      rotate_left
      · simp only [Act.put, List.setIfInBounds_toArray, List.set_cons_zero, List.set_cons_succ, i64_w, i32_w]
        rfl
      refine done_ (done_of HT_.out (by kernel_rfl)) ?_
      go_wp2_with fail
      go_ret
      exact ⟨rfl, below_step HB1.out HB14.out⟩
theorem picksFinal (W : World) (A0 : Option Addr) (c0 : Nat) (l0 : List S28) (hc0 : l0.length ≤ c0) (hr0 : k28.C W A0 l0.length l0) (hm0 : l0.length ≤ maxLen) (hok0 : ∀ x ∈ l0, (Lit.int .i64 x.f0).wf = true ∧ (Lit.int .i64 x.f1).wf = true ∧ (x.f2.length ≤ maxLen ∧ ∀ y ∈ x.f2, (Lit.int .u8 y).wf = true)) (a1 : Int) (w1 : (Lit.int .i64 a1).wf = true) :
    Calls Try.prog 4 #[.slice A0 l0.length c0, .int .i64 a1] W fun e w' => e = .returned (.bool true) ∧ Below W.heap.size W w' := by
  by_cases h1 : 1 ≤ l0.length
  · by_cases h2 : l0.length ≤ 20
    · cases hlt : l0.all ltB with
      | true =>
        obtain ⟨kk, hk1, hk2⟩ := smallW a1 (l0.length : Int) (by omega) (by omega)
        exact picksWalk a1 hr0 hc0 ⟨h1, h2⟩ hlt (fun x hx => Go.Proofs.Ytkncmbbkehnagaa.Bd.bytes_of (hok0 x hx).2.2.2) kk hk1 (by omega)
      | false => exact picksNot a1 hr0 (.inr (.inr ⟨⟨h1, h2⟩, hlt⟩))
    · exact picksNot a1 hr0 (.inr (.inl ⟨h1, by omega⟩))
  · exact picksNot a1 hr0 (.inl (by omega))
end Go.Proofs.Ytkncmbbkehnagaa.Cm

