import Derived.Test.YtloldgiggnhemaaVp
set_option linter.unusedVariables false
set_option linter.unusedSimpArgs false
/-! ChipStands, the walk. -/
namespace Go.Proofs.Ytloldgiggnhemaa.Cm
open Go.RowKit Go.Proofs.YtloldgiggnhemaaW.PrintWords Go.Proofs.YtloldgiggnhemaaW.PrintLast Go.Proofs.YtloldgiggnhemaaW.PrintMore Go.Proofs.Ytloldgiggnhemaa.Kp Go.Proofs.Ytloldgiggnhemaa.Cp
attribute [local go_sem] max2_int min2_int max_two min_two max_three min_three max_four min_four

theorem argOkB {W w : World} {base g : Nat} {S : Nat → Prop} {s : Chp} {A : Option Addr} {b : List Int} (hbs : W.heap.size ≤ base) (h : Hd w base S g s) (hC : Kd.C (Kd.int .u8) W A b.length b) (hb : Below W.heap.size W w) {ad : Addr} (hA : A = some ad) (h1 : 1 ≤ b.length) : ad.block < w.heap.size ∧ ¬ S ad.block := by
  subst hA
  have h2 := Kd.C_lt hC (by omega) (by decide)
  exact ⟨Nat.lt_of_lt_of_le h2 hb.size, fun hs => by have := h.chip.okb _ hs; omega⟩
theorem programHE {W : World} {base : Nat} {S : Nat → Prop} {g : Nat} {s : Chp} (h : Hd W base S g s) (b p : Int) (A : Option Addr) (c : Nat) (xs : List Int) (hC : Kd.C (Kd.int .u8) W A xs.length xs) (hc : xs.length ≤ c) (h2 : 1 ≤ xs.length → ∀ ad, A = some ad → ad.block < W.heap.size ∧ ¬ S ad.block) :
    Calls Try.prog 14 #[.pointer (some ⟨g, 0, none⟩), .agg #[.int .i64 b, .int .i64 p], .slice A xs.length c] W fun e W' => e = .returned (.int .i64 (progS s b p xs).2) ∧ Ch W base S g (progS s b p xs).1 W' := by
  by_cases h1 : 1 ≤ xs.length
  · exact programH h b p A c xs hC hc (h2 h1)
  · have e : progS s b p xs = (s, 1) := by
      unfold progS
      rw [if_neg (fun hh => h1 hh.2.1)]
    rw [e]
    refine (prog_arg h.wide b p A c xs (fun hh => h1 hh.2.1)).mono ?_
    rintro e W' ⟨rfl, hn⟩
    exact ⟨rfl, now_ch h hn⟩
theorem wf_le {x : Int} (h : (Lit.int .i64 x).wf = true) : x ≤ 9223372036854775807 := by
  simp [Lit.wf, IntKind.min, IntKind.max, IntKind.bits, IntKind.signed] at h
  omega
def reg_Stands_29.T : Bool × List (List Nat × List Nat) := (true, [([], []), ([0], [0]), ([1], [1]), ([2], [2]), ([3], [3]), ([4], [4]), ([5, 4], [4, 5]), ([4], [4]), ([6, 7, 4], [4, 6, 7]), ([8, 4], [4, 8]), ([9, 4], [4, 9]), ([4], [4]), ([11, 4], [4, 11]), ([10, 12, 4], [4, 10, 12]), ([4, 13], [4, 13]), ([14, 4], [14]), ([15], [15]), ([16, 15], [15, 16]), ([15], [15]), ([17, 18, 15], [15, 17, 18]), ([15, 19], [15, 19]), ([20, 15], [20]), ([21], [21]), ([22, 21], [21, 22]), ([23, 21], [21, 23]), ([21, 24], [21, 24])])
def reg_Stands_29.B : List Nat := [0, 1, 3, 7, 15, 31, 63, 31, 255, 511, 1023, 31, 2079, 8191, 16383, 32767, 65535, 131071, 65535, 524287, 1048575, 2097151, 4194303, 8388607, 16777215, 33554431]
theorem reg_Stands_29.tab : rtab .any (opsOf Try.f7 29) = reg_Stands_29.T := by kernel_rfl
theorem reg_Stands_29.bits : waitsOk reg_Stands_29.T.2 reg_Stands_29.B = true := by kernel_rfl
set_option maxHeartbeats 8000000 in
set_option maxRecDepth 100000 in
theorem stands4 (W : World) (A0 : Option Addr) (c0 : Nat) (l : List S52) (hc0 : l.length ≤ c0) (hC0 : Kd.C k52 W A0 l.length l) (hm0 : l.length ≤ maxLen) (hok : ∀ x ∈ l, (Lit.int .i64 x.f1).wf = true ∧ (Lit.int .i64 x.f2).wf = true)
    (A : Option Addr) (c : Nat) (b : List Int) (hc : b.length ≤ c) (hC : Kd.C (Kd.int .u8) W A b.length b) (a2 : Int) :
    Calls Try.prog 7 #[.slice A0 l.length c0, .slice A b.length c, .int .i64 a2] W fun e W' => e = .returned (.bool true) ∧ Below W.heap.size W W' := by
  have HC := Aside0.mk hC
  have HCC := Aside0.mk hc
  have HC0 := Aside0.mk hC0
  have HOK := Aside0.mk hok
  obtain ⟨k, hk, hk4⟩ := smallW a2 4 (by decide) (by decide)
  have HK := Aside0.mk (show k < 4 by omega)
  have HV := Aside0.mk (heavy W A0 c0 l hC0 hc0 hm0)
  clear hC hc hC0 hc0 hm0 hk4 hok
  go_enter Try.func7, Try.ntmps7
  go_wp2_with fail
  refine HV.out.mono ?_
  clear HV
  rintro ev w0 ⟨r, rfl, hr, hb0⟩
  have HR := Aside0.mk hr
  have HB0 := Aside0.mk hb0
  clear hr hb0
  by_cases hr0 : 0 < r
  · have d0 : decide (r > 0) = true := decide_eq_true hr0
    go_wp2_with fail
    refine (awake4 w0).mono ?_
    rintro ev w6 ⟨rfl, hb6⟩
    have HB6 := Aside0.mk (below_step HB0.out hb6)
    clear hb6
    go_wp2_with fail
    go_ret
    exact ⟨rfl, HB6.out⟩
  have d0 : decide (r > 0) = false := decide_eq_false hr0
  have d0n : decide (0 < r) = false := decide_eq_false hr0
  obtain ⟨hl150, hlen⟩ := HR.out (by omega)
  have HL := Aside0.mk hl150
  have HLEN := Aside0.mk hlen
  clear hr0 HR hl150 hlen
  by_cases h1 : b.length < 1
  · have d1 : decide ((b.length : Int) < 1) = true := decide_eq_true (by omega)
    have d1n : decide (b.length < 1) = true := decide_eq_true h1
    clear h1
    go_wp2_with fail
    refine (awake4 w0).mono ?_
    rintro ev w6 ⟨rfl, hb6⟩
    have HB6 := Aside0.mk (below_step HB0.out hb6)
    clear hb6
    go_wp2_with fail
    go_ret
    exact ⟨rfl, HB6.out⟩
  have d1 : decide ((b.length : Int) < 1) = false := decide_eq_false (by omega)
  have d1n : decide (b.length < 1) = false := decide_eq_false h1
  by_cases h2 : 2000 < b.length
  · have d2 : decide ((b.length : Int) > 2000) = true := decide_eq_true (by omega)
    have d2n : decide (2000 < b.length) = true := decide_eq_true h2
    clear h1 h2
    go_wp2_with fail
    refine (awake4 w0).mono ?_
    rintro ev w6 ⟨rfl, hb6⟩
    have HB6 := Aside0.mk (below_step HB0.out hb6)
    clear hb6
    go_wp2_with fail
    go_ret
    exact ⟨rfl, HB6.out⟩
  have d2 : decide ((b.length : Int) > 2000) = false := decide_eq_false (by omega)
  have d2n : decide (2000 < b.length) = false := decide_eq_false h2
  have HBL := Aside0.mk (show 1 ≤ b.length ∧ b.length ≤ 2000 by omega)
  clear h1 h2
  go_wp2_with fail
  have hcc := newH w0 4 4 none 0 [] (Kd.C_nil _ _) (by decide) (by decide) (by decide) (by decide) (by decide) (by decide)
  refine hcc.mono ?_
  clear hcc
  rintro ev w1 ⟨g, rfl, hh, hbn⟩
  obtain ⟨base, hbase⟩ : ∃ x, w0.heap.size = x := ⟨_, rfl⟩
  rw [hbase] at hh
  obtain ⟨S0, hS0⟩ : ∃ S : Nat → Prop, (fun k => base ≤ k ∧ k < w1.heap.size) = S := ⟨_, rfl⟩
  rw [hS0] at hh
  have HBS := Aside0.mk (show W.heap.size ≤ base by rw [← hbase]; exact HB0.out.size)
  have HQ1 := Aside0.mk up_new
  obtain ⟨s1, hs1⟩ : ∃ s, newS 4 4 [] = s := ⟨_, rfl⟩
  rw [hs1] at hh HQ1
  have HH1 := Aside0.mk hh
  have HB1 := Aside0.mk (below_step HB0.out hbn)
  clear hS0 hh hbn hs1 d1 d1n d2 d2n d0 d0n hbase HB0
  go_wp2_with fail
  rw [hk]
  clear hk
  go_loopw [35] (fun v35 wr => ∃ (i : Nat) (s : Chp) (S : Nat → Prop), i ≤ k ∧ v35 = .int .i64 (i : Int) ∧ Aside0 (Up i s) ∧ Aside0 (Hd wr base S g s) ∧ Aside0 (Below W.heap.size W wr)) (fun v35 _ => k - (intOf v35).toNat)
  case atStart => exact ⟨0, s1, S0, Nat.zero_le _, rfl, HQ1, HH1, HB1⟩
  case round =>
    clear HQ1 HH1 HB1 S0 s1
    obtain ⟨i, s, S, hi, rfl, HQ, HH, HB⟩ := hrel
    by_cases hlt : i < k
    · have hlt2 : (i : Int) < (k : Int) := by omega
      have HLT := Aside0.mk hlt
      have hw2 : wrap64 ((i : Int) + 1) = ((i + 1 : Nat) : Int) := by rw [show (i : Int) + 1 = ((i + 1 : Nat) : Int) by omega]; exact wrap_small _ (by omega) (by have := HK.out; omega)
      clear hlt hi
      go_wp2_with fail
      have hcc := programH (HH.out.below (below_alloc (Below.refl _ wr) (.cells #[.int .u8 1] 5))) 1 (i : Int) (some ⟨wr.heap.size, 0, none⟩) 1 [1] (C_lit (blk_new wr _) rfl (by simp)) (by simp) (fun ad hA => by
        cases hA
        exact ⟨by simp, fun hs => Nat.lt_irrefl _ (HH.out.lt _ hs)⟩)
      refine hcc.mono ?_
      clear hcc
      rintro ev w3 ⟨rfl, S3, hh3, hn3⟩
      obtain ⟨q1, q2, -⟩ := up_prog (xs := [1]) HQ.out (by have := HLT.out; have := HK.out; omega) (by decide) (by decide)
      rw [q1]
      have HH3 := Aside0.mk hh3
      have HQ3 := Aside0.mk q2
      have HB3 := Aside0.mk ((below_step HB.out (below_alloc (Below.refl _ wr) (.cells #[.int .u8 1] 5))).trans (hn3.bel.mono HBS.out))
      clear hh3 hn3 HH HB HQ q1 q2
      go_wp2_with fail
      go_roundw
      case measure =>
        have hm : k - ((i + 1 : Nat) : Int).toNat < k - ((i : Nat) : Int).toNat := by
          rw [Int.toNat_natCast, Int.toNat_natCast]
          exact Nat.sub_lt_sub_left HLT.out (Nat.lt_succ_self i)
        first | exact hm | (rw [hw2]; exact hm)
      case rel => exact ⟨i + 1, _, S3, HLT.out, by first | rw [hw2] | rfl, HQ3, HH3, HB3⟩
    · have he : i = k := by omega
      subst he
      have hnn : ¬ ((i : Int) < (i : Int)) := by omega
      clear hlt hi
      go_wp2_with fail
      obtain ⟨w2, hw2⟩ : ∃ w2, wr.alloc (.cells #[.int .i64 1, .int .i64 (i : Int)] 29) = w2 := ⟨_, rfl⟩
      obtain ⟨bs, hbs⟩ : ∃ b, wr.heap.size = b := ⟨_, rfl⟩
      have hb2 : Below wr.heap.size wr w2 := by rw [← hw2]; exact below_alloc (Below.refl _ _) _
      have HX2 : Aside0 (w2.heap[bs]? = some (.cells #[.int .i64 1, .int .i64 (i : Int)] 29 (0, 0))) := ⟨by rw [← hw2, ← hbs]; exact blk_new wr _⟩
      have NX2 := Aside0.mk (HH.out.new_not hbs)
      have HH2 := Aside0.mk (HH.out.below hb2)
      have HB2 := Aside0.mk (below_step HB.out hb2)
      rw [hw2, hbs]
      clear hw2 hbs hb2 HH HB
      have hcc := programH HH2.out 1 (i : Int) A c b (Kd.C_below HC.out HB2.out) HCC.out (fun ad hA => argOkB HBS.out HH2.out HC.out HB2.out hA HBL.out.1)
      refine hcc.mono ?_
      clear hcc
      rintro ev w3 ⟨rfl, S3, hh3, hn3⟩
      obtain ⟨q1, -, q3⟩ := up_prog (xs := b) HQ.out HK.out HBL.out.1 HBL.out.2
      rw [q1]
      have HQ3 := Aside0.mk q3
      obtain ⟨s3, hs3⟩ : ∃ z, (progS s 1 (i : Int) b).1 = z := ⟨_, rfl⟩
      rw [hs3] at HQ3 hh3
      have HH3 := Aside0.mk hh3
      have HB3 := Aside0.mk (HB2.out.trans (hn3.bel.mono HBS.out))
      obtain ⟨k1_, k2_⟩ := hn3.both HX2.out NX2.out
      have HX3 := Aside0.mk k1_
      have NX3 := Aside0.mk k2_
      clear hs3 hh3 hn3 k1_ k2_ q1 q3 HQ HH2 HB2 HX2 NX2
      go_wp2_with fail
      go_loopw [54] (fun v54 wr => ∃ (j : Nat) (s : Chp) (S : Nat → Prop), j ≤ l.length ∧ v54 = .int .i64 (j : Int) ∧ Aside0 (At1 (KB i b) s) ∧ Aside0 (Hd wr base S g s) ∧ Aside0 (Below W.heap.size W wr) ∧ Aside0 (wr.heap[bs]? = some (.cells #[.int .i64 1, .int .i64 (i : Int)] 29 (0, 0))) ∧ Aside0 (¬ S bs)) (fun v54 _ => l.length - (intOf v54).toNat)
      case atStart => exact ⟨0, s3, S3, Nat.zero_le _, rfl, HQ3, HH3, HB3, HX3, NX3⟩
      case round =>
        clear HQ3 HH3 HB3 HX3 NX3 S3 s3
        obtain ⟨j, s, S, hj, rfl, HQ, HH, HB, HX, NX⟩ := hrel
        by_cases hlt : j < l.length
        · have hlt2 : (j : Int) < (l.length : Int) := by omega
          have HLT := Aside0.mk hlt
          have hw2 : wrap64 ((j : Int) + 1) = ((j + 1 : Nat) : Int) := by rw [show (j : Int) + 1 = ((j + 1 : Nat) : Int) by omega]; exact wrap_small _ (by omega) (by have := HL.out; omega)
          obtain ⟨ad, A4, c4, rfl, x0, x1, x2, x3, x4, x5, x6, x7⟩ := doAt HC0.out j hlt
          have x8 := HLEN.out j hlt
          have x9 : (Lit.int .i64 (l.getD j z52).f1).wf = true ∧ (Lit.int .i64 (l.getD j z52).f2).wf = true := HOK.out _ (by rw [List.getD_eq_getElem?_getD, List.getElem?_eq_getElem hlt]; exact List.getElem_mem hlt)
          obtain ⟨d, hd⟩ : ∃ d, l.getD j z52 = d := ⟨_, rfl⟩
          rw [hd] at x0 x1 x2 x3 x4 x5 x6 x7 x8 x9
          replace x0 := pw_cell_below HB.out x0
          replace x1 := pw_cell_below HB.out x1
          replace x2 := pw_cell_below HB.out x2
          replace x3 := pw_cell_below HB.out x3
          replace x4 := pw_cell_below HB.out x4
          replace x5 := pw_cell_below HB.out x5
          have HDR := Aside0.mk (show d.f1 ≤ 9223372036854775807 ∧ d.f2 ≤ 9223372036854775807 from ⟨wf_le x9.1, wf_le x9.2⟩)
          have HD4 := Aside0.mk x8
          have HL4 := Aside0.mk x6
          have HDC := Aside0.mk x7
          have HCA0 := Aside0.mk (Kd.C_below x7 HB.out)
          obtain ⟨z0, hz0⟩ : ∃ z, d.f0 = z := ⟨_, rfl⟩
          rw [hz0] at x0
          clear hd hlt hj x6 x7 x8 x9 hz0
          obtain ⟨w4, hw4⟩ : ∃ w4, wr.alloc (.cells #[.int .i64 z0, .int .i64 d.f1, .int .i64 d.f2, .int .i64 d.f3.f0, .int .i64 d.f3.f1, .slice A4 d.f4.length c4] 52) = w4 := ⟨_, rfl⟩
          have hb4 : Below wr.heap.size wr w4 := by rw [← hw4]; exact below_alloc (Below.refl _ _) _
          have HH4 := Aside0.mk (HH.out.below hb4)
          have HB4 := Aside0.mk (below_step HB.out hb4)
          have HX4 := Aside0.mk (blk_below HX.out hb4)
          have HCA4 := Aside0.mk (Kd.C_below HCA0.out hb4)
          have HW4 := Aside0.mk hw4
          clear hb4 hw4
          by_cases h1 : z0 = 1
          · subst h1
            by_cases hb1 : d.f3.f0 = 1
            · have e1 : decide (d.f3.f0 = 1) = true := decide_eq_true hb1
              have e1b : (d.f3.f0 == 1) = true := beq_iff_eq.2 hb1
              have HB1 := Aside0.mk hb1
              clear hb1
              go_upto_region 28 with fail
              rw [HW4.out]
              obtain ⟨w5, hw5⟩ : ∃ w5, w4 = w5 := ⟨_, rfl⟩
              rw [hw5]
              rw [hw5] at HH4 HB4 HX4
              have HH5 := HH4
              have HB5 := HB4
              have HX5 := HX4
              have NX5 := NX
              obtain ⟨s5, hs5⟩ : ∃ z, s = z := ⟨_, rfl⟩
              rw [hs5] at HH5 HQ
              have HQ5 := HQ
              obtain ⟨S5, hS5⟩ : ∃ z : Nat → Prop, S = z := ⟨_, rfl⟩
              rw [hS5] at HH5 NX5
              clear hw5 hs5 hS5 HH4 HB4 HX4 NX HH HB HX HCA4 HQ
              go_wp2_with fail
              have hkb := kb_block HQ5.out
              obtain ⟨y, hy⟩ : ∃ y, blockB s5 1 = y := ⟨_, rfl⟩
              rw [hy] at hkb
              refine (blockH HH5.out 1 (by rw [hy]; exact hkb.lens)).mono ?_
              rintro ev w7 ⟨v7, rfl, hv7, hh7, hb7⟩
              rw [hy] at hv7
              obtain ⟨pv, rfl, A7, c7, rfl, hle7, hpg7⟩ := hv7
              obtain ⟨ad7, v7, rfl, -, hx7, hR7⟩ := hpg7 _ _ hkb.pg
              obtain ⟨Ax, cx, rfl, -, hCx⟩ := Kd.R_reads hR7
              have HCx := Aside0.mk hCx
              have HX7c := Aside0.mk hx7
              have HLE7 := Aside0.mk (show 4 ≤ c7 by rw [← hkb.pl]; exact hle7)
              obtain ⟨ny, hny⟩ : ∃ z, y.next = z := ⟨_, rfl⟩
              have HNY := Aside0.mk (show (i : Int) < ny by rw [← hny]; exact hkb.nx)
              rw [hkb.cnt, hkb.pl, hny]
              have HH7 := Aside0.mk hh7
              have HB7 := Aside0.mk (below_step HB5.out hb7)
              have HX7 := Aside0.mk (blk_below HX5.out hb7)
              clear hkb hh7 hb7 hpg7 hx7 hR7 hCx hny hy HH5 HB5 HX5 hle7
              go_upto_region 29 with fail
              obtain ⟨w8, hw8⟩ : ∃ w8, w7.alloc (.cells #[.bool y.bad, .int .i64 ny, .int .i64 0, .slice (some ad7) 4 c7] 36) = w8 := ⟨_, rfl⟩
              obtain ⟨bx, hbx⟩ : ∃ b, w7.heap.size = b := ⟨_, rfl⟩
              have hb8 : Below w7.heap.size w7 w8 := by rw [← hw8]; exact below_alloc (Below.refl _ _) _
              have HY8 : Aside0 (w8.heap[bx]? = some (.cells #[.bool y.bad, .int .i64 ny, .int .i64 0, .slice (some ad7) 4 c7] 36 (0, 0))) := ⟨by rw [← hw8, ← hbx]; exact blk_new w7 _⟩
              have HH8 := Aside0.mk (HH7.out.below hb8)
              have HB8 := Aside0.mk (below_step HB7.out hb8)
              have HX8 := Aside0.mk (blk_below HX7.out hb8)
              have HC8x := Aside0.mk (Kd.C_below HCx.out hb8)
              have HX8c := Aside0.mk (pw_cell_below hb8 HX7c.out)
              have HC8 := Aside0.mk (Kd.C_below HC.out HB8.out)
              rw [hw8, hbx]
              clear hw8 hbx hb8 HH7 HB7 HX7 HCx HX7c
              have HH9 := Aside0.mk (HH8.out.below (below_drew (Below.refl _ _)))
              have HB9 := Aside0.mk (below_step HB8.out (below_drew (Below.refl _ _)))
              have HX9 := Aside0.mk (blk_below HX8.out (below_drew (Below.refl _ _)))
              have HY9 := Aside0.mk (blk_below HY8.out (below_drew (Below.refl _ _)))
              have HC9x := Aside0.mk (Kd.C_drew HC8x.out)
              have HC9 := Aside0.mk (Kd.C_drew HC8.out)
              have HX9c := Aside0.mk (pw_cell_below (below_drew (Below.refl _ _)) HX8c.out)
              have hny1 : decide (ny ≤ (i : Int)) = false := decide_eq_false (by have := HNY.out; omega)
              have hi4 : (i : Int) < 4 := by have := HK.out; omega
              clear HH8 HB8 HX8 HY8 HC8x HC8 HX8c
              refine start_ (n := 26) (S := fun w' => (w'.cell? ⟨bx, 1, none⟩ = some (.int .i64 ny) ∧ w'.cell? ⟨bx, 2, none⟩ = some (.int .i64 0) ∧ w'.cell? ⟨bx, 3, none⟩ = some (.slice (some ad7) 4 c7)) ∧ w'.cell? (ad7.add i) = some (.slice Ax b.length cx) ∧ (convert 22 9 (.slice Ax b.length cx)).run Try.prog w' = .ok (.string (strOfNums b)) w' ∧ (convert 22 9 (.slice A b.length c)).run Try.prog w' = .ok (.string (strOfNums b)) w') (ds := []) #[false, false, false, false, false, false, false, false, false, false, false, false, false, false, false, false, false, false, false, false, false, false, false, false, false, false] (by kernel_rfl) rfl rfl ⟨⟨(blk_cell HY9.out 1).trans rfl, (blk_cell HY9.out 2).trans rfl, (blk_cell HY9.out 3).trans rfl⟩, HX9c.out, conv22 HC9x.out rfl, conv22 HC9.out rfl⟩ (fun hHeld => ?_)
              refine with_tabW reg_Stands_29.tab reg_Stands_29.bits (fun HT_ HW_ => ?_)
              refine pure_ (i := 0) (N := (some 97)) (v := ?_) (a' := ?_) #[true, false, false, false, false, false, false, false, false, false, false, false, false, false, false, false, false, false, false, false, false, false, false, false, false, false] rfl rfl (any_of HT_.out (by kernel_rfl)) (fun _ _ _ h => h) (Or.inl ⟨by rfl, ?_⟩) ?_ ?_
              rotate_left
              · intro w'
                go_simp
                first | done | with_reducible rfl
              rotate_left
              · simp only [Act.put, List.setIfInBounds_toArray, List.set_cons_zero, List.set_cons_succ, i64_w, i32_w]
                rfl
              refine take_ (i := 1) (N := (some 98)) (v := ?_) (a' := ?_) #[true, true, false, false, false, false, false, false, false, false, false, false, false, false, false, false, false, false, false, false, false, false, false, false, false, false] rfl rfl (take_ofW HT_.out HW_.out (by kernel_rfl)) (fun _ _ _ h => h) (Or.inl ⟨by rfl, ?_⟩) hHeld ?_ ?_
              rotate_left
              · rintro w' ⟨⟨s0, s1, s2⟩, s3, s4, s5_⟩
                go_simp
                first | done | with_reducible rfl
              rotate_left
              · simp only [Act.put, List.setIfInBounds_toArray, List.set_cons_zero, List.set_cons_succ, i64_w, i32_w]
                rfl
              refine pure_ (i := 2) (N := (some 99)) (v := ?_) (a' := ?_) #[true, true, true, false, false, false, false, false, false, false, false, false, false, false, false, false, false, false, false, false, false, false, false, false, false, false] rfl rfl (any_of HT_.out (by kernel_rfl)) (fun _ _ _ h => h) (Or.inl ⟨by rfl, ?_⟩) ?_ ?_
              rotate_left
              · intro w'
                go_simp
                first | done | with_reducible rfl
              rotate_left
              · simp only [Act.put, List.setIfInBounds_toArray, List.set_cons_zero, List.set_cons_succ, i64_w, i32_w]
                rfl
              refine pure_ (i := 3) (N := (some 100)) (v := ?_) (a' := ?_) #[true, true, true, true, false, false, false, false, false, false, false, false, false, false, false, false, false, false, false, false, false, false, false, false, false, false] rfl rfl (any_of HT_.out (by kernel_rfl)) (fun _ _ _ h => h) (Or.inl ⟨by rfl, ?_⟩) ?_ ?_
              rotate_left
              · intro w'
                go_simp
                first | done | with_reducible rfl
              rotate_left
              · simp only [Act.put, List.setIfInBounds_toArray, List.set_cons_zero, List.set_cons_succ, i64_w, i32_w]
                rfl
              refine pure_ (i := 4) (N := (some 101)) (v := ?_) (a' := ?_) #[true, true, true, true, true, false, false, false, false, false, false, false, false, false, false, false, false, false, false, false, false, false, false, false, false, false] rfl rfl (any_of HT_.out (by kernel_rfl)) (fun _ _ _ h => h) (Or.inl ⟨by rfl, ?_⟩) ?_ ?_
              rotate_left
              · intro w'
                go_simp
                first | done | with_reducible rfl
              rotate_left
              · simp only [Act.put, List.setIfInBounds_toArray, List.set_cons_zero, List.set_cons_succ, i64_w, i32_w]
                rfl
              refine pure_ (i := 5) (N := (some 102)) (v := ?_) (a' := ?_) #[true, true, true, true, true, true, false, false, false, false, false, false, false, false, false, false, false, false, false, false, false, false, false, false, false, false] rfl rfl (any_of HT_.out (by kernel_rfl)) (fun _ _ _ h => h) (Or.inl ⟨by rfl, ?_⟩) ?_ ?_
              rotate_left
              · intro w'
                go_simp
                first | done | with_reducible rfl
              rotate_left
              · simp only [Act.put, List.setIfInBounds_toArray, List.set_cons_zero, List.set_cons_succ, i64_w, i32_w]
                rfl
              refine take_ (i := 6) (N := (some 103)) (v := ?_) (a' := ?_) #[true, true, true, true, true, true, true, false, false, false, false, false, false, false, false, false, false, false, false, false, false, false, false, false, false, false] rfl rfl (take_ofW HT_.out HW_.out (by kernel_rfl)) (fun _ _ _ h => h) (Or.inl ⟨by rfl, ?_⟩) hHeld ?_ ?_
              rotate_left
              · rintro w' ⟨⟨s0, s1, s2⟩, s3, s4, s5_⟩
                go_simp
                first | done | with_reducible rfl
              rotate_left
              · simp only [Act.put, List.setIfInBounds_toArray, List.set_cons_zero, List.set_cons_succ, i64_w, i32_w]
                rfl
              refine pure_ (i := 7) (N := (some 104)) (v := ?_) (a' := ?_) #[true, true, true, true, true, true, true, true, false, false, false, false, false, false, false, false, false, false, false, false, false, false, false, false, false, false] rfl rfl (any_of HT_.out (by kernel_rfl)) (fun _ _ _ h => h) (Or.inl ⟨by rfl, ?_⟩) ?_ ?_
              rotate_left
              · intro w'
                go_simp
                first | done | with_reducible rfl
              rotate_left
              · simp only [Act.put, List.setIfInBounds_toArray, List.set_cons_zero, List.set_cons_succ, i64_w, i32_w]
                rfl
              refine pure_ (i := 8) (N := (some 105)) (v := ?_) (a' := ?_) #[true, true, true, true, true, true, true, true, true, false, false, false, false, false, false, false, false, false, false, false, false, false, false, false, false, false] rfl rfl (any_of HT_.out (by kernel_rfl)) (fun _ _ _ h => h) (Or.inl ⟨by rfl, ?_⟩) ?_ ?_
              rotate_left
              · intro w'
                go_simp
                first | done | with_reducible rfl
              rotate_left
              · simp only [Act.put, List.setIfInBounds_toArray, List.set_cons_zero, List.set_cons_succ, i64_w, i32_w]
                rfl
              refine take_ (i := 9) (N := (some 106)) (v := ?_) (a' := ?_) #[true, true, true, true, true, true, true, true, true, true, false, false, false, false, false, false, false, false, false, false, false, false, false, false, false, false] rfl rfl (take_ofW HT_.out HW_.out (by kernel_rfl)) (fun _ _ _ h => h) (Or.inl ⟨by rfl, ?_⟩) hHeld ?_ ?_
              rotate_left
              · rintro w' ⟨⟨s0, s1, s2⟩, s3, s4, s5_⟩
                go_simp
                first | done | with_reducible rfl
              rotate_left
              · simp only [Act.put, List.setIfInBounds_toArray, List.set_cons_zero, List.set_cons_succ, i64_w, i32_w]
                rfl
              refine take_ (i := 10) (N := (some 107)) (v := ?_) (a' := ?_) #[true, true, true, true, true, true, true, true, true, true, true, false, false, false, false, false, false, false, false, false, false, false, false, false, false, false] rfl rfl (take_ofW HT_.out HW_.out (by kernel_rfl)) (fun _ _ _ h => h) (Or.inl ⟨by rfl, ?_⟩) hHeld ?_ ?_
              rotate_left
              · rintro w' ⟨⟨s0, s1, s2⟩, s3, s4, s5_⟩
                go_simp
                first | done | with_reducible rfl
              rotate_left
              · simp only [Act.put, List.setIfInBounds_toArray, List.set_cons_zero, List.set_cons_succ, i64_w, i32_w]
                rfl
              refine pure_ (i := 11) (N := (some 108)) (v := ?_) (a' := ?_) #[true, true, true, true, true, true, true, true, true, true, true, true, false, false, false, false, false, false, false, false, false, false, false, false, false, false] rfl rfl (any_of HT_.out (by kernel_rfl)) (fun _ _ _ h => h) (Or.inl ⟨by rfl, ?_⟩) ?_ ?_
              rotate_left
              · intro w'
                go_simp
                first | done | with_reducible rfl
              rotate_left
              · simp only [Act.put, List.setIfInBounds_toArray, List.set_cons_zero, List.set_cons_succ, i64_w, i32_w]
                rfl
              refine take_ (i := 12) (N := (some 109)) (v := ?_) (a' := ?_) #[true, true, true, true, true, true, true, true, true, true, true, true, true, false, false, false, false, false, false, false, false, false, false, false, false, false] rfl rfl (take_ofW HT_.out HW_.out (by kernel_rfl)) (fun _ _ _ h => h) (Or.inl ⟨by rfl, ?_⟩) hHeld ?_ ?_
              rotate_left
              · rintro w' ⟨⟨s0, s1, s2⟩, s3, s4, s5_⟩
                go_simp
                first | done | with_reducible rfl
              rotate_left
              · simp only [Act.put, List.setIfInBounds_toArray, List.set_cons_zero, List.set_cons_succ, i64_w, i32_w]
                rfl
              refine pure_ (i := 13) (N := (some 110)) (v := ?_) (a' := ?_) #[true, true, true, true, true, true, true, true, true, true, true, true, true, true, false, false, false, false, false, false, false, false, false, false, false, false] rfl rfl (any_of HT_.out (by kernel_rfl)) (fun _ _ _ h => h) (Or.inl ⟨by rfl, ?_⟩) ?_ ?_
              rotate_left
              · intro w'
                go_simp
                first | done | with_reducible rfl
              rotate_left
              · simp only [Act.put, List.setIfInBounds_toArray, List.set_cons_zero, List.set_cons_succ, i64_w, i32_w]
                rfl
              refine pure_ (i := 14) (N := (some 111)) (v := ?_) (a' := ?_) #[true, true, true, true, true, true, true, true, true, true, true, true, true, true, true, false, false, false, false, false, false, false, false, false, false, false] rfl rfl (any_of HT_.out (by kernel_rfl)) (fun _ _ _ h => h) (Or.inl ⟨by rfl, ?_⟩) ?_ ?_
              rotate_left
              · intro w'
                go_simp
                first | done | with_reducible rfl
              rotate_left
              · simp only [Act.put, List.setIfInBounds_toArray, List.set_cons_zero, List.set_cons_succ, i64_w, i32_w]
                rfl
              refine pure_ (i := 15) (N := (some 112)) (v := ?_) (a' := ?_) #[true, true, true, true, true, true, true, true, true, true, true, true, true, true, true, true, false, false, false, false, false, false, false, false, false, false] rfl rfl (any_of HT_.out (by kernel_rfl)) (fun _ _ _ h => h) (Or.inl ⟨by rfl, ?_⟩) ?_ ?_
              rotate_left
              · intro w'
                go_simp
                first | done | with_reducible rfl
              rotate_left
              · simp only [Act.put, List.setIfInBounds_toArray, List.set_cons_zero, List.set_cons_succ, i64_w, i32_w]
                rfl
              refine pure_ (i := 16) (N := (some 113)) (v := ?_) (a' := ?_) #[true, true, true, true, true, true, true, true, true, true, true, true, true, true, true, true, true, false, false, false, false, false, false, false, false, false] rfl rfl (any_of HT_.out (by kernel_rfl)) (fun _ _ _ h => h) (Or.inl ⟨by rfl, ?_⟩) ?_ ?_
              rotate_left
              · intro w'
                go_simp
                first | done | with_reducible rfl
              rotate_left
              · simp only [Act.put, List.setIfInBounds_toArray, List.set_cons_zero, List.set_cons_succ, i64_w, i32_w]
                rfl
              refine take_ (i := 17) (N := (some 114)) (v := ?_) (a' := ?_) #[true, true, true, true, true, true, true, true, true, true, true, true, true, true, true, true, true, true, false, false, false, false, false, false, false, false] rfl rfl (take_ofW HT_.out HW_.out (by kernel_rfl)) (fun _ _ _ h => h) (Or.inl ⟨by rfl, ?_⟩) hHeld ?_ ?_
              rotate_left
              · rintro w' ⟨⟨s0, s1, s2⟩, s3, s4, s5_⟩
                go_simp
                first | done | with_reducible rfl
              rotate_left
              · simp only [Act.put, List.setIfInBounds_toArray, List.set_cons_zero, List.set_cons_succ, i64_w, i32_w]
                rfl
              refine pure_ (i := 18) (N := (some 115)) (v := ?_) (a' := ?_) #[true, true, true, true, true, true, true, true, true, true, true, true, true, true, true, true, true, true, true, false, false, false, false, false, false, false] rfl rfl (any_of HT_.out (by kernel_rfl)) (fun _ _ _ h => h) (Or.inl ⟨by rfl, ?_⟩) ?_ ?_
              rotate_left
              · intro w'
                go_simp
                first | done | with_reducible rfl
              rotate_left
              · simp only [Act.put, List.setIfInBounds_toArray, List.set_cons_zero, List.set_cons_succ, i64_w, i32_w]
                rfl
              refine pure_ (i := 19) (N := (some 116)) (v := ?_) (a' := ?_) #[true, true, true, true, true, true, true, true, true, true, true, true, true, true, true, true, true, true, true, true, false, false, false, false, false, false] rfl rfl (any_of HT_.out (by kernel_rfl)) (fun _ _ _ h => h) (Or.inl ⟨by rfl, ?_⟩) ?_ ?_
              rotate_left
              · intro w'
                go_simp
                first | done | with_reducible rfl
              rotate_left
              · simp only [Act.put, List.setIfInBounds_toArray, List.set_cons_zero, List.set_cons_succ, i64_w, i32_w]
                rfl
              refine pure_ (i := 20) (N := (some 117)) (v := ?_) (a' := ?_) #[true, true, true, true, true, true, true, true, true, true, true, true, true, true, true, true, true, true, true, true, true, false, false, false, false, false] rfl rfl (any_of HT_.out (by kernel_rfl)) (fun _ _ _ h => h) (Or.inl ⟨by rfl, ?_⟩) ?_ ?_
              rotate_left
              · intro w'
                go_simp
                first | done | with_reducible rfl
              rotate_left
              · simp only [Act.put, List.setIfInBounds_toArray, List.set_cons_zero, List.set_cons_succ, i64_w, i32_w]
                rfl
              refine pure_ (i := 21) (N := (some 118)) (v := ?_) (a' := ?_) #[true, true, true, true, true, true, true, true, true, true, true, true, true, true, true, true, true, true, true, true, true, true, false, false, false, false] rfl rfl (any_of HT_.out (by kernel_rfl)) (fun _ _ _ h => h) (Or.inl ⟨by rfl, ?_⟩) ?_ ?_
              rotate_left
              · intro w'
                go_simp
                first | done | with_reducible rfl
              rotate_left
              · simp only [Act.put, List.setIfInBounds_toArray, List.set_cons_zero, List.set_cons_succ, i64_w, i32_w]
                rfl
              refine pure_ (i := 22) (N := (some 119)) (v := ?_) (a' := ?_) #[true, true, true, true, true, true, true, true, true, true, true, true, true, true, true, true, true, true, true, true, true, true, true, false, false, false] rfl rfl (any_of HT_.out (by kernel_rfl)) (fun _ _ _ h => h) (Or.inl ⟨by rfl, ?_⟩) ?_ ?_
              rotate_left
              · intro w'
                go_simp
                first | done | with_reducible rfl
              rotate_left
              · simp only [Act.put, List.setIfInBounds_toArray, List.set_cons_zero, List.set_cons_succ, i64_w, i32_w]
                rfl
              refine take_ (i := 23) (N := (some 120)) (v := ?_) (a' := ?_) #[true, true, true, true, true, true, true, true, true, true, true, true, true, true, true, true, true, true, true, true, true, true, true, true, false, false] rfl rfl (take_ofW HT_.out HW_.out (by kernel_rfl)) (fun _ _ _ h => h) (Or.inl ⟨by rfl, ?_⟩) hHeld ?_ ?_
              rotate_left
              · rintro w' ⟨⟨s0, s1, s2⟩, s3, s4, s5_⟩
                go_simp
                first | done | with_reducible rfl
              rotate_left
              · simp only [Act.put, List.setIfInBounds_toArray, List.set_cons_zero, List.set_cons_succ, i64_w, i32_w]
                rfl
              refine pure_ (i := 24) (N := (some 121)) (v := ?_) (a' := ?_) #[true, true, true, true, true, true, true, true, true, true, true, true, true, true, true, true, true, true, true, true, true, true, true, true, true, false] rfl rfl (any_of HT_.out (by kernel_rfl)) (fun _ _ _ h => h) (Or.inl ⟨by rfl, ?_⟩) ?_ ?_
              rotate_left
              · intro w'
                go_simp
                first | done | with_reducible rfl
              rotate_left
              · simp only [Act.put, List.setIfInBounds_toArray, List.set_cons_zero, List.set_cons_succ, i64_w, i32_w]
                rfl
              refine pure_ (i := 25) (N := (some 122)) (v := ?_) (a' := ?_) #[true, true, true, true, true, true, true, true, true, true, true, true, true, true, true, true, true, true, true, true, true, true, true, true, true, true] rfl rfl (any_of HT_.out (by kernel_rfl)) (fun _ _ _ h => h) (Or.inl ⟨by rfl, ?_⟩) ?_ ?_
              rotate_left
              · intro w'
                go_simp
                first | done | with_reducible rfl
              rotate_left
              · simp only [Act.put, List.setIfInBounds_toArray, List.set_cons_zero, List.set_cons_succ, i64_w, i32_w]
                rfl
              refine done_ (done_of HT_.out (by kernel_rfl)) ?_
              clear hHeld HT_ HW_ hny1 hi4
              go_wp2_with fail
              go_roundw
              case measure =>
                have hm : l.length - ((j + 1 : Nat) : Int).toNat < l.length - ((j : Nat) : Int).toNat := by
                  rw [Int.toNat_natCast, Int.toNat_natCast]
                  exact Nat.sub_lt_sub_left HLT.out (Nat.lt_succ_self j)
                first | exact hm | (rw [hw2]; exact hm)
              case rel => exact ⟨j + 1, s5, S5, HLT.out, by first | rw [hw2] | rfl, HQ5, HH9, HB9, HX9, NX5⟩
            · have e1 : decide (d.f3.f0 = 1) = false := decide_eq_false hb1
              have e1b : (d.f3.f0 == 1) = false := beq_eq_false_iff_ne.2 hb1
              have HB1 := Aside0.mk hb1
              clear hb1
              go_wp2_with fail
              rw [HW4.out]
              refine (eraseH HH4.out d.f3.f0).mono ?_
              rintro ev w5 ⟨rfl, hh5, hn5⟩
              have HQ5 := Aside0.mk (kb_erase HQ.out d.f3.f0 HB1.out)
              obtain ⟨s5, hs5⟩ : ∃ z, (eraseS s d.f3.f0).1 = z := ⟨_, rfl⟩
              rw [hs5] at HQ5 hh5
              have HH5 := Aside0.mk hh5
              have HB5 := Aside0.mk (HB4.out.trans (hn5.bel.mono HBS.out))
              obtain ⟨k1_, k2_⟩ := hn5.both HX4.out NX.out
              have HX5 := Aside0.mk k1_
              have NX5 := Aside0.mk k2_
              clear hs5 hh5 hn5 k1_ k2_ HH4 HB4 HX4 NX HH HB HX HCA4 HQ
              go_wp2_with fail
              have hkb := kb_block HQ5.out
              obtain ⟨y, hy⟩ : ∃ y, blockB s5 1 = y := ⟨_, rfl⟩
              rw [hy] at hkb
              refine (blockH HH5.out 1 (by rw [hy]; exact hkb.lens)).mono ?_
              rintro ev w7 ⟨v7, rfl, hv7, hh7, hb7⟩
              rw [hy] at hv7
              obtain ⟨pv, rfl, A7, c7, rfl, hle7, hpg7⟩ := hv7
              obtain ⟨ad7, v7, rfl, -, hx7, hR7⟩ := hpg7 _ _ hkb.pg
              obtain ⟨Ax, cx, rfl, -, hCx⟩ := Kd.R_reads hR7
              have HCx := Aside0.mk hCx
              have HX7c := Aside0.mk hx7
              have HLE7 := Aside0.mk (show 4 ≤ c7 by rw [← hkb.pl]; exact hle7)
              obtain ⟨ny, hny⟩ : ∃ z, y.next = z := ⟨_, rfl⟩
              have HNY := Aside0.mk (show (i : Int) < ny by rw [← hny]; exact hkb.nx)
              rw [hkb.cnt, hkb.pl, hny]
              have HH7 := Aside0.mk hh7
              have HB7 := Aside0.mk (below_step HB5.out hb7)
              have HX7 := Aside0.mk (blk_below HX5.out hb7)
              clear hkb hh7 hb7 hpg7 hx7 hR7 hCx hny hy HH5 HB5 HX5 hle7
              go_upto_region 29 with fail
              obtain ⟨w8, hw8⟩ : ∃ w8, w7.alloc (.cells #[.bool y.bad, .int .i64 ny, .int .i64 0, .slice (some ad7) 4 c7] 36) = w8 := ⟨_, rfl⟩
              obtain ⟨bx, hbx⟩ : ∃ b, w7.heap.size = b := ⟨_, rfl⟩
              have hb8 : Below w7.heap.size w7 w8 := by rw [← hw8]; exact below_alloc (Below.refl _ _) _
              have HY8 : Aside0 (w8.heap[bx]? = some (.cells #[.bool y.bad, .int .i64 ny, .int .i64 0, .slice (some ad7) 4 c7] 36 (0, 0))) := ⟨by rw [← hw8, ← hbx]; exact blk_new w7 _⟩
              have HH8 := Aside0.mk (HH7.out.below hb8)
              have HB8 := Aside0.mk (below_step HB7.out hb8)
              have HX8 := Aside0.mk (blk_below HX7.out hb8)
              have HC8x := Aside0.mk (Kd.C_below HCx.out hb8)
              have HX8c := Aside0.mk (pw_cell_below hb8 HX7c.out)
              have HC8 := Aside0.mk (Kd.C_below HC.out HB8.out)
              rw [hw8, hbx]
              clear hw8 hbx hb8 HH7 HB7 HX7 HCx HX7c
              have HH9 := Aside0.mk (HH8.out.below (below_drew (Below.refl _ _)))
              have HB9 := Aside0.mk (below_step HB8.out (below_drew (Below.refl _ _)))
              have HX9 := Aside0.mk (blk_below HX8.out (below_drew (Below.refl _ _)))
              have HY9 := Aside0.mk (blk_below HY8.out (below_drew (Below.refl _ _)))
              have HC9x := Aside0.mk (Kd.C_drew HC8x.out)
              have HC9 := Aside0.mk (Kd.C_drew HC8.out)
              have HX9c := Aside0.mk (pw_cell_below (below_drew (Below.refl _ _)) HX8c.out)
              have hny1 : decide (ny ≤ (i : Int)) = false := decide_eq_false (by have := HNY.out; omega)
              have hi4 : (i : Int) < 4 := by have := HK.out; omega
              clear HH8 HB8 HX8 HY8 HC8x HC8 HX8c
              refine start_ (n := 26) (S := fun w' => (w'.cell? ⟨bx, 1, none⟩ = some (.int .i64 ny) ∧ w'.cell? ⟨bx, 2, none⟩ = some (.int .i64 0) ∧ w'.cell? ⟨bx, 3, none⟩ = some (.slice (some ad7) 4 c7)) ∧ w'.cell? (ad7.add i) = some (.slice Ax b.length cx) ∧ (convert 22 9 (.slice Ax b.length cx)).run Try.prog w' = .ok (.string (strOfNums b)) w' ∧ (convert 22 9 (.slice A b.length c)).run Try.prog w' = .ok (.string (strOfNums b)) w') (ds := []) #[false, false, false, false, false, false, false, false, false, false, false, false, false, false, false, false, false, false, false, false, false, false, false, false, false, false] (by kernel_rfl) rfl rfl ⟨⟨(blk_cell HY9.out 1).trans rfl, (blk_cell HY9.out 2).trans rfl, (blk_cell HY9.out 3).trans rfl⟩, HX9c.out, conv22 HC9x.out rfl, conv22 HC9.out rfl⟩ (fun hHeld => ?_)
              refine with_tabW reg_Stands_29.tab reg_Stands_29.bits (fun HT_ HW_ => ?_)
              refine pure_ (i := 0) (N := (some 97)) (v := ?_) (a' := ?_) #[true, false, false, false, false, false, false, false, false, false, false, false, false, false, false, false, false, false, false, false, false, false, false, false, false, false] rfl rfl (any_of HT_.out (by kernel_rfl)) (fun _ _ _ h => h) (Or.inl ⟨by rfl, ?_⟩) ?_ ?_
              rotate_left
              · intro w'
                go_simp
                first | done | with_reducible rfl
              rotate_left
              · simp only [Act.put, List.setIfInBounds_toArray, List.set_cons_zero, List.set_cons_succ, i64_w, i32_w]
                rfl
              refine take_ (i := 1) (N := (some 98)) (v := ?_) (a' := ?_) #[true, true, false, false, false, false, false, false, false, false, false, false, false, false, false, false, false, false, false, false, false, false, false, false, false, false] rfl rfl (take_ofW HT_.out HW_.out (by kernel_rfl)) (fun _ _ _ h => h) (Or.inl ⟨by rfl, ?_⟩) hHeld ?_ ?_
              rotate_left
              · rintro w' ⟨⟨s0, s1, s2⟩, s3, s4, s5_⟩
                go_simp
                first | done | with_reducible rfl
              rotate_left
              · simp only [Act.put, List.setIfInBounds_toArray, List.set_cons_zero, List.set_cons_succ, i64_w, i32_w]
                rfl
              refine pure_ (i := 2) (N := (some 99)) (v := ?_) (a' := ?_) #[true, true, true, false, false, false, false, false, false, false, false, false, false, false, false, false, false, false, false, false, false, false, false, false, false, false] rfl rfl (any_of HT_.out (by kernel_rfl)) (fun _ _ _ h => h) (Or.inl ⟨by rfl, ?_⟩) ?_ ?_
              rotate_left
              · intro w'
                go_simp
                first | done | with_reducible rfl
              rotate_left
              · simp only [Act.put, List.setIfInBounds_toArray, List.set_cons_zero, List.set_cons_succ, i64_w, i32_w]
                rfl
              refine pure_ (i := 3) (N := (some 100)) (v := ?_) (a' := ?_) #[true, true, true, true, false, false, false, false, false, false, false, false, false, false, false, false, false, false, false, false, false, false, false, false, false, false] rfl rfl (any_of HT_.out (by kernel_rfl)) (fun _ _ _ h => h) (Or.inl ⟨by rfl, ?_⟩) ?_ ?_
              rotate_left
              · intro w'
                go_simp
                first | done | with_reducible rfl
              rotate_left
              · simp only [Act.put, List.setIfInBounds_toArray, List.set_cons_zero, List.set_cons_succ, i64_w, i32_w]
                rfl
              refine pure_ (i := 4) (N := (some 101)) (v := ?_) (a' := ?_) #[true, true, true, true, true, false, false, false, false, false, false, false, false, false, false, false, false, false, false, false, false, false, false, false, false, false] rfl rfl (any_of HT_.out (by kernel_rfl)) (fun _ _ _ h => h) (Or.inl ⟨by rfl, ?_⟩) ?_ ?_
              rotate_left
              · intro w'
                go_simp
                first | done | with_reducible rfl
              rotate_left
              · simp only [Act.put, List.setIfInBounds_toArray, List.set_cons_zero, List.set_cons_succ, i64_w, i32_w]
                rfl
              refine pure_ (i := 5) (N := (some 102)) (v := ?_) (a' := ?_) #[true, true, true, true, true, true, false, false, false, false, false, false, false, false, false, false, false, false, false, false, false, false, false, false, false, false] rfl rfl (any_of HT_.out (by kernel_rfl)) (fun _ _ _ h => h) (Or.inl ⟨by rfl, ?_⟩) ?_ ?_
              rotate_left
              · intro w'
                go_simp
                first | done | with_reducible rfl
              rotate_left
              · simp only [Act.put, List.setIfInBounds_toArray, List.set_cons_zero, List.set_cons_succ, i64_w, i32_w]
                rfl
              refine take_ (i := 6) (N := (some 103)) (v := ?_) (a' := ?_) #[true, true, true, true, true, true, true, false, false, false, false, false, false, false, false, false, false, false, false, false, false, false, false, false, false, false] rfl rfl (take_ofW HT_.out HW_.out (by kernel_rfl)) (fun _ _ _ h => h) (Or.inl ⟨by rfl, ?_⟩) hHeld ?_ ?_
              rotate_left
              · rintro w' ⟨⟨s0, s1, s2⟩, s3, s4, s5_⟩
                go_simp
                first | done | with_reducible rfl
              rotate_left
              · simp only [Act.put, List.setIfInBounds_toArray, List.set_cons_zero, List.set_cons_succ, i64_w, i32_w]
                rfl
              refine pure_ (i := 7) (N := (some 104)) (v := ?_) (a' := ?_) #[true, true, true, true, true, true, true, true, false, false, false, false, false, false, false, false, false, false, false, false, false, false, false, false, false, false] rfl rfl (any_of HT_.out (by kernel_rfl)) (fun _ _ _ h => h) (Or.inl ⟨by rfl, ?_⟩) ?_ ?_
              rotate_left
              · intro w'
                go_simp
                first | done | with_reducible rfl
              rotate_left
              · simp only [Act.put, List.setIfInBounds_toArray, List.set_cons_zero, List.set_cons_succ, i64_w, i32_w]
                rfl
              refine pure_ (i := 8) (N := (some 105)) (v := ?_) (a' := ?_) #[true, true, true, true, true, true, true, true, true, false, false, false, false, false, false, false, false, false, false, false, false, false, false, false, false, false] rfl rfl (any_of HT_.out (by kernel_rfl)) (fun _ _ _ h => h) (Or.inl ⟨by rfl, ?_⟩) ?_ ?_
              rotate_left
              · intro w'
                go_simp
                first | done | with_reducible rfl
              rotate_left
              · simp only [Act.put, List.setIfInBounds_toArray, List.set_cons_zero, List.set_cons_succ, i64_w, i32_w]
                rfl
              refine take_ (i := 9) (N := (some 106)) (v := ?_) (a' := ?_) #[true, true, true, true, true, true, true, true, true, true, false, false, false, false, false, false, false, false, false, false, false, false, false, false, false, false] rfl rfl (take_ofW HT_.out HW_.out (by kernel_rfl)) (fun _ _ _ h => h) (Or.inl ⟨by rfl, ?_⟩) hHeld ?_ ?_
              rotate_left
              · rintro w' ⟨⟨s0, s1, s2⟩, s3, s4, s5_⟩
                go_simp
                first | done | with_reducible rfl
              rotate_left
              · simp only [Act.put, List.setIfInBounds_toArray, List.set_cons_zero, List.set_cons_succ, i64_w, i32_w]
                rfl
              refine take_ (i := 10) (N := (some 107)) (v := ?_) (a' := ?_) #[true, true, true, true, true, true, true, true, true, true, true, false, false, false, false, false, false, false, false, false, false, false, false, false, false, false] rfl rfl (take_ofW HT_.out HW_.out (by kernel_rfl)) (fun _ _ _ h => h) (Or.inl ⟨by rfl, ?_⟩) hHeld ?_ ?_
              rotate_left
              · rintro w' ⟨⟨s0, s1, s2⟩, s3, s4, s5_⟩
                go_simp
                first | done | with_reducible rfl
              rotate_left
              · simp only [Act.put, List.setIfInBounds_toArray, List.set_cons_zero, List.set_cons_succ, i64_w, i32_w]
                rfl
              refine pure_ (i := 11) (N := (some 108)) (v := ?_) (a' := ?_) #[true, true, true, true, true, true, true, true, true, true, true, true, false, false, false, false, false, false, false, false, false, false, false, false, false, false] rfl rfl (any_of HT_.out (by kernel_rfl)) (fun _ _ _ h => h) (Or.inl ⟨by rfl, ?_⟩) ?_ ?_
              rotate_left
              · intro w'
                go_simp
                first | done | with_reducible rfl
              rotate_left
              · simp only [Act.put, List.setIfInBounds_toArray, List.set_cons_zero, List.set_cons_succ, i64_w, i32_w]
                rfl
              refine take_ (i := 12) (N := (some 109)) (v := ?_) (a' := ?_) #[true, true, true, true, true, true, true, true, true, true, true, true, true, false, false, false, false, false, false, false, false, false, false, false, false, false] rfl rfl (take_ofW HT_.out HW_.out (by kernel_rfl)) (fun _ _ _ h => h) (Or.inl ⟨by rfl, ?_⟩) hHeld ?_ ?_
              rotate_left
              · rintro w' ⟨⟨s0, s1, s2⟩, s3, s4, s5_⟩
                go_simp
                first | done | with_reducible rfl
              rotate_left
              · simp only [Act.put, List.setIfInBounds_toArray, List.set_cons_zero, List.set_cons_succ, i64_w, i32_w]
                rfl
              refine pure_ (i := 13) (N := (some 110)) (v := ?_) (a' := ?_) #[true, true, true, true, true, true, true, true, true, true, true, true, true, true, false, false, false, false, false, false, false, false, false, false, false, false] rfl rfl (any_of HT_.out (by kernel_rfl)) (fun _ _ _ h => h) (Or.inl ⟨by rfl, ?_⟩) ?_ ?_
              rotate_left
              · intro w'
                go_simp
                first | done | with_reducible rfl
              rotate_left
              · simp only [Act.put, List.setIfInBounds_toArray, List.set_cons_zero, List.set_cons_succ, i64_w, i32_w]
                rfl
              refine pure_ (i := 14) (N := (some 111)) (v := ?_) (a' := ?_) #[true, true, true, true, true, true, true, true, true, true, true, true, true, true, true, false, false, false, false, false, false, false, false, false, false, false] rfl rfl (any_of HT_.out (by kernel_rfl)) (fun _ _ _ h => h) (Or.inl ⟨by rfl, ?_⟩) ?_ ?_
              rotate_left
              · intro w'
                go_simp
                first | done | with_reducible rfl
              rotate_left
              · simp only [Act.put, List.setIfInBounds_toArray, List.set_cons_zero, List.set_cons_succ, i64_w, i32_w]
                rfl
              refine pure_ (i := 15) (N := (some 112)) (v := ?_) (a' := ?_) #[true, true, true, true, true, true, true, true, true, true, true, true, true, true, true, true, false, false, false, false, false, false, false, false, false, false] rfl rfl (any_of HT_.out (by kernel_rfl)) (fun _ _ _ h => h) (Or.inl ⟨by rfl, ?_⟩) ?_ ?_
              rotate_left
              · intro w'
                go_simp
                first | done | with_reducible rfl
              rotate_left
              · simp only [Act.put, List.setIfInBounds_toArray, List.set_cons_zero, List.set_cons_succ, i64_w, i32_w]
                rfl
              refine pure_ (i := 16) (N := (some 113)) (v := ?_) (a' := ?_) #[true, true, true, true, true, true, true, true, true, true, true, true, true, true, true, true, true, false, false, false, false, false, false, false, false, false] rfl rfl (any_of HT_.out (by kernel_rfl)) (fun _ _ _ h => h) (Or.inl ⟨by rfl, ?_⟩) ?_ ?_
              rotate_left
              · intro w'
                go_simp
                first | done | with_reducible rfl
              rotate_left
              · simp only [Act.put, List.setIfInBounds_toArray, List.set_cons_zero, List.set_cons_succ, i64_w, i32_w]
                rfl
              refine take_ (i := 17) (N := (some 114)) (v := ?_) (a' := ?_) #[true, true, true, true, true, true, true, true, true, true, true, true, true, true, true, true, true, true, false, false, false, false, false, false, false, false] rfl rfl (take_ofW HT_.out HW_.out (by kernel_rfl)) (fun _ _ _ h => h) (Or.inl ⟨by rfl, ?_⟩) hHeld ?_ ?_
              rotate_left
              · rintro w' ⟨⟨s0, s1, s2⟩, s3, s4, s5_⟩
                go_simp
                first | done | with_reducible rfl
              rotate_left
              · simp only [Act.put, List.setIfInBounds_toArray, List.set_cons_zero, List.set_cons_succ, i64_w, i32_w]
                rfl
              refine pure_ (i := 18) (N := (some 115)) (v := ?_) (a' := ?_) #[true, true, true, true, true, true, true, true, true, true, true, true, true, true, true, true, true, true, true, false, false, false, false, false, false, false] rfl rfl (any_of HT_.out (by kernel_rfl)) (fun _ _ _ h => h) (Or.inl ⟨by rfl, ?_⟩) ?_ ?_
              rotate_left
              · intro w'
                go_simp
                first | done | with_reducible rfl
              rotate_left
              · simp only [Act.put, List.setIfInBounds_toArray, List.set_cons_zero, List.set_cons_succ, i64_w, i32_w]
                rfl
              refine pure_ (i := 19) (N := (some 116)) (v := ?_) (a' := ?_) #[true, true, true, true, true, true, true, true, true, true, true, true, true, true, true, true, true, true, true, true, false, false, false, false, false, false] rfl rfl (any_of HT_.out (by kernel_rfl)) (fun _ _ _ h => h) (Or.inl ⟨by rfl, ?_⟩) ?_ ?_
              rotate_left
              · intro w'
                go_simp
                first | done | with_reducible rfl
              rotate_left
              · simp only [Act.put, List.setIfInBounds_toArray, List.set_cons_zero, List.set_cons_succ, i64_w, i32_w]
                rfl
              refine pure_ (i := 20) (N := (some 117)) (v := ?_) (a' := ?_) #[true, true, true, true, true, true, true, true, true, true, true, true, true, true, true, true, true, true, true, true, true, false, false, false, false, false] rfl rfl (any_of HT_.out (by kernel_rfl)) (fun _ _ _ h => h) (Or.inl ⟨by rfl, ?_⟩) ?_ ?_
              rotate_left
              · intro w'
                go_simp
                first | done | with_reducible rfl
              rotate_left
              · simp only [Act.put, List.setIfInBounds_toArray, List.set_cons_zero, List.set_cons_succ, i64_w, i32_w]
                rfl
              refine pure_ (i := 21) (N := (some 118)) (v := ?_) (a' := ?_) #[true, true, true, true, true, true, true, true, true, true, true, true, true, true, true, true, true, true, true, true, true, true, false, false, false, false] rfl rfl (any_of HT_.out (by kernel_rfl)) (fun _ _ _ h => h) (Or.inl ⟨by rfl, ?_⟩) ?_ ?_
              rotate_left
              · intro w'
                go_simp
                first | done | with_reducible rfl
              rotate_left
              · simp only [Act.put, List.setIfInBounds_toArray, List.set_cons_zero, List.set_cons_succ, i64_w, i32_w]
                rfl
              refine pure_ (i := 22) (N := (some 119)) (v := ?_) (a' := ?_) #[true, true, true, true, true, true, true, true, true, true, true, true, true, true, true, true, true, true, true, true, true, true, true, false, false, false] rfl rfl (any_of HT_.out (by kernel_rfl)) (fun _ _ _ h => h) (Or.inl ⟨by rfl, ?_⟩) ?_ ?_
              rotate_left
              · intro w'
                go_simp
                first | done | with_reducible rfl
              rotate_left
              · simp only [Act.put, List.setIfInBounds_toArray, List.set_cons_zero, List.set_cons_succ, i64_w, i32_w]
                rfl
              refine take_ (i := 23) (N := (some 120)) (v := ?_) (a' := ?_) #[true, true, true, true, true, true, true, true, true, true, true, true, true, true, true, true, true, true, true, true, true, true, true, true, false, false] rfl rfl (take_ofW HT_.out HW_.out (by kernel_rfl)) (fun _ _ _ h => h) (Or.inl ⟨by rfl, ?_⟩) hHeld ?_ ?_
              rotate_left
              · rintro w' ⟨⟨s0, s1, s2⟩, s3, s4, s5_⟩
                go_simp
                first | done | with_reducible rfl
              rotate_left
              · simp only [Act.put, List.setIfInBounds_toArray, List.set_cons_zero, List.set_cons_succ, i64_w, i32_w]
                rfl
              refine pure_ (i := 24) (N := (some 121)) (v := ?_) (a' := ?_) #[true, true, true, true, true, true, true, true, true, true, true, true, true, true, true, true, true, true, true, true, true, true, true, true, true, false] rfl rfl (any_of HT_.out (by kernel_rfl)) (fun _ _ _ h => h) (Or.inl ⟨by rfl, ?_⟩) ?_ ?_
              rotate_left
              · intro w'
                go_simp
                first | done | with_reducible rfl
              rotate_left
              · simp only [Act.put, List.setIfInBounds_toArray, List.set_cons_zero, List.set_cons_succ, i64_w, i32_w]
                rfl
              refine pure_ (i := 25) (N := (some 122)) (v := ?_) (a' := ?_) #[true, true, true, true, true, true, true, true, true, true, true, true, true, true, true, true, true, true, true, true, true, true, true, true, true, true] rfl rfl (any_of HT_.out (by kernel_rfl)) (fun _ _ _ h => h) (Or.inl ⟨by rfl, ?_⟩) ?_ ?_
              rotate_left
              · intro w'
                go_simp
                first | done | with_reducible rfl
              rotate_left
              · simp only [Act.put, List.setIfInBounds_toArray, List.set_cons_zero, List.set_cons_succ, i64_w, i32_w]
                rfl
              refine done_ (done_of HT_.out (by kernel_rfl)) ?_
              clear hHeld HT_ HW_ hny1 hi4
              go_wp2_with fail
              go_roundw
              case measure =>
                have hm : l.length - ((j + 1 : Nat) : Int).toNat < l.length - ((j : Nat) : Int).toNat := by
                  rw [Int.toNat_natCast, Int.toNat_natCast]
                  exact Nat.sub_lt_sub_left HLT.out (Nat.lt_succ_self j)
                first | exact hm | (rw [hw2]; exact hm)
              case rel => exact ⟨j + 1, s5, S, HLT.out, by first | rw [hw2] | rfl, HQ5, HH9, HB9, HX9, NX5⟩
          · have n1 : decide (z0 = 1) = false := decide_eq_false h1
            have m1 : (z0 == 1) = false := beq_eq_false_iff_ne.2 h1
            by_cases h2 : z0 = 2
            · subst h2
              clear n1 m1 h1
              go_wp2_with fail
              rw [HW4.out]
              refine (failH HH4.out d.f1 HDR.out.1).mono ?_
              rintro ev w5 ⟨⟨v_, rfl⟩, hh5, hn5⟩
              have HQ5 := Aside0.mk (kb_fail HQ.out d.f1)
              obtain ⟨s5, hs5⟩ : ∃ z, failS s d.f1 = z := ⟨_, rfl⟩
              rw [hs5] at HQ5 hh5
              have HH5 := Aside0.mk hh5
              have HB5 := Aside0.mk (HB4.out.trans (hn5.bel.mono HBS.out))
              obtain ⟨k1_, k2_⟩ := hn5.both HX4.out NX.out
              have HX5 := Aside0.mk k1_
              have NX5 := Aside0.mk k2_
              clear hs5 hh5 hn5 k1_ k2_ HH4 HB4 HX4 NX HH HB HX HCA4 HQ
              go_wp2_with fail
              have hkb := kb_block HQ5.out
              obtain ⟨y, hy⟩ : ∃ y, blockB s5 1 = y := ⟨_, rfl⟩
              rw [hy] at hkb
              refine (blockH HH5.out 1 (by rw [hy]; exact hkb.lens)).mono ?_
              rintro ev w7 ⟨v7, rfl, hv7, hh7, hb7⟩
              rw [hy] at hv7
              obtain ⟨pv, rfl, A7, c7, rfl, hle7, hpg7⟩ := hv7
              obtain ⟨ad7, v7, rfl, -, hx7, hR7⟩ := hpg7 _ _ hkb.pg
              obtain ⟨Ax, cx, rfl, -, hCx⟩ := Kd.R_reads hR7
              have HCx := Aside0.mk hCx
              have HX7c := Aside0.mk hx7
              have HLE7 := Aside0.mk (show 4 ≤ c7 by rw [← hkb.pl]; exact hle7)
              obtain ⟨ny, hny⟩ : ∃ z, y.next = z := ⟨_, rfl⟩
              have HNY := Aside0.mk (show (i : Int) < ny by rw [← hny]; exact hkb.nx)
              rw [hkb.cnt, hkb.pl, hny]
              have HH7 := Aside0.mk hh7
              have HB7 := Aside0.mk (below_step HB5.out hb7)
              have HX7 := Aside0.mk (blk_below HX5.out hb7)
              clear hkb hh7 hb7 hpg7 hx7 hR7 hCx hny hy HH5 HB5 HX5 hle7
              go_upto_region 29 with fail
              obtain ⟨w8, hw8⟩ : ∃ w8, w7.alloc (.cells #[.bool y.bad, .int .i64 ny, .int .i64 0, .slice (some ad7) 4 c7] 36) = w8 := ⟨_, rfl⟩
              obtain ⟨bx, hbx⟩ : ∃ b, w7.heap.size = b := ⟨_, rfl⟩
              have hb8 : Below w7.heap.size w7 w8 := by rw [← hw8]; exact below_alloc (Below.refl _ _) _
              have HY8 : Aside0 (w8.heap[bx]? = some (.cells #[.bool y.bad, .int .i64 ny, .int .i64 0, .slice (some ad7) 4 c7] 36 (0, 0))) := ⟨by rw [← hw8, ← hbx]; exact blk_new w7 _⟩
              have HH8 := Aside0.mk (HH7.out.below hb8)
              have HB8 := Aside0.mk (below_step HB7.out hb8)
              have HX8 := Aside0.mk (blk_below HX7.out hb8)
              have HC8x := Aside0.mk (Kd.C_below HCx.out hb8)
              have HX8c := Aside0.mk (pw_cell_below hb8 HX7c.out)
              have HC8 := Aside0.mk (Kd.C_below HC.out HB8.out)
              rw [hw8, hbx]
              clear hw8 hbx hb8 HH7 HB7 HX7 HCx HX7c
              have HH9 := Aside0.mk (HH8.out.below (below_drew (Below.refl _ _)))
              have HB9 := Aside0.mk (below_step HB8.out (below_drew (Below.refl _ _)))
              have HX9 := Aside0.mk (blk_below HX8.out (below_drew (Below.refl _ _)))
              have HY9 := Aside0.mk (blk_below HY8.out (below_drew (Below.refl _ _)))
              have HC9x := Aside0.mk (Kd.C_drew HC8x.out)
              have HC9 := Aside0.mk (Kd.C_drew HC8.out)
              have HX9c := Aside0.mk (pw_cell_below (below_drew (Below.refl _ _)) HX8c.out)
              have hny1 : decide (ny ≤ (i : Int)) = false := decide_eq_false (by have := HNY.out; omega)
              have hi4 : (i : Int) < 4 := by have := HK.out; omega
              clear HH8 HB8 HX8 HY8 HC8x HC8 HX8c
              refine start_ (n := 26) (S := fun w' => (w'.cell? ⟨bx, 1, none⟩ = some (.int .i64 ny) ∧ w'.cell? ⟨bx, 2, none⟩ = some (.int .i64 0) ∧ w'.cell? ⟨bx, 3, none⟩ = some (.slice (some ad7) 4 c7)) ∧ w'.cell? (ad7.add i) = some (.slice Ax b.length cx) ∧ (convert 22 9 (.slice Ax b.length cx)).run Try.prog w' = .ok (.string (strOfNums b)) w' ∧ (convert 22 9 (.slice A b.length c)).run Try.prog w' = .ok (.string (strOfNums b)) w') (ds := []) #[false, false, false, false, false, false, false, false, false, false, false, false, false, false, false, false, false, false, false, false, false, false, false, false, false, false] (by kernel_rfl) rfl rfl ⟨⟨(blk_cell HY9.out 1).trans rfl, (blk_cell HY9.out 2).trans rfl, (blk_cell HY9.out 3).trans rfl⟩, HX9c.out, conv22 HC9x.out rfl, conv22 HC9.out rfl⟩ (fun hHeld => ?_)
              refine with_tabW reg_Stands_29.tab reg_Stands_29.bits (fun HT_ HW_ => ?_)
              refine pure_ (i := 0) (N := (some 97)) (v := ?_) (a' := ?_) #[true, false, false, false, false, false, false, false, false, false, false, false, false, false, false, false, false, false, false, false, false, false, false, false, false, false] rfl rfl (any_of HT_.out (by kernel_rfl)) (fun _ _ _ h => h) (Or.inl ⟨by rfl, ?_⟩) ?_ ?_
              rotate_left
              · intro w'
                go_simp
                first | done | with_reducible rfl
              rotate_left
              · simp only [Act.put, List.setIfInBounds_toArray, List.set_cons_zero, List.set_cons_succ, i64_w, i32_w]
                rfl
              refine take_ (i := 1) (N := (some 98)) (v := ?_) (a' := ?_) #[true, true, false, false, false, false, false, false, false, false, false, false, false, false, false, false, false, false, false, false, false, false, false, false, false, false] rfl rfl (take_ofW HT_.out HW_.out (by kernel_rfl)) (fun _ _ _ h => h) (Or.inl ⟨by rfl, ?_⟩) hHeld ?_ ?_
              rotate_left
              · rintro w' ⟨⟨s0, s1, s2⟩, s3, s4, s5_⟩
                go_simp
                first | done | with_reducible rfl
              rotate_left
              · simp only [Act.put, List.setIfInBounds_toArray, List.set_cons_zero, List.set_cons_succ, i64_w, i32_w]
                rfl
              refine pure_ (i := 2) (N := (some 99)) (v := ?_) (a' := ?_) #[true, true, true, false, false, false, false, false, false, false, false, false, false, false, false, false, false, false, false, false, false, false, false, false, false, false] rfl rfl (any_of HT_.out (by kernel_rfl)) (fun _ _ _ h => h) (Or.inl ⟨by rfl, ?_⟩) ?_ ?_
              rotate_left
              · intro w'
                go_simp
                first | done | with_reducible rfl
              rotate_left
              · simp only [Act.put, List.setIfInBounds_toArray, List.set_cons_zero, List.set_cons_succ, i64_w, i32_w]
                rfl
              refine pure_ (i := 3) (N := (some 100)) (v := ?_) (a' := ?_) #[true, true, true, true, false, false, false, false, false, false, false, false, false, false, false, false, false, false, false, false, false, false, false, false, false, false] rfl rfl (any_of HT_.out (by kernel_rfl)) (fun _ _ _ h => h) (Or.inl ⟨by rfl, ?_⟩) ?_ ?_
              rotate_left
              · intro w'
                go_simp
                first | done | with_reducible rfl
              rotate_left
              · simp only [Act.put, List.setIfInBounds_toArray, List.set_cons_zero, List.set_cons_succ, i64_w, i32_w]
                rfl
              refine pure_ (i := 4) (N := (some 101)) (v := ?_) (a' := ?_) #[true, true, true, true, true, false, false, false, false, false, false, false, false, false, false, false, false, false, false, false, false, false, false, false, false, false] rfl rfl (any_of HT_.out (by kernel_rfl)) (fun _ _ _ h => h) (Or.inl ⟨by rfl, ?_⟩) ?_ ?_
              rotate_left
              · intro w'
                go_simp
                first | done | with_reducible rfl
              rotate_left
              · simp only [Act.put, List.setIfInBounds_toArray, List.set_cons_zero, List.set_cons_succ, i64_w, i32_w]
                rfl
              refine pure_ (i := 5) (N := (some 102)) (v := ?_) (a' := ?_) #[true, true, true, true, true, true, false, false, false, false, false, false, false, false, false, false, false, false, false, false, false, false, false, false, false, false] rfl rfl (any_of HT_.out (by kernel_rfl)) (fun _ _ _ h => h) (Or.inl ⟨by rfl, ?_⟩) ?_ ?_
              rotate_left
              · intro w'
                go_simp
                first | done | with_reducible rfl
              rotate_left
              · simp only [Act.put, List.setIfInBounds_toArray, List.set_cons_zero, List.set_cons_succ, i64_w, i32_w]
                rfl
              refine take_ (i := 6) (N := (some 103)) (v := ?_) (a' := ?_) #[true, true, true, true, true, true, true, false, false, false, false, false, false, false, false, false, false, false, false, false, false, false, false, false, false, false] rfl rfl (take_ofW HT_.out HW_.out (by kernel_rfl)) (fun _ _ _ h => h) (Or.inl ⟨by rfl, ?_⟩) hHeld ?_ ?_
              rotate_left
              · rintro w' ⟨⟨s0, s1, s2⟩, s3, s4, s5_⟩
                go_simp
                first | done | with_reducible rfl
              rotate_left
              · simp only [Act.put, List.setIfInBounds_toArray, List.set_cons_zero, List.set_cons_succ, i64_w, i32_w]
                rfl
              refine pure_ (i := 7) (N := (some 104)) (v := ?_) (a' := ?_) #[true, true, true, true, true, true, true, true, false, false, false, false, false, false, false, false, false, false, false, false, false, false, false, false, false, false] rfl rfl (any_of HT_.out (by kernel_rfl)) (fun _ _ _ h => h) (Or.inl ⟨by rfl, ?_⟩) ?_ ?_
              rotate_left
              · intro w'
                go_simp
                first | done | with_reducible rfl
              rotate_left
              · simp only [Act.put, List.setIfInBounds_toArray, List.set_cons_zero, List.set_cons_succ, i64_w, i32_w]
                rfl
              refine pure_ (i := 8) (N := (some 105)) (v := ?_) (a' := ?_) #[true, true, true, true, true, true, true, true, true, false, false, false, false, false, false, false, false, false, false, false, false, false, false, false, false, false] rfl rfl (any_of HT_.out (by kernel_rfl)) (fun _ _ _ h => h) (Or.inl ⟨by rfl, ?_⟩) ?_ ?_
              rotate_left
              · intro w'
                go_simp
                first | done | with_reducible rfl
              rotate_left
              · simp only [Act.put, List.setIfInBounds_toArray, List.set_cons_zero, List.set_cons_succ, i64_w, i32_w]
                rfl
              refine take_ (i := 9) (N := (some 106)) (v := ?_) (a' := ?_) #[true, true, true, true, true, true, true, true, true, true, false, false, false, false, false, false, false, false, false, false, false, false, false, false, false, false] rfl rfl (take_ofW HT_.out HW_.out (by kernel_rfl)) (fun _ _ _ h => h) (Or.inl ⟨by rfl, ?_⟩) hHeld ?_ ?_
              rotate_left
              · rintro w' ⟨⟨s0, s1, s2⟩, s3, s4, s5_⟩
                go_simp
                first | done | with_reducible rfl
              rotate_left
              · simp only [Act.put, List.setIfInBounds_toArray, List.set_cons_zero, List.set_cons_succ, i64_w, i32_w]
                rfl
              refine take_ (i := 10) (N := (some 107)) (v := ?_) (a' := ?_) #[true, true, true, true, true, true, true, true, true, true, true, false, false, false, false, false, false, false, false, false, false, false, false, false, false, false] rfl rfl (take_ofW HT_.out HW_.out (by kernel_rfl)) (fun _ _ _ h => h) (Or.inl ⟨by rfl, ?_⟩) hHeld ?_ ?_
              rotate_left
              · rintro w' ⟨⟨s0, s1, s2⟩, s3, s4, s5_⟩
                go_simp
                first | done | with_reducible rfl
              rotate_left
              · simp only [Act.put, List.setIfInBounds_toArray, List.set_cons_zero, List.set_cons_succ, i64_w, i32_w]
                rfl
              refine pure_ (i := 11) (N := (some 108)) (v := ?_) (a' := ?_) #[true, true, true, true, true, true, true, true, true, true, true, true, false, false, false, false, false, false, false, false, false, false, false, false, false, false] rfl rfl (any_of HT_.out (by kernel_rfl)) (fun _ _ _ h => h) (Or.inl ⟨by rfl, ?_⟩) ?_ ?_
              rotate_left
              · intro w'
                go_simp
                first | done | with_reducible rfl
              rotate_left
              · simp only [Act.put, List.setIfInBounds_toArray, List.set_cons_zero, List.set_cons_succ, i64_w, i32_w]
                rfl
              refine take_ (i := 12) (N := (some 109)) (v := ?_) (a' := ?_) #[true, true, true, true, true, true, true, true, true, true, true, true, true, false, false, false, false, false, false, false, false, false, false, false, false, false] rfl rfl (take_ofW HT_.out HW_.out (by kernel_rfl)) (fun _ _ _ h => h) (Or.inl ⟨by rfl, ?_⟩) hHeld ?_ ?_
              rotate_left
              · rintro w' ⟨⟨s0, s1, s2⟩, s3, s4, s5_⟩
                go_simp
                first | done | with_reducible rfl
              rotate_left
              · simp only [Act.put, List.setIfInBounds_toArray, List.set_cons_zero, List.set_cons_succ, i64_w, i32_w]
                rfl
              refine pure_ (i := 13) (N := (some 110)) (v := ?_) (a' := ?_) #[true, true, true, true, true, true, true, true, true, true, true, true, true, true, false, false, false, false, false, false, false, false, false, false, false, false] rfl rfl (any_of HT_.out (by kernel_rfl)) (fun _ _ _ h => h) (Or.inl ⟨by rfl, ?_⟩) ?_ ?_
              rotate_left
              · intro w'
                go_simp
                first | done | with_reducible rfl
              rotate_left
              · simp only [Act.put, List.setIfInBounds_toArray, List.set_cons_zero, List.set_cons_succ, i64_w, i32_w]
                rfl
              refine pure_ (i := 14) (N := (some 111)) (v := ?_) (a' := ?_) #[true, true, true, true, true, true, true, true, true, true, true, true, true, true, true, false, false, false, false, false, false, false, false, false, false, false] rfl rfl (any_of HT_.out (by kernel_rfl)) (fun _ _ _ h => h) (Or.inl ⟨by rfl, ?_⟩) ?_ ?_
              rotate_left
              · intro w'
                go_simp
                first | done | with_reducible rfl
              rotate_left
              · simp only [Act.put, List.setIfInBounds_toArray, List.set_cons_zero, List.set_cons_succ, i64_w, i32_w]
                rfl
              refine pure_ (i := 15) (N := (some 112)) (v := ?_) (a' := ?_) #[true, true, true, true, true, true, true, true, true, true, true, true, true, true, true, true, false, false, false, false, false, false, false, false, false, false] rfl rfl (any_of HT_.out (by kernel_rfl)) (fun _ _ _ h => h) (Or.inl ⟨by rfl, ?_⟩) ?_ ?_
              rotate_left
              · intro w'
                go_simp
                first | done | with_reducible rfl
              rotate_left
              · simp only [Act.put, List.setIfInBounds_toArray, List.set_cons_zero, List.set_cons_succ, i64_w, i32_w]
                rfl
              refine pure_ (i := 16) (N := (some 113)) (v := ?_) (a' := ?_) #[true, true, true, true, true, true, true, true, true, true, true, true, true, true, true, true, true, false, false, false, false, false, false, false, false, false] rfl rfl (any_of HT_.out (by kernel_rfl)) (fun _ _ _ h => h) (Or.inl ⟨by rfl, ?_⟩) ?_ ?_
              rotate_left
              · intro w'
                go_simp
                first | done | with_reducible rfl
              rotate_left
              · simp only [Act.put, List.setIfInBounds_toArray, List.set_cons_zero, List.set_cons_succ, i64_w, i32_w]
                rfl
              refine take_ (i := 17) (N := (some 114)) (v := ?_) (a' := ?_) #[true, true, true, true, true, true, true, true, true, true, true, true, true, true, true, true, true, true, false, false, false, false, false, false, false, false] rfl rfl (take_ofW HT_.out HW_.out (by kernel_rfl)) (fun _ _ _ h => h) (Or.inl ⟨by rfl, ?_⟩) hHeld ?_ ?_
              rotate_left
              · rintro w' ⟨⟨s0, s1, s2⟩, s3, s4, s5_⟩
                go_simp
                first | done | with_reducible rfl
              rotate_left
              · simp only [Act.put, List.setIfInBounds_toArray, List.set_cons_zero, List.set_cons_succ, i64_w, i32_w]
                rfl
              refine pure_ (i := 18) (N := (some 115)) (v := ?_) (a' := ?_) #[true, true, true, true, true, true, true, true, true, true, true, true, true, true, true, true, true, true, true, false, false, false, false, false, false, false] rfl rfl (any_of HT_.out (by kernel_rfl)) (fun _ _ _ h => h) (Or.inl ⟨by rfl, ?_⟩) ?_ ?_
              rotate_left
              · intro w'
                go_simp
                first | done | with_reducible rfl
              rotate_left
              · simp only [Act.put, List.setIfInBounds_toArray, List.set_cons_zero, List.set_cons_succ, i64_w, i32_w]
                rfl
              refine pure_ (i := 19) (N := (some 116)) (v := ?_) (a' := ?_) #[true, true, true, true, true, true, true, true, true, true, true, true, true, true, true, true, true, true, true, true, false, false, false, false, false, false] rfl rfl (any_of HT_.out (by kernel_rfl)) (fun _ _ _ h => h) (Or.inl ⟨by rfl, ?_⟩) ?_ ?_
              rotate_left
              · intro w'
                go_simp
                first | done | with_reducible rfl
              rotate_left
              · simp only [Act.put, List.setIfInBounds_toArray, List.set_cons_zero, List.set_cons_succ, i64_w, i32_w]
                rfl
              refine pure_ (i := 20) (N := (some 117)) (v := ?_) (a' := ?_) #[true, true, true, true, true, true, true, true, true, true, true, true, true, true, true, true, true, true, true, true, true, false, false, false, false, false] rfl rfl (any_of HT_.out (by kernel_rfl)) (fun _ _ _ h => h) (Or.inl ⟨by rfl, ?_⟩) ?_ ?_
              rotate_left
              · intro w'
                go_simp
                first | done | with_reducible rfl
              rotate_left
              · simp only [Act.put, List.setIfInBounds_toArray, List.set_cons_zero, List.set_cons_succ, i64_w, i32_w]
                rfl
              refine pure_ (i := 21) (N := (some 118)) (v := ?_) (a' := ?_) #[true, true, true, true, true, true, true, true, true, true, true, true, true, true, true, true, true, true, true, true, true, true, false, false, false, false] rfl rfl (any_of HT_.out (by kernel_rfl)) (fun _ _ _ h => h) (Or.inl ⟨by rfl, ?_⟩) ?_ ?_
              rotate_left
              · intro w'
                go_simp
                first | done | with_reducible rfl
              rotate_left
              · simp only [Act.put, List.setIfInBounds_toArray, List.set_cons_zero, List.set_cons_succ, i64_w, i32_w]
                rfl
              refine pure_ (i := 22) (N := (some 119)) (v := ?_) (a' := ?_) #[true, true, true, true, true, true, true, true, true, true, true, true, true, true, true, true, true, true, true, true, true, true, true, false, false, false] rfl rfl (any_of HT_.out (by kernel_rfl)) (fun _ _ _ h => h) (Or.inl ⟨by rfl, ?_⟩) ?_ ?_
              rotate_left
              · intro w'
                go_simp
                first | done | with_reducible rfl
              rotate_left
              · simp only [Act.put, List.setIfInBounds_toArray, List.set_cons_zero, List.set_cons_succ, i64_w, i32_w]
                rfl
              refine take_ (i := 23) (N := (some 120)) (v := ?_) (a' := ?_) #[true, true, true, true, true, true, true, true, true, true, true, true, true, true, true, true, true, true, true, true, true, true, true, true, false, false] rfl rfl (take_ofW HT_.out HW_.out (by kernel_rfl)) (fun _ _ _ h => h) (Or.inl ⟨by rfl, ?_⟩) hHeld ?_ ?_
              rotate_left
              · rintro w' ⟨⟨s0, s1, s2⟩, s3, s4, s5_⟩
                go_simp
                first | done | with_reducible rfl
              rotate_left
              · simp only [Act.put, List.setIfInBounds_toArray, List.set_cons_zero, List.set_cons_succ, i64_w, i32_w]
                rfl
              refine pure_ (i := 24) (N := (some 121)) (v := ?_) (a' := ?_) #[true, true, true, true, true, true, true, true, true, true, true, true, true, true, true, true, true, true, true, true, true, true, true, true, true, false] rfl rfl (any_of HT_.out (by kernel_rfl)) (fun _ _ _ h => h) (Or.inl ⟨by rfl, ?_⟩) ?_ ?_
              rotate_left
              · intro w'
                go_simp
                first | done | with_reducible rfl
              rotate_left
              · simp only [Act.put, List.setIfInBounds_toArray, List.set_cons_zero, List.set_cons_succ, i64_w, i32_w]
                rfl
              refine pure_ (i := 25) (N := (some 122)) (v := ?_) (a' := ?_) #[true, true, true, true, true, true, true, true, true, true, true, true, true, true, true, true, true, true, true, true, true, true, true, true, true, true] rfl rfl (any_of HT_.out (by kernel_rfl)) (fun _ _ _ h => h) (Or.inl ⟨by rfl, ?_⟩) ?_ ?_
              rotate_left
              · intro w'
                go_simp
                first | done | with_reducible rfl
              rotate_left
              · simp only [Act.put, List.setIfInBounds_toArray, List.set_cons_zero, List.set_cons_succ, i64_w, i32_w]
                rfl
              refine done_ (done_of HT_.out (by kernel_rfl)) ?_
              clear hHeld HT_ HW_ hny1 hi4
              go_wp2_with fail
              go_roundw
              case measure =>
                have hm : l.length - ((j + 1 : Nat) : Int).toNat < l.length - ((j : Nat) : Int).toNat := by
                  rw [Int.toNat_natCast, Int.toNat_natCast]
                  exact Nat.sub_lt_sub_left HLT.out (Nat.lt_succ_self j)
                first | exact hm | (rw [hw2]; exact hm)
              case rel => exact ⟨j + 1, s5, S, HLT.out, by first | rw [hw2] | rfl, HQ5, HH9, HB9, HX9, NX5⟩
            · have n2 : decide (z0 = 2) = false := decide_eq_false h2
              have m2 : (z0 == 2) = false := beq_eq_false_iff_ne.2 h2
              by_cases h4 : z0 = 4
              · subst h4
                clear n1 m1 h1 n2 m2 h2
                go_wp2_with fail
                rw [HW4.out]
                refine (cutH HH4.out d.f1 d.f2 HDR.out.1 HDR.out.2).mono ?_
                rintro ev w5 ⟨⟨v_, rfl⟩, hh5, hn5⟩
                have HQ5 := Aside0.mk (kb_cut HQ.out d.f1 d.f2)
                obtain ⟨s5, hs5⟩ : ∃ z, cutS s d.f1 d.f2 = z := ⟨_, rfl⟩
                rw [hs5] at HQ5 hh5
                have HH5 := Aside0.mk hh5
                have HB5 := Aside0.mk (HB4.out.trans (hn5.bel.mono HBS.out))
                obtain ⟨k1_, k2_⟩ := hn5.both HX4.out NX.out
                have HX5 := Aside0.mk k1_
                have NX5 := Aside0.mk k2_
                clear hs5 hh5 hn5 k1_ k2_ HH4 HB4 HX4 NX HH HB HX HCA4 HQ
                go_wp2_with fail
                have hkb := kb_block HQ5.out
                obtain ⟨y, hy⟩ : ∃ y, blockB s5 1 = y := ⟨_, rfl⟩
                rw [hy] at hkb
                refine (blockH HH5.out 1 (by rw [hy]; exact hkb.lens)).mono ?_
                rintro ev w7 ⟨v7, rfl, hv7, hh7, hb7⟩
                rw [hy] at hv7
                obtain ⟨pv, rfl, A7, c7, rfl, hle7, hpg7⟩ := hv7
                obtain ⟨ad7, v7, rfl, -, hx7, hR7⟩ := hpg7 _ _ hkb.pg
                obtain ⟨Ax, cx, rfl, -, hCx⟩ := Kd.R_reads hR7
                have HCx := Aside0.mk hCx
                have HX7c := Aside0.mk hx7
                have HLE7 := Aside0.mk (show 4 ≤ c7 by rw [← hkb.pl]; exact hle7)
                obtain ⟨ny, hny⟩ : ∃ z, y.next = z := ⟨_, rfl⟩
                have HNY := Aside0.mk (show (i : Int) < ny by rw [← hny]; exact hkb.nx)
                rw [hkb.cnt, hkb.pl, hny]
                have HH7 := Aside0.mk hh7
                have HB7 := Aside0.mk (below_step HB5.out hb7)
                have HX7 := Aside0.mk (blk_below HX5.out hb7)
                clear hkb hh7 hb7 hpg7 hx7 hR7 hCx hny hy HH5 HB5 HX5 hle7
                go_upto_region 29 with fail
                obtain ⟨w8, hw8⟩ : ∃ w8, w7.alloc (.cells #[.bool y.bad, .int .i64 ny, .int .i64 0, .slice (some ad7) 4 c7] 36) = w8 := ⟨_, rfl⟩
                obtain ⟨bx, hbx⟩ : ∃ b, w7.heap.size = b := ⟨_, rfl⟩
                have hb8 : Below w7.heap.size w7 w8 := by rw [← hw8]; exact below_alloc (Below.refl _ _) _
                have HY8 : Aside0 (w8.heap[bx]? = some (.cells #[.bool y.bad, .int .i64 ny, .int .i64 0, .slice (some ad7) 4 c7] 36 (0, 0))) := ⟨by rw [← hw8, ← hbx]; exact blk_new w7 _⟩
                have HH8 := Aside0.mk (HH7.out.below hb8)
                have HB8 := Aside0.mk (below_step HB7.out hb8)
                have HX8 := Aside0.mk (blk_below HX7.out hb8)
                have HC8x := Aside0.mk (Kd.C_below HCx.out hb8)
                have HX8c := Aside0.mk (pw_cell_below hb8 HX7c.out)
                have HC8 := Aside0.mk (Kd.C_below HC.out HB8.out)
                rw [hw8, hbx]
                clear hw8 hbx hb8 HH7 HB7 HX7 HCx HX7c
                have HH9 := Aside0.mk (HH8.out.below (below_drew (Below.refl _ _)))
                have HB9 := Aside0.mk (below_step HB8.out (below_drew (Below.refl _ _)))
                have HX9 := Aside0.mk (blk_below HX8.out (below_drew (Below.refl _ _)))
                have HY9 := Aside0.mk (blk_below HY8.out (below_drew (Below.refl _ _)))
                have HC9x := Aside0.mk (Kd.C_drew HC8x.out)
                have HC9 := Aside0.mk (Kd.C_drew HC8.out)
                have HX9c := Aside0.mk (pw_cell_below (below_drew (Below.refl _ _)) HX8c.out)
                have hny1 : decide (ny ≤ (i : Int)) = false := decide_eq_false (by have := HNY.out; omega)
                have hi4 : (i : Int) < 4 := by have := HK.out; omega
                clear HH8 HB8 HX8 HY8 HC8x HC8 HX8c
                refine start_ (n := 26) (S := fun w' => (w'.cell? ⟨bx, 1, none⟩ = some (.int .i64 ny) ∧ w'.cell? ⟨bx, 2, none⟩ = some (.int .i64 0) ∧ w'.cell? ⟨bx, 3, none⟩ = some (.slice (some ad7) 4 c7)) ∧ w'.cell? (ad7.add i) = some (.slice Ax b.length cx) ∧ (convert 22 9 (.slice Ax b.length cx)).run Try.prog w' = .ok (.string (strOfNums b)) w' ∧ (convert 22 9 (.slice A b.length c)).run Try.prog w' = .ok (.string (strOfNums b)) w') (ds := []) #[false, false, false, false, false, false, false, false, false, false, false, false, false, false, false, false, false, false, false, false, false, false, false, false, false, false] (by kernel_rfl) rfl rfl ⟨⟨(blk_cell HY9.out 1).trans rfl, (blk_cell HY9.out 2).trans rfl, (blk_cell HY9.out 3).trans rfl⟩, HX9c.out, conv22 HC9x.out rfl, conv22 HC9.out rfl⟩ (fun hHeld => ?_)
                refine with_tabW reg_Stands_29.tab reg_Stands_29.bits (fun HT_ HW_ => ?_)
                refine pure_ (i := 0) (N := (some 97)) (v := ?_) (a' := ?_) #[true, false, false, false, false, false, false, false, false, false, false, false, false, false, false, false, false, false, false, false, false, false, false, false, false, false] rfl rfl (any_of HT_.out (by kernel_rfl)) (fun _ _ _ h => h) (Or.inl ⟨by rfl, ?_⟩) ?_ ?_
                rotate_left
                · intro w'
                  go_simp
                  first | done | with_reducible rfl
                rotate_left
                · simp only [Act.put, List.setIfInBounds_toArray, List.set_cons_zero, List.set_cons_succ, i64_w, i32_w]
                  rfl
                refine take_ (i := 1) (N := (some 98)) (v := ?_) (a' := ?_) #[true, true, false, false, false, false, false, false, false, false, false, false, false, false, false, false, false, false, false, false, false, false, false, false, false, false] rfl rfl (take_ofW HT_.out HW_.out (by kernel_rfl)) (fun _ _ _ h => h) (Or.inl ⟨by rfl, ?_⟩) hHeld ?_ ?_
                rotate_left
                · rintro w' ⟨⟨s0, s1, s2⟩, s3, s4, s5_⟩
                  go_simp
                  first | done | with_reducible rfl
                rotate_left
                · simp only [Act.put, List.setIfInBounds_toArray, List.set_cons_zero, List.set_cons_succ, i64_w, i32_w]
                  rfl
                refine pure_ (i := 2) (N := (some 99)) (v := ?_) (a' := ?_) #[true, true, true, false, false, false, false, false, false, false, false, false, false, false, false, false, false, false, false, false, false, false, false, false, false, false] rfl rfl (any_of HT_.out (by kernel_rfl)) (fun _ _ _ h => h) (Or.inl ⟨by rfl, ?_⟩) ?_ ?_
                rotate_left
                · intro w'
                  go_simp
                  first | done | with_reducible rfl
                rotate_left
                · simp only [Act.put, List.setIfInBounds_toArray, List.set_cons_zero, List.set_cons_succ, i64_w, i32_w]
                  rfl
                refine pure_ (i := 3) (N := (some 100)) (v := ?_) (a' := ?_) #[true, true, true, true, false, false, false, false, false, false, false, false, false, false, false, false, false, false, false, false, false, false, false, false, false, false] rfl rfl (any_of HT_.out (by kernel_rfl)) (fun _ _ _ h => h) (Or.inl ⟨by rfl, ?_⟩) ?_ ?_
                rotate_left
                · intro w'
                  go_simp
                  first | done | with_reducible rfl
                rotate_left
                · simp only [Act.put, List.setIfInBounds_toArray, List.set_cons_zero, List.set_cons_succ, i64_w, i32_w]
                  rfl
                refine pure_ (i := 4) (N := (some 101)) (v := ?_) (a' := ?_) #[true, true, true, true, true, false, false, false, false, false, false, false, false, false, false, false, false, false, false, false, false, false, false, false, false, false] rfl rfl (any_of HT_.out (by kernel_rfl)) (fun _ _ _ h => h) (Or.inl ⟨by rfl, ?_⟩) ?_ ?_
                rotate_left
                · intro w'
                  go_simp
                  first | done | with_reducible rfl
                rotate_left
                · simp only [Act.put, List.setIfInBounds_toArray, List.set_cons_zero, List.set_cons_succ, i64_w, i32_w]
                  rfl
                refine pure_ (i := 5) (N := (some 102)) (v := ?_) (a' := ?_) #[true, true, true, true, true, true, false, false, false, false, false, false, false, false, false, false, false, false, false, false, false, false, false, false, false, false] rfl rfl (any_of HT_.out (by kernel_rfl)) (fun _ _ _ h => h) (Or.inl ⟨by rfl, ?_⟩) ?_ ?_
                rotate_left
                · intro w'
                  go_simp
                  first | done | with_reducible rfl
                rotate_left
                · simp only [Act.put, List.setIfInBounds_toArray, List.set_cons_zero, List.set_cons_succ, i64_w, i32_w]
                  rfl
                refine take_ (i := 6) (N := (some 103)) (v := ?_) (a' := ?_) #[true, true, true, true, true, true, true, false, false, false, false, false, false, false, false, false, false, false, false, false, false, false, false, false, false, false] rfl rfl (take_ofW HT_.out HW_.out (by kernel_rfl)) (fun _ _ _ h => h) (Or.inl ⟨by rfl, ?_⟩) hHeld ?_ ?_
                rotate_left
                · rintro w' ⟨⟨s0, s1, s2⟩, s3, s4, s5_⟩
                  go_simp
                  first | done | with_reducible rfl
                rotate_left
                · simp only [Act.put, List.setIfInBounds_toArray, List.set_cons_zero, List.set_cons_succ, i64_w, i32_w]
                  rfl
                refine pure_ (i := 7) (N := (some 104)) (v := ?_) (a' := ?_) #[true, true, true, true, true, true, true, true, false, false, false, false, false, false, false, false, false, false, false, false, false, false, false, false, false, false] rfl rfl (any_of HT_.out (by kernel_rfl)) (fun _ _ _ h => h) (Or.inl ⟨by rfl, ?_⟩) ?_ ?_
                rotate_left
                · intro w'
                  go_simp
                  first | done | with_reducible rfl
                rotate_left
                · simp only [Act.put, List.setIfInBounds_toArray, List.set_cons_zero, List.set_cons_succ, i64_w, i32_w]
                  rfl
                refine pure_ (i := 8) (N := (some 105)) (v := ?_) (a' := ?_) #[true, true, true, true, true, true, true, true, true, false, false, false, false, false, false, false, false, false, false, false, false, false, false, false, false, false] rfl rfl (any_of HT_.out (by kernel_rfl)) (fun _ _ _ h => h) (Or.inl ⟨by rfl, ?_⟩) ?_ ?_
                rotate_left
                · intro w'
                  go_simp
                  first | done | with_reducible rfl
                rotate_left
                · simp only [Act.put, List.setIfInBounds_toArray, List.set_cons_zero, List.set_cons_succ, i64_w, i32_w]
                  rfl
                refine take_ (i := 9) (N := (some 106)) (v := ?_) (a' := ?_) #[true, true, true, true, true, true, true, true, true, true, false, false, false, false, false, false, false, false, false, false, false, false, false, false, false, false] rfl rfl (take_ofW HT_.out HW_.out (by kernel_rfl)) (fun _ _ _ h => h) (Or.inl ⟨by rfl, ?_⟩) hHeld ?_ ?_
                rotate_left
                · rintro w' ⟨⟨s0, s1, s2⟩, s3, s4, s5_⟩
                  go_simp
                  first | done | with_reducible rfl
                rotate_left
                · simp only [Act.put, List.setIfInBounds_toArray, List.set_cons_zero, List.set_cons_succ, i64_w, i32_w]
                  rfl
                refine take_ (i := 10) (N := (some 107)) (v := ?_) (a' := ?_) #[true, true, true, true, true, true, true, true, true, true, true, false, false, false, false, false, false, false, false, false, false, false, false, false, false, false] rfl rfl (take_ofW HT_.out HW_.out (by kernel_rfl)) (fun _ _ _ h => h) (Or.inl ⟨by rfl, ?_⟩) hHeld ?_ ?_
                rotate_left
                · rintro w' ⟨⟨s0, s1, s2⟩, s3, s4, s5_⟩
                  go_simp
                  first | done | with_reducible rfl
                rotate_left
                · simp only [Act.put, List.setIfInBounds_toArray, List.set_cons_zero, List.set_cons_succ, i64_w, i32_w]
                  rfl
                refine pure_ (i := 11) (N := (some 108)) (v := ?_) (a' := ?_) #[true, true, true, true, true, true, true, true, true, true, true, true, false, false, false, false, false, false, false, false, false, false, false, false, false, false] rfl rfl (any_of HT_.out (by kernel_rfl)) (fun _ _ _ h => h) (Or.inl ⟨by rfl, ?_⟩) ?_ ?_
                rotate_left
                · intro w'
                  go_simp
                  first | done | with_reducible rfl
                rotate_left
                · simp only [Act.put, List.setIfInBounds_toArray, List.set_cons_zero, List.set_cons_succ, i64_w, i32_w]
                  rfl
                refine take_ (i := 12) (N := (some 109)) (v := ?_) (a' := ?_) #[true, true, true, true, true, true, true, true, true, true, true, true, true, false, false, false, false, false, false, false, false, false, false, false, false, false] rfl rfl (take_ofW HT_.out HW_.out (by kernel_rfl)) (fun _ _ _ h => h) (Or.inl ⟨by rfl, ?_⟩) hHeld ?_ ?_
                rotate_left
                · rintro w' ⟨⟨s0, s1, s2⟩, s3, s4, s5_⟩
                  go_simp
                  first | done | with_reducible rfl
                rotate_left
                · simp only [Act.put, List.setIfInBounds_toArray, List.set_cons_zero, List.set_cons_succ, i64_w, i32_w]
                  rfl
                refine pure_ (i := 13) (N := (some 110)) (v := ?_) (a' := ?_) #[true, true, true, true, true, true, true, true, true, true, true, true, true, true, false, false, false, false, false, false, false, false, false, false, false, false] rfl rfl (any_of HT_.out (by kernel_rfl)) (fun _ _ _ h => h) (Or.inl ⟨by rfl, ?_⟩) ?_ ?_
                rotate_left
                · intro w'
                  go_simp
                  first | done | with_reducible rfl
                rotate_left
                · simp only [Act.put, List.setIfInBounds_toArray, List.set_cons_zero, List.set_cons_succ, i64_w, i32_w]
                  rfl
                refine pure_ (i := 14) (N := (some 111)) (v := ?_) (a' := ?_) #[true, true, true, true, true, true, true, true, true, true, true, true, true, true, true, false, false, false, false, false, false, false, false, false, false, false] rfl rfl (any_of HT_.out (by kernel_rfl)) (fun _ _ _ h => h) (Or.inl ⟨by rfl, ?_⟩) ?_ ?_
                rotate_left
                · intro w'
                  go_simp
                  first | done | with_reducible rfl
                rotate_left
                · simp only [Act.put, List.setIfInBounds_toArray, List.set_cons_zero, List.set_cons_succ, i64_w, i32_w]
                  rfl
                refine pure_ (i := 15) (N := (some 112)) (v := ?_) (a' := ?_) #[true, true, true, true, true, true, true, true, true, true, true, true, true, true, true, true, false, false, false, false, false, false, false, false, false, false] rfl rfl (any_of HT_.out (by kernel_rfl)) (fun _ _ _ h => h) (Or.inl ⟨by rfl, ?_⟩) ?_ ?_
                rotate_left
                · intro w'
                  go_simp
                  first | done | with_reducible rfl
                rotate_left
                · simp only [Act.put, List.setIfInBounds_toArray, List.set_cons_zero, List.set_cons_succ, i64_w, i32_w]
                  rfl
                refine pure_ (i := 16) (N := (some 113)) (v := ?_) (a' := ?_) #[true, true, true, true, true, true, true, true, true, true, true, true, true, true, true, true, true, false, false, false, false, false, false, false, false, false] rfl rfl (any_of HT_.out (by kernel_rfl)) (fun _ _ _ h => h) (Or.inl ⟨by rfl, ?_⟩) ?_ ?_
                rotate_left
                · intro w'
                  go_simp
                  first | done | with_reducible rfl
                rotate_left
                · simp only [Act.put, List.setIfInBounds_toArray, List.set_cons_zero, List.set_cons_succ, i64_w, i32_w]
                  rfl
                refine take_ (i := 17) (N := (some 114)) (v := ?_) (a' := ?_) #[true, true, true, true, true, true, true, true, true, true, true, true, true, true, true, true, true, true, false, false, false, false, false, false, false, false] rfl rfl (take_ofW HT_.out HW_.out (by kernel_rfl)) (fun _ _ _ h => h) (Or.inl ⟨by rfl, ?_⟩) hHeld ?_ ?_
                rotate_left
                · rintro w' ⟨⟨s0, s1, s2⟩, s3, s4, s5_⟩
                  go_simp
                  first | done | with_reducible rfl
                rotate_left
                · simp only [Act.put, List.setIfInBounds_toArray, List.set_cons_zero, List.set_cons_succ, i64_w, i32_w]
                  rfl
                refine pure_ (i := 18) (N := (some 115)) (v := ?_) (a' := ?_) #[true, true, true, true, true, true, true, true, true, true, true, true, true, true, true, true, true, true, true, false, false, false, false, false, false, false] rfl rfl (any_of HT_.out (by kernel_rfl)) (fun _ _ _ h => h) (Or.inl ⟨by rfl, ?_⟩) ?_ ?_
                rotate_left
                · intro w'
                  go_simp
                  first | done | with_reducible rfl
                rotate_left
                · simp only [Act.put, List.setIfInBounds_toArray, List.set_cons_zero, List.set_cons_succ, i64_w, i32_w]
                  rfl
                refine pure_ (i := 19) (N := (some 116)) (v := ?_) (a' := ?_) #[true, true, true, true, true, true, true, true, true, true, true, true, true, true, true, true, true, true, true, true, false, false, false, false, false, false] rfl rfl (any_of HT_.out (by kernel_rfl)) (fun _ _ _ h => h) (Or.inl ⟨by rfl, ?_⟩) ?_ ?_
                rotate_left
                · intro w'
                  go_simp
                  first | done | with_reducible rfl
                rotate_left
                · simp only [Act.put, List.setIfInBounds_toArray, List.set_cons_zero, List.set_cons_succ, i64_w, i32_w]
                  rfl
                refine pure_ (i := 20) (N := (some 117)) (v := ?_) (a' := ?_) #[true, true, true, true, true, true, true, true, true, true, true, true, true, true, true, true, true, true, true, true, true, false, false, false, false, false] rfl rfl (any_of HT_.out (by kernel_rfl)) (fun _ _ _ h => h) (Or.inl ⟨by rfl, ?_⟩) ?_ ?_
                rotate_left
                · intro w'
                  go_simp
                  first | done | with_reducible rfl
                rotate_left
                · simp only [Act.put, List.setIfInBounds_toArray, List.set_cons_zero, List.set_cons_succ, i64_w, i32_w]
                  rfl
                refine pure_ (i := 21) (N := (some 118)) (v := ?_) (a' := ?_) #[true, true, true, true, true, true, true, true, true, true, true, true, true, true, true, true, true, true, true, true, true, true, false, false, false, false] rfl rfl (any_of HT_.out (by kernel_rfl)) (fun _ _ _ h => h) (Or.inl ⟨by rfl, ?_⟩) ?_ ?_
                rotate_left
                · intro w'
                  go_simp
                  first | done | with_reducible rfl
                rotate_left
                · simp only [Act.put, List.setIfInBounds_toArray, List.set_cons_zero, List.set_cons_succ, i64_w, i32_w]
                  rfl
                refine pure_ (i := 22) (N := (some 119)) (v := ?_) (a' := ?_) #[true, true, true, true, true, true, true, true, true, true, true, true, true, true, true, true, true, true, true, true, true, true, true, false, false, false] rfl rfl (any_of HT_.out (by kernel_rfl)) (fun _ _ _ h => h) (Or.inl ⟨by rfl, ?_⟩) ?_ ?_
                rotate_left
                · intro w'
                  go_simp
                  first | done | with_reducible rfl
                rotate_left
                · simp only [Act.put, List.setIfInBounds_toArray, List.set_cons_zero, List.set_cons_succ, i64_w, i32_w]
                  rfl
                refine take_ (i := 23) (N := (some 120)) (v := ?_) (a' := ?_) #[true, true, true, true, true, true, true, true, true, true, true, true, true, true, true, true, true, true, true, true, true, true, true, true, false, false] rfl rfl (take_ofW HT_.out HW_.out (by kernel_rfl)) (fun _ _ _ h => h) (Or.inl ⟨by rfl, ?_⟩) hHeld ?_ ?_
                rotate_left
                · rintro w' ⟨⟨s0, s1, s2⟩, s3, s4, s5_⟩
                  go_simp
                  first | done | with_reducible rfl
                rotate_left
                · simp only [Act.put, List.setIfInBounds_toArray, List.set_cons_zero, List.set_cons_succ, i64_w, i32_w]
                  rfl
                refine pure_ (i := 24) (N := (some 121)) (v := ?_) (a' := ?_) #[true, true, true, true, true, true, true, true, true, true, true, true, true, true, true, true, true, true, true, true, true, true, true, true, true, false] rfl rfl (any_of HT_.out (by kernel_rfl)) (fun _ _ _ h => h) (Or.inl ⟨by rfl, ?_⟩) ?_ ?_
                rotate_left
                · intro w'
                  go_simp
                  first | done | with_reducible rfl
                rotate_left
                · simp only [Act.put, List.setIfInBounds_toArray, List.set_cons_zero, List.set_cons_succ, i64_w, i32_w]
                  rfl
                refine pure_ (i := 25) (N := (some 122)) (v := ?_) (a' := ?_) #[true, true, true, true, true, true, true, true, true, true, true, true, true, true, true, true, true, true, true, true, true, true, true, true, true, true] rfl rfl (any_of HT_.out (by kernel_rfl)) (fun _ _ _ h => h) (Or.inl ⟨by rfl, ?_⟩) ?_ ?_
                rotate_left
                · intro w'
                  go_simp
                  first | done | with_reducible rfl
                rotate_left
                · simp only [Act.put, List.setIfInBounds_toArray, List.set_cons_zero, List.set_cons_succ, i64_w, i32_w]
                  rfl
                refine done_ (done_of HT_.out (by kernel_rfl)) ?_
                clear hHeld HT_ HW_ hny1 hi4
                go_wp2_with fail
                go_roundw
                case measure =>
                  have hm : l.length - ((j + 1 : Nat) : Int).toNat < l.length - ((j : Nat) : Int).toNat := by
                    rw [Int.toNat_natCast, Int.toNat_natCast]
                    exact Nat.sub_lt_sub_left HLT.out (Nat.lt_succ_self j)
                  first | exact hm | (rw [hw2]; exact hm)
                case rel => exact ⟨j + 1, s5, S, HLT.out, by first | rw [hw2] | rfl, HQ5, HH9, HB9, HX9, NX5⟩
              · have n4 : decide (z0 = 4) = false := decide_eq_false h4
                have m4 : (z0 == 4) = false := beq_eq_false_iff_ne.2 h4
                by_cases h5 : z0 = 5
                · subst h5
                  clear n1 m1 h1 n2 m2 h2 n4 m4 h4
                  go_wp2_with fail
                  rw [HW4.out]
                  refine (powerH HH4.out).mono ?_
                  rintro ev w5 ⟨⟨v_, rfl⟩, hh5, hn5⟩
                  have HQ5 := Aside0.mk (kb_power HQ.out)
                  obtain ⟨s5, hs5⟩ : ∃ z, powerS s = z := ⟨_, rfl⟩
                  rw [hs5] at HQ5 hh5
                  have HH5 := Aside0.mk hh5
                  have HB5 := Aside0.mk (HB4.out.trans (hn5.bel.mono HBS.out))
                  obtain ⟨k1_, k2_⟩ := hn5.both HX4.out NX.out
                  have HX5 := Aside0.mk k1_
                  have NX5 := Aside0.mk k2_
                  clear hs5 hh5 hn5 k1_ k2_ HH4 HB4 HX4 NX HH HB HX HCA4 HQ
                  go_wp2_with fail
                  have hkb := kb_block HQ5.out
                  obtain ⟨y, hy⟩ : ∃ y, blockB s5 1 = y := ⟨_, rfl⟩
                  rw [hy] at hkb
                  refine (blockH HH5.out 1 (by rw [hy]; exact hkb.lens)).mono ?_
                  rintro ev w7 ⟨v7, rfl, hv7, hh7, hb7⟩
                  rw [hy] at hv7
                  obtain ⟨pv, rfl, A7, c7, rfl, hle7, hpg7⟩ := hv7
                  obtain ⟨ad7, v7, rfl, -, hx7, hR7⟩ := hpg7 _ _ hkb.pg
                  obtain ⟨Ax, cx, rfl, -, hCx⟩ := Kd.R_reads hR7
                  have HCx := Aside0.mk hCx
                  have HX7c := Aside0.mk hx7
                  have HLE7 := Aside0.mk (show 4 ≤ c7 by rw [← hkb.pl]; exact hle7)
                  obtain ⟨ny, hny⟩ : ∃ z, y.next = z := ⟨_, rfl⟩
                  have HNY := Aside0.mk (show (i : Int) < ny by rw [← hny]; exact hkb.nx)
                  rw [hkb.cnt, hkb.pl, hny]
                  have HH7 := Aside0.mk hh7
                  have HB7 := Aside0.mk (below_step HB5.out hb7)
                  have HX7 := Aside0.mk (blk_below HX5.out hb7)
                  clear hkb hh7 hb7 hpg7 hx7 hR7 hCx hny hy HH5 HB5 HX5 hle7
                  go_upto_region 29 with fail
                  obtain ⟨w8, hw8⟩ : ∃ w8, w7.alloc (.cells #[.bool y.bad, .int .i64 ny, .int .i64 0, .slice (some ad7) 4 c7] 36) = w8 := ⟨_, rfl⟩
                  obtain ⟨bx, hbx⟩ : ∃ b, w7.heap.size = b := ⟨_, rfl⟩
                  have hb8 : Below w7.heap.size w7 w8 := by rw [← hw8]; exact below_alloc (Below.refl _ _) _
                  have HY8 : Aside0 (w8.heap[bx]? = some (.cells #[.bool y.bad, .int .i64 ny, .int .i64 0, .slice (some ad7) 4 c7] 36 (0, 0))) := ⟨by rw [← hw8, ← hbx]; exact blk_new w7 _⟩
                  have HH8 := Aside0.mk (HH7.out.below hb8)
                  have HB8 := Aside0.mk (below_step HB7.out hb8)
                  have HX8 := Aside0.mk (blk_below HX7.out hb8)
                  have HC8x := Aside0.mk (Kd.C_below HCx.out hb8)
                  have HX8c := Aside0.mk (pw_cell_below hb8 HX7c.out)
                  have HC8 := Aside0.mk (Kd.C_below HC.out HB8.out)
                  rw [hw8, hbx]
                  clear hw8 hbx hb8 HH7 HB7 HX7 HCx HX7c
                  have HH9 := Aside0.mk (HH8.out.below (below_drew (Below.refl _ _)))
                  have HB9 := Aside0.mk (below_step HB8.out (below_drew (Below.refl _ _)))
                  have HX9 := Aside0.mk (blk_below HX8.out (below_drew (Below.refl _ _)))
                  have HY9 := Aside0.mk (blk_below HY8.out (below_drew (Below.refl _ _)))
                  have HC9x := Aside0.mk (Kd.C_drew HC8x.out)
                  have HC9 := Aside0.mk (Kd.C_drew HC8.out)
                  have HX9c := Aside0.mk (pw_cell_below (below_drew (Below.refl _ _)) HX8c.out)
                  have hny1 : decide (ny ≤ (i : Int)) = false := decide_eq_false (by have := HNY.out; omega)
                  have hi4 : (i : Int) < 4 := by have := HK.out; omega
                  clear HH8 HB8 HX8 HY8 HC8x HC8 HX8c
                  refine start_ (n := 26) (S := fun w' => (w'.cell? ⟨bx, 1, none⟩ = some (.int .i64 ny) ∧ w'.cell? ⟨bx, 2, none⟩ = some (.int .i64 0) ∧ w'.cell? ⟨bx, 3, none⟩ = some (.slice (some ad7) 4 c7)) ∧ w'.cell? (ad7.add i) = some (.slice Ax b.length cx) ∧ (convert 22 9 (.slice Ax b.length cx)).run Try.prog w' = .ok (.string (strOfNums b)) w' ∧ (convert 22 9 (.slice A b.length c)).run Try.prog w' = .ok (.string (strOfNums b)) w') (ds := []) #[false, false, false, false, false, false, false, false, false, false, false, false, false, false, false, false, false, false, false, false, false, false, false, false, false, false] (by kernel_rfl) rfl rfl ⟨⟨(blk_cell HY9.out 1).trans rfl, (blk_cell HY9.out 2).trans rfl, (blk_cell HY9.out 3).trans rfl⟩, HX9c.out, conv22 HC9x.out rfl, conv22 HC9.out rfl⟩ (fun hHeld => ?_)
                  refine with_tabW reg_Stands_29.tab reg_Stands_29.bits (fun HT_ HW_ => ?_)
                  refine pure_ (i := 0) (N := (some 97)) (v := ?_) (a' := ?_) #[true, false, false, false, false, false, false, false, false, false, false, false, false, false, false, false, false, false, false, false, false, false, false, false, false, false] rfl rfl (any_of HT_.out (by kernel_rfl)) (fun _ _ _ h => h) (Or.inl ⟨by rfl, ?_⟩) ?_ ?_
                  rotate_left
                  · intro w'
                    go_simp
                    first | done | with_reducible rfl
                  rotate_left
                  · simp only [Act.put, List.setIfInBounds_toArray, List.set_cons_zero, List.set_cons_succ, i64_w, i32_w]
                    rfl
                  refine take_ (i := 1) (N := (some 98)) (v := ?_) (a' := ?_) #[true, true, false, false, false, false, false, false, false, false, false, false, false, false, false, false, false, false, false, false, false, false, false, false, false, false] rfl rfl (take_ofW HT_.out HW_.out (by kernel_rfl)) (fun _ _ _ h => h) (Or.inl ⟨by rfl, ?_⟩) hHeld ?_ ?_
                  rotate_left
                  · rintro w' ⟨⟨s0, s1, s2⟩, s3, s4, s5_⟩
                    go_simp
                    first | done | with_reducible rfl
                  rotate_left
                  · simp only [Act.put, List.setIfInBounds_toArray, List.set_cons_zero, List.set_cons_succ, i64_w, i32_w]
                    rfl
                  refine pure_ (i := 2) (N := (some 99)) (v := ?_) (a' := ?_) #[true, true, true, false, false, false, false, false, false, false, false, false, false, false, false, false, false, false, false, false, false, false, false, false, false, false] rfl rfl (any_of HT_.out (by kernel_rfl)) (fun _ _ _ h => h) (Or.inl ⟨by rfl, ?_⟩) ?_ ?_
                  rotate_left
                  · intro w'
                    go_simp
                    first | done | with_reducible rfl
                  rotate_left
                  · simp only [Act.put, List.setIfInBounds_toArray, List.set_cons_zero, List.set_cons_succ, i64_w, i32_w]
                    rfl
                  refine pure_ (i := 3) (N := (some 100)) (v := ?_) (a' := ?_) #[true, true, true, true, false, false, false, false, false, false, false, false, false, false, false, false, false, false, false, false, false, false, false, false, false, false] rfl rfl (any_of HT_.out (by kernel_rfl)) (fun _ _ _ h => h) (Or.inl ⟨by rfl, ?_⟩) ?_ ?_
                  rotate_left
                  · intro w'
                    go_simp
                    first | done | with_reducible rfl
                  rotate_left
                  · simp only [Act.put, List.setIfInBounds_toArray, List.set_cons_zero, List.set_cons_succ, i64_w, i32_w]
                    rfl
                  refine pure_ (i := 4) (N := (some 101)) (v := ?_) (a' := ?_) #[true, true, true, true, true, false, false, false, false, false, false, false, false, false, false, false, false, false, false, false, false, false, false, false, false, false] rfl rfl (any_of HT_.out (by kernel_rfl)) (fun _ _ _ h => h) (Or.inl ⟨by rfl, ?_⟩) ?_ ?_
                  rotate_left
                  · intro w'
                    go_simp
                    first | done | with_reducible rfl
                  rotate_left
                  · simp only [Act.put, List.setIfInBounds_toArray, List.set_cons_zero, List.set_cons_succ, i64_w, i32_w]
                    rfl
                  refine pure_ (i := 5) (N := (some 102)) (v := ?_) (a' := ?_) #[true, true, true, true, true, true, false, false, false, false, false, false, false, false, false, false, false, false, false, false, false, false, false, false, false, false] rfl rfl (any_of HT_.out (by kernel_rfl)) (fun _ _ _ h => h) (Or.inl ⟨by rfl, ?_⟩) ?_ ?_
                  rotate_left
                  · intro w'
                    go_simp
                    first | done | with_reducible rfl
                  rotate_left
                  · simp only [Act.put, List.setIfInBounds_toArray, List.set_cons_zero, List.set_cons_succ, i64_w, i32_w]
                    rfl
                  refine take_ (i := 6) (N := (some 103)) (v := ?_) (a' := ?_) #[true, true, true, true, true, true, true, false, false, false, false, false, false, false, false, false, false, false, false, false, false, false, false, false, false, false] rfl rfl (take_ofW HT_.out HW_.out (by kernel_rfl)) (fun _ _ _ h => h) (Or.inl ⟨by rfl, ?_⟩) hHeld ?_ ?_
                  rotate_left
                  · rintro w' ⟨⟨s0, s1, s2⟩, s3, s4, s5_⟩
                    go_simp
                    first | done | with_reducible rfl
                  rotate_left
                  · simp only [Act.put, List.setIfInBounds_toArray, List.set_cons_zero, List.set_cons_succ, i64_w, i32_w]
                    rfl
                  refine pure_ (i := 7) (N := (some 104)) (v := ?_) (a' := ?_) #[true, true, true, true, true, true, true, true, false, false, false, false, false, false, false, false, false, false, false, false, false, false, false, false, false, false] rfl rfl (any_of HT_.out (by kernel_rfl)) (fun _ _ _ h => h) (Or.inl ⟨by rfl, ?_⟩) ?_ ?_
                  rotate_left
                  · intro w'
                    go_simp
                    first | done | with_reducible rfl
                  rotate_left
                  · simp only [Act.put, List.setIfInBounds_toArray, List.set_cons_zero, List.set_cons_succ, i64_w, i32_w]
                    rfl
                  refine pure_ (i := 8) (N := (some 105)) (v := ?_) (a' := ?_) #[true, true, true, true, true, true, true, true, true, false, false, false, false, false, false, false, false, false, false, false, false, false, false, false, false, false] rfl rfl (any_of HT_.out (by kernel_rfl)) (fun _ _ _ h => h) (Or.inl ⟨by rfl, ?_⟩) ?_ ?_
                  rotate_left
                  · intro w'
                    go_simp
                    first | done | with_reducible rfl
                  rotate_left
                  · simp only [Act.put, List.setIfInBounds_toArray, List.set_cons_zero, List.set_cons_succ, i64_w, i32_w]
                    rfl
                  refine take_ (i := 9) (N := (some 106)) (v := ?_) (a' := ?_) #[true, true, true, true, true, true, true, true, true, true, false, false, false, false, false, false, false, false, false, false, false, false, false, false, false, false] rfl rfl (take_ofW HT_.out HW_.out (by kernel_rfl)) (fun _ _ _ h => h) (Or.inl ⟨by rfl, ?_⟩) hHeld ?_ ?_
                  rotate_left
                  · rintro w' ⟨⟨s0, s1, s2⟩, s3, s4, s5_⟩
                    go_simp
                    first | done | with_reducible rfl
                  rotate_left
                  · simp only [Act.put, List.setIfInBounds_toArray, List.set_cons_zero, List.set_cons_succ, i64_w, i32_w]
                    rfl
                  refine take_ (i := 10) (N := (some 107)) (v := ?_) (a' := ?_) #[true, true, true, true, true, true, true, true, true, true, true, false, false, false, false, false, false, false, false, false, false, false, false, false, false, false] rfl rfl (take_ofW HT_.out HW_.out (by kernel_rfl)) (fun _ _ _ h => h) (Or.inl ⟨by rfl, ?_⟩) hHeld ?_ ?_
                  rotate_left
                  · rintro w' ⟨⟨s0, s1, s2⟩, s3, s4, s5_⟩
                    go_simp
                    first | done | with_reducible rfl
                  rotate_left
                  · simp only [Act.put, List.setIfInBounds_toArray, List.set_cons_zero, List.set_cons_succ, i64_w, i32_w]
                    rfl
                  refine pure_ (i := 11) (N := (some 108)) (v := ?_) (a' := ?_) #[true, true, true, true, true, true, true, true, true, true, true, true, false, false, false, false, false, false, false, false, false, false, false, false, false, false] rfl rfl (any_of HT_.out (by kernel_rfl)) (fun _ _ _ h => h) (Or.inl ⟨by rfl, ?_⟩) ?_ ?_
                  rotate_left
                  · intro w'
                    go_simp
                    first | done | with_reducible rfl
                  rotate_left
                  · simp only [Act.put, List.setIfInBounds_toArray, List.set_cons_zero, List.set_cons_succ, i64_w, i32_w]
                    rfl
                  refine take_ (i := 12) (N := (some 109)) (v := ?_) (a' := ?_) #[true, true, true, true, true, true, true, true, true, true, true, true, true, false, false, false, false, false, false, false, false, false, false, false, false, false] rfl rfl (take_ofW HT_.out HW_.out (by kernel_rfl)) (fun _ _ _ h => h) (Or.inl ⟨by rfl, ?_⟩) hHeld ?_ ?_
                  rotate_left
                  · rintro w' ⟨⟨s0, s1, s2⟩, s3, s4, s5_⟩
                    go_simp
                    first | done | with_reducible rfl
                  rotate_left
                  · simp only [Act.put, List.setIfInBounds_toArray, List.set_cons_zero, List.set_cons_succ, i64_w, i32_w]
                    rfl
                  refine pure_ (i := 13) (N := (some 110)) (v := ?_) (a' := ?_) #[true, true, true, true, true, true, true, true, true, true, true, true, true, true, false, false, false, false, false, false, false, false, false, false, false, false] rfl rfl (any_of HT_.out (by kernel_rfl)) (fun _ _ _ h => h) (Or.inl ⟨by rfl, ?_⟩) ?_ ?_
                  rotate_left
                  · intro w'
                    go_simp
                    first | done | with_reducible rfl
                  rotate_left
                  · simp only [Act.put, List.setIfInBounds_toArray, List.set_cons_zero, List.set_cons_succ, i64_w, i32_w]
                    rfl
                  refine pure_ (i := 14) (N := (some 111)) (v := ?_) (a' := ?_) #[true, true, true, true, true, true, true, true, true, true, true, true, true, true, true, false, false, false, false, false, false, false, false, false, false, false] rfl rfl (any_of HT_.out (by kernel_rfl)) (fun _ _ _ h => h) (Or.inl ⟨by rfl, ?_⟩) ?_ ?_
                  rotate_left
                  · intro w'
                    go_simp
                    first | done | with_reducible rfl
                  rotate_left
                  · simp only [Act.put, List.setIfInBounds_toArray, List.set_cons_zero, List.set_cons_succ, i64_w, i32_w]
                    rfl
                  refine pure_ (i := 15) (N := (some 112)) (v := ?_) (a' := ?_) #[true, true, true, true, true, true, true, true, true, true, true, true, true, true, true, true, false, false, false, false, false, false, false, false, false, false] rfl rfl (any_of HT_.out (by kernel_rfl)) (fun _ _ _ h => h) (Or.inl ⟨by rfl, ?_⟩) ?_ ?_
                  rotate_left
                  · intro w'
                    go_simp
                    first | done | with_reducible rfl
                  rotate_left
                  · simp only [Act.put, List.setIfInBounds_toArray, List.set_cons_zero, List.set_cons_succ, i64_w, i32_w]
                    rfl
                  refine pure_ (i := 16) (N := (some 113)) (v := ?_) (a' := ?_) #[true, true, true, true, true, true, true, true, true, true, true, true, true, true, true, true, true, false, false, false, false, false, false, false, false, false] rfl rfl (any_of HT_.out (by kernel_rfl)) (fun _ _ _ h => h) (Or.inl ⟨by rfl, ?_⟩) ?_ ?_
                  rotate_left
                  · intro w'
                    go_simp
                    first | done | with_reducible rfl
                  rotate_left
                  · simp only [Act.put, List.setIfInBounds_toArray, List.set_cons_zero, List.set_cons_succ, i64_w, i32_w]
                    rfl
                  refine take_ (i := 17) (N := (some 114)) (v := ?_) (a' := ?_) #[true, true, true, true, true, true, true, true, true, true, true, true, true, true, true, true, true, true, false, false, false, false, false, false, false, false] rfl rfl (take_ofW HT_.out HW_.out (by kernel_rfl)) (fun _ _ _ h => h) (Or.inl ⟨by rfl, ?_⟩) hHeld ?_ ?_
                  rotate_left
                  · rintro w' ⟨⟨s0, s1, s2⟩, s3, s4, s5_⟩
                    go_simp
                    first | done | with_reducible rfl
                  rotate_left
                  · simp only [Act.put, List.setIfInBounds_toArray, List.set_cons_zero, List.set_cons_succ, i64_w, i32_w]
                    rfl
                  refine pure_ (i := 18) (N := (some 115)) (v := ?_) (a' := ?_) #[true, true, true, true, true, true, true, true, true, true, true, true, true, true, true, true, true, true, true, false, false, false, false, false, false, false] rfl rfl (any_of HT_.out (by kernel_rfl)) (fun _ _ _ h => h) (Or.inl ⟨by rfl, ?_⟩) ?_ ?_
                  rotate_left
                  · intro w'
                    go_simp
                    first | done | with_reducible rfl
                  rotate_left
                  · simp only [Act.put, List.setIfInBounds_toArray, List.set_cons_zero, List.set_cons_succ, i64_w, i32_w]
                    rfl
                  refine pure_ (i := 19) (N := (some 116)) (v := ?_) (a' := ?_) #[true, true, true, true, true, true, true, true, true, true, true, true, true, true, true, true, true, true, true, true, false, false, false, false, false, false] rfl rfl (any_of HT_.out (by kernel_rfl)) (fun _ _ _ h => h) (Or.inl ⟨by rfl, ?_⟩) ?_ ?_
                  rotate_left
                  · intro w'
                    go_simp
                    first | done | with_reducible rfl
                  rotate_left
                  · simp only [Act.put, List.setIfInBounds_toArray, List.set_cons_zero, List.set_cons_succ, i64_w, i32_w]
                    rfl
                  refine pure_ (i := 20) (N := (some 117)) (v := ?_) (a' := ?_) #[true, true, true, true, true, true, true, true, true, true, true, true, true, true, true, true, true, true, true, true, true, false, false, false, false, false] rfl rfl (any_of HT_.out (by kernel_rfl)) (fun _ _ _ h => h) (Or.inl ⟨by rfl, ?_⟩) ?_ ?_
                  rotate_left
                  · intro w'
                    go_simp
                    first | done | with_reducible rfl
                  rotate_left
                  · simp only [Act.put, List.setIfInBounds_toArray, List.set_cons_zero, List.set_cons_succ, i64_w, i32_w]
                    rfl
                  refine pure_ (i := 21) (N := (some 118)) (v := ?_) (a' := ?_) #[true, true, true, true, true, true, true, true, true, true, true, true, true, true, true, true, true, true, true, true, true, true, false, false, false, false] rfl rfl (any_of HT_.out (by kernel_rfl)) (fun _ _ _ h => h) (Or.inl ⟨by rfl, ?_⟩) ?_ ?_
                  rotate_left
                  · intro w'
                    go_simp
                    first | done | with_reducible rfl
                  rotate_left
                  · simp only [Act.put, List.setIfInBounds_toArray, List.set_cons_zero, List.set_cons_succ, i64_w, i32_w]
                    rfl
                  refine pure_ (i := 22) (N := (some 119)) (v := ?_) (a' := ?_) #[true, true, true, true, true, true, true, true, true, true, true, true, true, true, true, true, true, true, true, true, true, true, true, false, false, false] rfl rfl (any_of HT_.out (by kernel_rfl)) (fun _ _ _ h => h) (Or.inl ⟨by rfl, ?_⟩) ?_ ?_
                  rotate_left
                  · intro w'
                    go_simp
                    first | done | with_reducible rfl
                  rotate_left
                  · simp only [Act.put, List.setIfInBounds_toArray, List.set_cons_zero, List.set_cons_succ, i64_w, i32_w]
                    rfl
                  refine take_ (i := 23) (N := (some 120)) (v := ?_) (a' := ?_) #[true, true, true, true, true, true, true, true, true, true, true, true, true, true, true, true, true, true, true, true, true, true, true, true, false, false] rfl rfl (take_ofW HT_.out HW_.out (by kernel_rfl)) (fun _ _ _ h => h) (Or.inl ⟨by rfl, ?_⟩) hHeld ?_ ?_
                  rotate_left
                  · rintro w' ⟨⟨s0, s1, s2⟩, s3, s4, s5_⟩
                    go_simp
                    first | done | with_reducible rfl
                  rotate_left
                  · simp only [Act.put, List.setIfInBounds_toArray, List.set_cons_zero, List.set_cons_succ, i64_w, i32_w]
                    rfl
                  refine pure_ (i := 24) (N := (some 121)) (v := ?_) (a' := ?_) #[true, true, true, true, true, true, true, true, true, true, true, true, true, true, true, true, true, true, true, true, true, true, true, true, true, false] rfl rfl (any_of HT_.out (by kernel_rfl)) (fun _ _ _ h => h) (Or.inl ⟨by rfl, ?_⟩) ?_ ?_
                  rotate_left
                  · intro w'
                    go_simp
                    first | done | with_reducible rfl
                  rotate_left
                  · simp only [Act.put, List.setIfInBounds_toArray, List.set_cons_zero, List.set_cons_succ, i64_w, i32_w]
                    rfl
                  refine pure_ (i := 25) (N := (some 122)) (v := ?_) (a' := ?_) #[true, true, true, true, true, true, true, true, true, true, true, true, true, true, true, true, true, true, true, true, true, true, true, true, true, true] rfl rfl (any_of HT_.out (by kernel_rfl)) (fun _ _ _ h => h) (Or.inl ⟨by rfl, ?_⟩) ?_ ?_
                  rotate_left
                  · intro w'
                    go_simp
                    first | done | with_reducible rfl
                  rotate_left
                  · simp only [Act.put, List.setIfInBounds_toArray, List.set_cons_zero, List.set_cons_succ, i64_w, i32_w]
                    rfl
                  refine done_ (done_of HT_.out (by kernel_rfl)) ?_
                  clear hHeld HT_ HW_ hny1 hi4
                  go_wp2_with fail
                  go_roundw
                  case measure =>
                    have hm : l.length - ((j + 1 : Nat) : Int).toNat < l.length - ((j : Nat) : Int).toNat := by
                      rw [Int.toNat_natCast, Int.toNat_natCast]
                      exact Nat.sub_lt_sub_left HLT.out (Nat.lt_succ_self j)
                    first | exact hm | (rw [hw2]; exact hm)
                  case rel => exact ⟨j + 1, s5, S, HLT.out, by first | rw [hw2] | rfl, HQ5, HH9, HB9, HX9, NX5⟩
                · have n5 : decide (z0 = 5) = false := decide_eq_false h5
                  have m5 : (z0 == 5) = false := beq_eq_false_iff_ne.2 h5
                  clear h1 h2 h4 h5
                  go_wp2_with fail
                  rw [HW4.out]
                  refine (programHE HH4.out d.f3.f0 d.f3.f1 A4 c4 d.f4 (Kd.C_below HCA4.out (Below.refl _ _)) HL4.out (fun h1 ad hA => argOkB HBS.out HH4.out HDC.out HB4.out hA h1)).mono ?_
                  rintro ev w5 ⟨rfl, S5, hh5, hn5⟩
                  have HQ5 := Aside0.mk (kb_prog HQ.out d.f3.f0 d.f3.f1 d.f4 (by have := HD4.out; omega))
                  obtain ⟨s5, hs5⟩ : ∃ z, (progS s d.f3.f0 d.f3.f1 d.f4).1 = z := ⟨_, rfl⟩
                  rw [hs5] at HQ5 hh5
                  have HH5 := Aside0.mk hh5
                  have HB5 := Aside0.mk (HB4.out.trans (hn5.bel.mono HBS.out))
                  obtain ⟨k1_, k2_⟩ := hn5.both HX4.out NX.out
                  have HX5 := Aside0.mk k1_
                  have NX5 := Aside0.mk k2_
                  clear hs5 hh5 hn5 k1_ k2_ HH4 HB4 HX4 NX HH HB HX HCA4 HQ
                  go_wp2_with fail
                  have hkb := kb_block HQ5.out
                  obtain ⟨y, hy⟩ : ∃ y, blockB s5 1 = y := ⟨_, rfl⟩
                  rw [hy] at hkb
                  refine (blockH HH5.out 1 (by rw [hy]; exact hkb.lens)).mono ?_
                  rintro ev w7 ⟨v7, rfl, hv7, hh7, hb7⟩
                  rw [hy] at hv7
                  obtain ⟨pv, rfl, A7, c7, rfl, hle7, hpg7⟩ := hv7
                  obtain ⟨ad7, v7, rfl, -, hx7, hR7⟩ := hpg7 _ _ hkb.pg
                  obtain ⟨Ax, cx, rfl, -, hCx⟩ := Kd.R_reads hR7
                  have HCx := Aside0.mk hCx
                  have HX7c := Aside0.mk hx7
                  have HLE7 := Aside0.mk (show 4 ≤ c7 by rw [← hkb.pl]; exact hle7)
                  obtain ⟨ny, hny⟩ : ∃ z, y.next = z := ⟨_, rfl⟩
                  have HNY := Aside0.mk (show (i : Int) < ny by rw [← hny]; exact hkb.nx)
                  rw [hkb.cnt, hkb.pl, hny]
                  have HH7 := Aside0.mk hh7
                  have HB7 := Aside0.mk (below_step HB5.out hb7)
                  have HX7 := Aside0.mk (blk_below HX5.out hb7)
                  clear hkb hh7 hb7 hpg7 hx7 hR7 hCx hny hy HH5 HB5 HX5 hle7
                  go_upto_region 29 with fail
                  obtain ⟨w8, hw8⟩ : ∃ w8, w7.alloc (.cells #[.bool y.bad, .int .i64 ny, .int .i64 0, .slice (some ad7) 4 c7] 36) = w8 := ⟨_, rfl⟩
                  obtain ⟨bx, hbx⟩ : ∃ b, w7.heap.size = b := ⟨_, rfl⟩
                  have hb8 : Below w7.heap.size w7 w8 := by rw [← hw8]; exact below_alloc (Below.refl _ _) _
                  have HY8 : Aside0 (w8.heap[bx]? = some (.cells #[.bool y.bad, .int .i64 ny, .int .i64 0, .slice (some ad7) 4 c7] 36 (0, 0))) := ⟨by rw [← hw8, ← hbx]; exact blk_new w7 _⟩
                  have HH8 := Aside0.mk (HH7.out.below hb8)
                  have HB8 := Aside0.mk (below_step HB7.out hb8)
                  have HX8 := Aside0.mk (blk_below HX7.out hb8)
                  have HC8x := Aside0.mk (Kd.C_below HCx.out hb8)
                  have HX8c := Aside0.mk (pw_cell_below hb8 HX7c.out)
                  have HC8 := Aside0.mk (Kd.C_below HC.out HB8.out)
                  rw [hw8, hbx]
                  clear hw8 hbx hb8 HH7 HB7 HX7 HCx HX7c
                  have HH9 := Aside0.mk (HH8.out.below (below_drew (Below.refl _ _)))
                  have HB9 := Aside0.mk (below_step HB8.out (below_drew (Below.refl _ _)))
                  have HX9 := Aside0.mk (blk_below HX8.out (below_drew (Below.refl _ _)))
                  have HY9 := Aside0.mk (blk_below HY8.out (below_drew (Below.refl _ _)))
                  have HC9x := Aside0.mk (Kd.C_drew HC8x.out)
                  have HC9 := Aside0.mk (Kd.C_drew HC8.out)
                  have HX9c := Aside0.mk (pw_cell_below (below_drew (Below.refl _ _)) HX8c.out)
                  have hny1 : decide (ny ≤ (i : Int)) = false := decide_eq_false (by have := HNY.out; omega)
                  have hi4 : (i : Int) < 4 := by have := HK.out; omega
                  clear HH8 HB8 HX8 HY8 HC8x HC8 HX8c
                  refine start_ (n := 26) (S := fun w' => (w'.cell? ⟨bx, 1, none⟩ = some (.int .i64 ny) ∧ w'.cell? ⟨bx, 2, none⟩ = some (.int .i64 0) ∧ w'.cell? ⟨bx, 3, none⟩ = some (.slice (some ad7) 4 c7)) ∧ w'.cell? (ad7.add i) = some (.slice Ax b.length cx) ∧ (convert 22 9 (.slice Ax b.length cx)).run Try.prog w' = .ok (.string (strOfNums b)) w' ∧ (convert 22 9 (.slice A b.length c)).run Try.prog w' = .ok (.string (strOfNums b)) w') (ds := []) #[false, false, false, false, false, false, false, false, false, false, false, false, false, false, false, false, false, false, false, false, false, false, false, false, false, false] (by kernel_rfl) rfl rfl ⟨⟨(blk_cell HY9.out 1).trans rfl, (blk_cell HY9.out 2).trans rfl, (blk_cell HY9.out 3).trans rfl⟩, HX9c.out, conv22 HC9x.out rfl, conv22 HC9.out rfl⟩ (fun hHeld => ?_)
                  refine with_tabW reg_Stands_29.tab reg_Stands_29.bits (fun HT_ HW_ => ?_)
                  refine pure_ (i := 0) (N := (some 97)) (v := ?_) (a' := ?_) #[true, false, false, false, false, false, false, false, false, false, false, false, false, false, false, false, false, false, false, false, false, false, false, false, false, false] rfl rfl (any_of HT_.out (by kernel_rfl)) (fun _ _ _ h => h) (Or.inl ⟨by rfl, ?_⟩) ?_ ?_
                  rotate_left
                  · intro w'
                    go_simp
                    first | done | with_reducible rfl
                  rotate_left
                  · simp only [Act.put, List.setIfInBounds_toArray, List.set_cons_zero, List.set_cons_succ, i64_w, i32_w]
                    rfl
                  refine take_ (i := 1) (N := (some 98)) (v := ?_) (a' := ?_) #[true, true, false, false, false, false, false, false, false, false, false, false, false, false, false, false, false, false, false, false, false, false, false, false, false, false] rfl rfl (take_ofW HT_.out HW_.out (by kernel_rfl)) (fun _ _ _ h => h) (Or.inl ⟨by rfl, ?_⟩) hHeld ?_ ?_
                  rotate_left
                  · rintro w' ⟨⟨s0, s1, s2⟩, s3, s4, s5_⟩
                    go_simp
                    first | done | with_reducible rfl
                  rotate_left
                  · simp only [Act.put, List.setIfInBounds_toArray, List.set_cons_zero, List.set_cons_succ, i64_w, i32_w]
                    rfl
                  refine pure_ (i := 2) (N := (some 99)) (v := ?_) (a' := ?_) #[true, true, true, false, false, false, false, false, false, false, false, false, false, false, false, false, false, false, false, false, false, false, false, false, false, false] rfl rfl (any_of HT_.out (by kernel_rfl)) (fun _ _ _ h => h) (Or.inl ⟨by rfl, ?_⟩) ?_ ?_
                  rotate_left
                  · intro w'
                    go_simp
                    first | done | with_reducible rfl
                  rotate_left
                  · simp only [Act.put, List.setIfInBounds_toArray, List.set_cons_zero, List.set_cons_succ, i64_w, i32_w]
                    rfl
                  refine pure_ (i := 3) (N := (some 100)) (v := ?_) (a' := ?_) #[true, true, true, true, false, false, false, false, false, false, false, false, false, false, false, false, false, false, false, false, false, false, false, false, false, false] rfl rfl (any_of HT_.out (by kernel_rfl)) (fun _ _ _ h => h) (Or.inl ⟨by rfl, ?_⟩) ?_ ?_
                  rotate_left
                  · intro w'
                    go_simp
                    first | done | with_reducible rfl
                  rotate_left
                  · simp only [Act.put, List.setIfInBounds_toArray, List.set_cons_zero, List.set_cons_succ, i64_w, i32_w]
                    rfl
                  refine pure_ (i := 4) (N := (some 101)) (v := ?_) (a' := ?_) #[true, true, true, true, true, false, false, false, false, false, false, false, false, false, false, false, false, false, false, false, false, false, false, false, false, false] rfl rfl (any_of HT_.out (by kernel_rfl)) (fun _ _ _ h => h) (Or.inl ⟨by rfl, ?_⟩) ?_ ?_
                  rotate_left
                  · intro w'
                    go_simp
                    first | done | with_reducible rfl
                  rotate_left
                  · simp only [Act.put, List.setIfInBounds_toArray, List.set_cons_zero, List.set_cons_succ, i64_w, i32_w]
                    rfl
                  refine pure_ (i := 5) (N := (some 102)) (v := ?_) (a' := ?_) #[true, true, true, true, true, true, false, false, false, false, false, false, false, false, false, false, false, false, false, false, false, false, false, false, false, false] rfl rfl (any_of HT_.out (by kernel_rfl)) (fun _ _ _ h => h) (Or.inl ⟨by rfl, ?_⟩) ?_ ?_
                  rotate_left
                  · intro w'
                    go_simp
                    first | done | with_reducible rfl
                  rotate_left
                  · simp only [Act.put, List.setIfInBounds_toArray, List.set_cons_zero, List.set_cons_succ, i64_w, i32_w]
                    rfl
                  refine take_ (i := 6) (N := (some 103)) (v := ?_) (a' := ?_) #[true, true, true, true, true, true, true, false, false, false, false, false, false, false, false, false, false, false, false, false, false, false, false, false, false, false] rfl rfl (take_ofW HT_.out HW_.out (by kernel_rfl)) (fun _ _ _ h => h) (Or.inl ⟨by rfl, ?_⟩) hHeld ?_ ?_
                  rotate_left
                  · rintro w' ⟨⟨s0, s1, s2⟩, s3, s4, s5_⟩
                    go_simp
                    first | done | with_reducible rfl
                  rotate_left
                  · simp only [Act.put, List.setIfInBounds_toArray, List.set_cons_zero, List.set_cons_succ, i64_w, i32_w]
                    rfl
                  refine pure_ (i := 7) (N := (some 104)) (v := ?_) (a' := ?_) #[true, true, true, true, true, true, true, true, false, false, false, false, false, false, false, false, false, false, false, false, false, false, false, false, false, false] rfl rfl (any_of HT_.out (by kernel_rfl)) (fun _ _ _ h => h) (Or.inl ⟨by rfl, ?_⟩) ?_ ?_
                  rotate_left
                  · intro w'
                    go_simp
                    first | done | with_reducible rfl
                  rotate_left
                  · simp only [Act.put, List.setIfInBounds_toArray, List.set_cons_zero, List.set_cons_succ, i64_w, i32_w]
                    rfl
                  refine pure_ (i := 8) (N := (some 105)) (v := ?_) (a' := ?_) #[true, true, true, true, true, true, true, true, true, false, false, false, false, false, false, false, false, false, false, false, false, false, false, false, false, false] rfl rfl (any_of HT_.out (by kernel_rfl)) (fun _ _ _ h => h) (Or.inl ⟨by rfl, ?_⟩) ?_ ?_
                  rotate_left
                  · intro w'
                    go_simp
                    first | done | with_reducible rfl
                  rotate_left
                  · simp only [Act.put, List.setIfInBounds_toArray, List.set_cons_zero, List.set_cons_succ, i64_w, i32_w]
                    rfl
                  refine take_ (i := 9) (N := (some 106)) (v := ?_) (a' := ?_) #[true, true, true, true, true, true, true, true, true, true, false, false, false, false, false, false, false, false, false, false, false, false, false, false, false, false] rfl rfl (take_ofW HT_.out HW_.out (by kernel_rfl)) (fun _ _ _ h => h) (Or.inl ⟨by rfl, ?_⟩) hHeld ?_ ?_
                  rotate_left
                  · rintro w' ⟨⟨s0, s1, s2⟩, s3, s4, s5_⟩
                    go_simp
                    first | done | with_reducible rfl
                  rotate_left
                  · simp only [Act.put, List.setIfInBounds_toArray, List.set_cons_zero, List.set_cons_succ, i64_w, i32_w]
                    rfl
                  refine take_ (i := 10) (N := (some 107)) (v := ?_) (a' := ?_) #[true, true, true, true, true, true, true, true, true, true, true, false, false, false, false, false, false, false, false, false, false, false, false, false, false, false] rfl rfl (take_ofW HT_.out HW_.out (by kernel_rfl)) (fun _ _ _ h => h) (Or.inl ⟨by rfl, ?_⟩) hHeld ?_ ?_
                  rotate_left
                  · rintro w' ⟨⟨s0, s1, s2⟩, s3, s4, s5_⟩
                    go_simp
                    first | done | with_reducible rfl
                  rotate_left
                  · simp only [Act.put, List.setIfInBounds_toArray, List.set_cons_zero, List.set_cons_succ, i64_w, i32_w]
                    rfl
                  refine pure_ (i := 11) (N := (some 108)) (v := ?_) (a' := ?_) #[true, true, true, true, true, true, true, true, true, true, true, true, false, false, false, false, false, false, false, false, false, false, false, false, false, false] rfl rfl (any_of HT_.out (by kernel_rfl)) (fun _ _ _ h => h) (Or.inl ⟨by rfl, ?_⟩) ?_ ?_
                  rotate_left
                  · intro w'
                    go_simp
                    first | done | with_reducible rfl
                  rotate_left
                  · simp only [Act.put, List.setIfInBounds_toArray, List.set_cons_zero, List.set_cons_succ, i64_w, i32_w]
                    rfl
                  refine take_ (i := 12) (N := (some 109)) (v := ?_) (a' := ?_) #[true, true, true, true, true, true, true, true, true, true, true, true, true, false, false, false, false, false, false, false, false, false, false, false, false, false] rfl rfl (take_ofW HT_.out HW_.out (by kernel_rfl)) (fun _ _ _ h => h) (Or.inl ⟨by rfl, ?_⟩) hHeld ?_ ?_
                  rotate_left
                  · rintro w' ⟨⟨s0, s1, s2⟩, s3, s4, s5_⟩
                    go_simp
                    first | done | with_reducible rfl
                  rotate_left
                  · simp only [Act.put, List.setIfInBounds_toArray, List.set_cons_zero, List.set_cons_succ, i64_w, i32_w]
                    rfl
                  refine pure_ (i := 13) (N := (some 110)) (v := ?_) (a' := ?_) #[true, true, true, true, true, true, true, true, true, true, true, true, true, true, false, false, false, false, false, false, false, false, false, false, false, false] rfl rfl (any_of HT_.out (by kernel_rfl)) (fun _ _ _ h => h) (Or.inl ⟨by rfl, ?_⟩) ?_ ?_
                  rotate_left
                  · intro w'
                    go_simp
                    first | done | with_reducible rfl
                  rotate_left
                  · simp only [Act.put, List.setIfInBounds_toArray, List.set_cons_zero, List.set_cons_succ, i64_w, i32_w]
                    rfl
                  refine pure_ (i := 14) (N := (some 111)) (v := ?_) (a' := ?_) #[true, true, true, true, true, true, true, true, true, true, true, true, true, true, true, false, false, false, false, false, false, false, false, false, false, false] rfl rfl (any_of HT_.out (by kernel_rfl)) (fun _ _ _ h => h) (Or.inl ⟨by rfl, ?_⟩) ?_ ?_
                  rotate_left
                  · intro w'
                    go_simp
                    first | done | with_reducible rfl
                  rotate_left
                  · simp only [Act.put, List.setIfInBounds_toArray, List.set_cons_zero, List.set_cons_succ, i64_w, i32_w]
                    rfl
                  refine pure_ (i := 15) (N := (some 112)) (v := ?_) (a' := ?_) #[true, true, true, true, true, true, true, true, true, true, true, true, true, true, true, true, false, false, false, false, false, false, false, false, false, false] rfl rfl (any_of HT_.out (by kernel_rfl)) (fun _ _ _ h => h) (Or.inl ⟨by rfl, ?_⟩) ?_ ?_
                  rotate_left
                  · intro w'
                    go_simp
                    first | done | with_reducible rfl
                  rotate_left
                  · simp only [Act.put, List.setIfInBounds_toArray, List.set_cons_zero, List.set_cons_succ, i64_w, i32_w]
                    rfl
                  refine pure_ (i := 16) (N := (some 113)) (v := ?_) (a' := ?_) #[true, true, true, true, true, true, true, true, true, true, true, true, true, true, true, true, true, false, false, false, false, false, false, false, false, false] rfl rfl (any_of HT_.out (by kernel_rfl)) (fun _ _ _ h => h) (Or.inl ⟨by rfl, ?_⟩) ?_ ?_
                  rotate_left
                  · intro w'
                    go_simp
                    first | done | with_reducible rfl
                  rotate_left
                  · simp only [Act.put, List.setIfInBounds_toArray, List.set_cons_zero, List.set_cons_succ, i64_w, i32_w]
                    rfl
                  refine take_ (i := 17) (N := (some 114)) (v := ?_) (a' := ?_) #[true, true, true, true, true, true, true, true, true, true, true, true, true, true, true, true, true, true, false, false, false, false, false, false, false, false] rfl rfl (take_ofW HT_.out HW_.out (by kernel_rfl)) (fun _ _ _ h => h) (Or.inl ⟨by rfl, ?_⟩) hHeld ?_ ?_
                  rotate_left
                  · rintro w' ⟨⟨s0, s1, s2⟩, s3, s4, s5_⟩
                    go_simp
                    first | done | with_reducible rfl
                  rotate_left
                  · simp only [Act.put, List.setIfInBounds_toArray, List.set_cons_zero, List.set_cons_succ, i64_w, i32_w]
                    rfl
                  refine pure_ (i := 18) (N := (some 115)) (v := ?_) (a' := ?_) #[true, true, true, true, true, true, true, true, true, true, true, true, true, true, true, true, true, true, true, false, false, false, false, false, false, false] rfl rfl (any_of HT_.out (by kernel_rfl)) (fun _ _ _ h => h) (Or.inl ⟨by rfl, ?_⟩) ?_ ?_
                  rotate_left
                  · intro w'
                    go_simp
                    first | done | with_reducible rfl
                  rotate_left
                  · simp only [Act.put, List.setIfInBounds_toArray, List.set_cons_zero, List.set_cons_succ, i64_w, i32_w]
                    rfl
                  refine pure_ (i := 19) (N := (some 116)) (v := ?_) (a' := ?_) #[true, true, true, true, true, true, true, true, true, true, true, true, true, true, true, true, true, true, true, true, false, false, false, false, false, false] rfl rfl (any_of HT_.out (by kernel_rfl)) (fun _ _ _ h => h) (Or.inl ⟨by rfl, ?_⟩) ?_ ?_
                  rotate_left
                  · intro w'
                    go_simp
                    first | done | with_reducible rfl
                  rotate_left
                  · simp only [Act.put, List.setIfInBounds_toArray, List.set_cons_zero, List.set_cons_succ, i64_w, i32_w]
                    rfl
                  refine pure_ (i := 20) (N := (some 117)) (v := ?_) (a' := ?_) #[true, true, true, true, true, true, true, true, true, true, true, true, true, true, true, true, true, true, true, true, true, false, false, false, false, false] rfl rfl (any_of HT_.out (by kernel_rfl)) (fun _ _ _ h => h) (Or.inl ⟨by rfl, ?_⟩) ?_ ?_
                  rotate_left
                  · intro w'
                    go_simp
                    first | done | with_reducible rfl
                  rotate_left
                  · simp only [Act.put, List.setIfInBounds_toArray, List.set_cons_zero, List.set_cons_succ, i64_w, i32_w]
                    rfl
                  refine pure_ (i := 21) (N := (some 118)) (v := ?_) (a' := ?_) #[true, true, true, true, true, true, true, true, true, true, true, true, true, true, true, true, true, true, true, true, true, true, false, false, false, false] rfl rfl (any_of HT_.out (by kernel_rfl)) (fun _ _ _ h => h) (Or.inl ⟨by rfl, ?_⟩) ?_ ?_
                  rotate_left
                  · intro w'
                    go_simp
                    first | done | with_reducible rfl
                  rotate_left
                  · simp only [Act.put, List.setIfInBounds_toArray, List.set_cons_zero, List.set_cons_succ, i64_w, i32_w]
                    rfl
                  refine pure_ (i := 22) (N := (some 119)) (v := ?_) (a' := ?_) #[true, true, true, true, true, true, true, true, true, true, true, true, true, true, true, true, true, true, true, true, true, true, true, false, false, false] rfl rfl (any_of HT_.out (by kernel_rfl)) (fun _ _ _ h => h) (Or.inl ⟨by rfl, ?_⟩) ?_ ?_
                  rotate_left
                  · intro w'
                    go_simp
                    first | done | with_reducible rfl
                  rotate_left
                  · simp only [Act.put, List.setIfInBounds_toArray, List.set_cons_zero, List.set_cons_succ, i64_w, i32_w]
                    rfl
                  refine take_ (i := 23) (N := (some 120)) (v := ?_) (a' := ?_) #[true, true, true, true, true, true, true, true, true, true, true, true, true, true, true, true, true, true, true, true, true, true, true, true, false, false] rfl rfl (take_ofW HT_.out HW_.out (by kernel_rfl)) (fun _ _ _ h => h) (Or.inl ⟨by rfl, ?_⟩) hHeld ?_ ?_
                  rotate_left
                  · rintro w' ⟨⟨s0, s1, s2⟩, s3, s4, s5_⟩
                    go_simp
                    first | done | with_reducible rfl
                  rotate_left
                  · simp only [Act.put, List.setIfInBounds_toArray, List.set_cons_zero, List.set_cons_succ, i64_w, i32_w]
                    rfl
                  refine pure_ (i := 24) (N := (some 121)) (v := ?_) (a' := ?_) #[true, true, true, true, true, true, true, true, true, true, true, true, true, true, true, true, true, true, true, true, true, true, true, true, true, false] rfl rfl (any_of HT_.out (by kernel_rfl)) (fun _ _ _ h => h) (Or.inl ⟨by rfl, ?_⟩) ?_ ?_
                  rotate_left
                  · intro w'
                    go_simp
                    first | done | with_reducible rfl
                  rotate_left
                  · simp only [Act.put, List.setIfInBounds_toArray, List.set_cons_zero, List.set_cons_succ, i64_w, i32_w]
                    rfl
                  refine pure_ (i := 25) (N := (some 122)) (v := ?_) (a' := ?_) #[true, true, true, true, true, true, true, true, true, true, true, true, true, true, true, true, true, true, true, true, true, true, true, true, true, true] rfl rfl (any_of HT_.out (by kernel_rfl)) (fun _ _ _ h => h) (Or.inl ⟨by rfl, ?_⟩) ?_ ?_
                  rotate_left
                  · intro w'
                    go_simp
                    first | done | with_reducible rfl
                  rotate_left
                  · simp only [Act.put, List.setIfInBounds_toArray, List.set_cons_zero, List.set_cons_succ, i64_w, i32_w]
                    rfl
                  refine done_ (done_of HT_.out (by kernel_rfl)) ?_
                  clear hHeld HT_ HW_ hny1 hi4
                  go_wp2_with fail
                  go_roundw
                  case measure =>
                    have hm : l.length - ((j + 1 : Nat) : Int).toNat < l.length - ((j : Nat) : Int).toNat := by
                      rw [Int.toNat_natCast, Int.toNat_natCast]
                      exact Nat.sub_lt_sub_left HLT.out (Nat.lt_succ_self j)
                    first | exact hm | (rw [hw2]; exact hm)
                  case rel => exact ⟨j + 1, s5, S5, HLT.out, by first | rw [hw2] | rfl, HQ5, HH9, HB9, HX9, NX5⟩
        · have he : j = l.length := by omega
          subst he
          have hnl : ¬ (((l.length : Nat) : Int) < (l.length : Int)) := by omega
          clear hlt hj
          go_wp2_with fail
          refine (powerH HH.out).mono ?_
          rintro ev w4 ⟨⟨v4, rfl⟩, hh4, hn4⟩
          have HH4 := Aside0.mk hh4
          have HB4 := Aside0.mk (HB.out.trans (hn4.bel.mono HBS.out))
          obtain ⟨k1_, k2_⟩ := hn4.both HX.out NX.out
          obtain ⟨x0, x1⟩ := two k1_
          obtain ⟨r1, r2⟩ := kb_read HQ.out HK.out
          have R1 := Aside0.mk r1
          have R2 := Aside0.mk r2
          clear hh4 hn4 k1_ k2_ HH HB HX NX r1 r2
          go_wp2_with fail
          refine (readH HH4.out 1 (i : Int) (by rw [R2.out]; have := HBL.out; omega)).mono ?_
          rintro ev w6 ⟨v6, rfl, hR6, hh6, hn6⟩
          rw [R1.out]
          rw [R2.out] at hR6
          obtain ⟨A6, c6, rfl, -, hC6⟩ := Kd.R_reads hR6
          have HB6 := Aside0.mk (HB4.out.trans (hn6.bel.mono HBS.out))
          have hcv := conv22 (W := w6) (c := c6) hC6 rfl
          have hcw := conv22 (W := w6) (c := c) (Kd.C_below HC.out HB6.out) rfl
          clear hR6 hC6 hh6 hn6 HH4 HB4 x0 x1
          go_wp2_with fail
          clear hcv hcw
          refine (awake4 w6).mono ?_
          rintro ev w8 ⟨rfl, hb8⟩
          have HB8 := Aside0.mk (below_step HB6.out hb8)
          clear hb8
          go_wp2_with fail
          go_ret
          exact ⟨rfl, HB8.out⟩
/-- What holds of each of the calls that a law takes. -/
def DoOk (x : S52) : Prop := (Lit.int .i64 x.f0).wf = true ∧ (Lit.int .i64 x.f1).wf = true ∧ (Lit.int .i64 x.f2).wf = true ∧ ((Lit.int .i64 x.f3.f0).wf = true ∧ (Lit.int .i64 x.f3.f1).wf = true) ∧ (x.f4.length ≤ maxLen ∧ ∀ y ∈ x.f4, (Lit.int .u8 y).wf = true)
theorem standsFinal (W : World) (A0 : Option Addr) (c0 : Nat) (l0 : List S52) (hc0 : l0.length ≤ c0) (hr0 : Kd.C k52 W A0 l0.length l0) (hm0 : l0.length ≤ maxLen) (hok0 : ∀ x ∈ l0, DoOk x) (A1 : Option Addr) (c1 : Nat) (l1 : List Int) (hc1 : l1.length ≤ c1) (hr1 : Kd.C (Kd.int .u8) W A1 l1.length l1) (hm1 : l1.length ≤ maxLen) (hok1 : ∀ x ∈ l1, (Lit.int .u8 x).wf = true) (a2 : Int) (w2 : (Lit.int .i64 a2).wf = true) :
    Calls Try.prog 7 #[.slice A0 l0.length c0, .slice A1 l1.length c1, .int .i64 a2] W fun e W' => e = .returned (.bool true) ∧ Below W.heap.size W W' := stands4 W A0 c0 l0 hc0 hr0 hm0 (fun x hx => ⟨(hok0 x hx).2.1, (hok0 x hx).2.2.1⟩) A1 c1 l1 hc1 hr1 a2
end Go.Proofs.Ytloldgiggnhemaa.Cm
