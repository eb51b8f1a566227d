import Derived.Test.YtloldgiggnhemaaOp
set_option linter.unusedVariables false
set_option linter.unusedSimpArgs false
/-! ChipOrder, the walk. -/
namespace Go.Proofs.Ytloldgiggnhemaa.Cm
open Go.RowKit Go.Proofs.YtloldgiggnhemaaW.PrintWords Go.Proofs.YtloldgiggnhemaaW.PrintLast Go.Proofs.YtloldgiggnhemaaW.PrintMore Go.Proofs.Ytloldgiggnhemaa.Kp Go.Proofs.Ytloldgiggnhemaa.Cp
attribute [local go_sem] max2_int min2_int max_two min_two max_three min_three max_four min_four

theorem fieldP (x y z : Int) (W : World) : (Instr.field 44 (.agg #[.int .i64 x, .int .i64 y, .int .i64 z]) 1).run Try.prog W = .ok (.int .i64 y) W := by rfl
theorem argOk {W w : World} {g : Nat} {S : Nat → Prop} {s : Chp} {A : Option Addr} {b : List Int} (h : Hd w W.heap.size S g s) (hC : Kd.C (Kd.int .u8) W A b.length b) (hb : Below W.heap.size W w) (h1 : 1 ≤ b.length) : ∀ ad, A = some ad → ad.block < w.heap.size ∧ ¬ S ad.block := fun ad hA => by
  subst hA
  have h2 := Kd.C_lt hC (by omega) (by decide)
  exact ⟨Nat.lt_of_lt_of_le h2 hb.size, fun hs => by have := h.chip.okb _ hs; omega⟩
set_option maxHeartbeats 8000000 in
set_option maxRecDepth 100000 in
theorem order (W : World) (a0 : Int) (w0 : (Lit.int .i64 a0).wf = true) (A : Option Addr) (c : Nat) (l : List Int) (hc : l.length ≤ c) (hC : Kd.C (Kd.int .i64) W A l.length l)
    (A2 : Option Addr) (c2 : Nat) (b : List Int) (hc2 : b.length ≤ c2) (hC2 : Kd.C (Kd.int .u8) W A2 b.length b) :
    Calls Try.prog 5 #[.int .i64 a0, .slice A l.length c, .slice A2 b.length c2] W fun e W' => e = .returned (.bool true) ∧ Below W.heap.size W W' := by
  have HC := Aside0.mk hC
  have HCC := Aside0.mk hc
  have HC2 := Aside0.mk hC2
  have HCC2 := Aside0.mk hc2
  clear hC hc hC2 hc2
  obtain ⟨n, hn, hn32⟩ := smallW a0 32 (by decide) (by decide)
  obtain ⟨pg, hpg⟩ : ∃ p, n + 1 = p := ⟨_, rfl⟩
  have HPG := Aside0.mk (show 1 ≤ pg ∧ pg ≤ 32 by omega)
  have hn2 : wrap64 (1 + (n : Int)) = (pg : Int) := by
    rw [← hpg, show (1 : Int) + (n : Int) = ((n + 1 : Nat) : Int) by omega]
    exact wrap_small _ (by omega) (by omega)
  clear hpg hn32
  by_cases h80 : 80 < l.length
  · have d1 : decide ((l.length : Int) > 80) = true := decide_eq_true (by omega)
    have d1n : decide (80 < l.length) = true := decide_eq_true h80
    clear h80
    go_enter Try.func5, Try.ntmps5
    go_wp2_with fail
    refine (awake4 W).mono ?_
    rintro ev w6 ⟨rfl, hb6⟩
    have HB6 := Aside0.mk hb6
    clear hb6
    go_wp2_with fail
    go_ret
    exact ⟨rfl, HB6.out⟩
  by_cases h1 : b.length < 1
  · have d1 : decide ((l.length : Int) > 80) = false := decide_eq_false (by omega)
    have d1n : decide (80 < l.length) = false := decide_eq_false h80
    have d2 : decide ((b.length : Int) < 1) = true := decide_eq_true (by omega)
    have d2n : decide (b.length < 1) = true := decide_eq_true h1
    clear h80 h1
    go_enter Try.func5, Try.ntmps5
    go_wp2_with fail
    refine (awake4 W).mono ?_
    rintro ev w6 ⟨rfl, hb6⟩
    have HB6 := Aside0.mk hb6
    clear hb6
    go_wp2_with fail
    go_ret
    exact ⟨rfl, HB6.out⟩
  by_cases h2 : 100 < b.length
  · have d1 : decide ((l.length : Int) > 80) = false := decide_eq_false (by omega)
    have d1n : decide (80 < l.length) = false := decide_eq_false h80
    have d2 : decide ((b.length : Int) < 1) = false := decide_eq_false (by omega)
    have d2n : decide (b.length < 1) = false := decide_eq_false h1
    have d3 : decide ((b.length : Int) > 100) = true := decide_eq_true (by omega)
    have d3n : decide (100 < b.length) = true := decide_eq_true h2
    clear h80 h1 h2
    go_enter Try.func5, Try.ntmps5
    go_wp2_with fail
    refine (awake4 W).mono ?_
    rintro ev w6 ⟨rfl, hb6⟩
    have HB6 := Aside0.mk hb6
    clear hb6
    go_wp2_with fail
    go_ret
    exact ⟨rfl, HB6.out⟩
  have d1 : decide ((l.length : Int) > 80) = false := decide_eq_false (by omega)
  have d1n : decide (80 < l.length) = false := decide_eq_false h80
  have d2 : decide ((b.length : Int) < 1) = false := decide_eq_false (by omega)
  have d2n : decide (b.length < 1) = false := decide_eq_false h1
  have d3 : decide ((b.length : Int) > 100) = false := decide_eq_false (by omega)
  have d3n : decide (100 < b.length) = false := decide_eq_false h2
  have HL := Aside0.mk (show l.length ≤ 80 by omega)
  have HBL := Aside0.mk (show 1 ≤ b.length ∧ b.length ≤ 100 by omega)
  clear h80 h1 h2
  go_enter Try.func5, Try.ntmps5
  go_wp2_with fail
  rw [hn, hn2]
  clear hn hn2 d1 d1n d2 d2n d3 d3n
  have hcc := newH W 1 pg none 0 [] (Kd.C_nil _ _) (by decide) (by decide) (by decide) (by decide) (by have := HPG.out; omega) (by have := HPG.out; omega)
  refine hcc.mono ?_
  clear hcc
  rintro ev w1 ⟨g, rfl, hh, hbn⟩
  obtain ⟨S0, hS0⟩ : ∃ S : Nat → Prop, (fun k => W.heap.size ≤ k ∧ k < w1.heap.size) = S := ⟨_, rfl⟩
  rw [hS0] at hh
  have HQ1 := Aside0.mk (o_new pg)
  obtain ⟨s1, hs1⟩ : ∃ s, newS 1 pg [] = s := ⟨_, rfl⟩
  rw [hs1] at hh HQ1
  have HH1 := Aside0.mk hh
  have HB1 := Aside0.mk hbn
  clear hS0 hh hbn hs1
  go_wp2_with fail
  go_loopw [8, 37] (fun v8 v37 wr => ∃ (i nx : Nat) (s : Chp) (S : Nat → Prop), i ≤ l.length ∧ v37 = .int .i64 (i : Int) ∧ v8 = .int .i64 (nx : Int) ∧ Aside0 (OQ s pg nx i) ∧ Aside0 (Hd wr W.heap.size S g s) ∧ Aside0 (Below W.heap.size W wr) ∧ Aside0 (nx ≤ pg)) (fun _ v37 _ => l.length - (intOf v37).toNat)
  case atStart => exact ⟨0, 0, s1, S0, Nat.zero_le _, rfl, rfl, HQ1, HH1, HB1, ⟨Nat.zero_le _⟩⟩
  case round =>
    clear HQ1 HH1 HB1 S0 s1
    obtain ⟨i, nx, s, S, hi, rfl, rfl, HQ, HH, HB, HNX⟩ := hrel
    by_cases hlt : i < l.length
    · have hlt2 : (i : Int) < (l.length : Int) := by omega
      have HLT := Aside0.mk hlt
      have hw2 : wrap64 ((i : Int) + 1) = ((i + 1 : Nat) : Int) := by rw [show (i : Int) + 1 = ((i + 1 : Nat) : Int) by omega]; exact wrap_small _ (by omega) (by have := HL.out; omega)
      have HCr := Aside0.mk (Kd.C_below HC.out HB.out)
      have HC2r := Aside0.mk (Kd.C_below HC2.out HB.out)
      obtain ⟨ad, rfl, hx⟩ := ints_at HCr.out i hlt
      obtain ⟨Z, hZ⟩ : ∃ Z, l.getD i 0 = Z := ⟨_, rfl⟩
      rw [hZ] at hx
      clear hZ hlt hi
      obtain ⟨pg2, hpg2⟩ : ∃ p, pg + 2 = p := ⟨_, rfl⟩
      have HPG2 := Aside0.mk hpg2
      have hw3 : wrap64 ((pg : Int) + 2) = (pg2 : Int) := by rw [← hpg2, show (pg : Int) + 2 = ((pg + 2 : Nat) : Int) by omega]; exact wrap_small _ (by omega) (by have := HPG.out; omega)
      have hw4 : IntKind.u64.wrap (pg2 : Int) = (pg2 : Int) := by rw [IntKind.wrap_u64]; exact Int.emod_eq_of_lt (by omega) (by have := HPG.out; omega)
      have hw5 : ¬ ((pg2 : Int) = 0) := by omega
      obtain ⟨p, hp, hplt⟩ := smallW Z (pg2 : Int) (by omega) (by have := HPG.out; omega)
      have HPL := Aside0.mk hplt

      obtain ⟨zb, hzb⟩ : ∃ z, bits BinOp.and IntKind.i64 Z 1 = z := ⟨_, rfl⟩
      have HZB := Aside0.mk hzb
      clear hzb hpg2 hplt
      go_wp2_with fail
      refine (bill HH.out.chip).mono ?_
      rintro ev w2 ⟨rfl, hb2⟩
      have HH2 := Aside0.mk (HH.out.below hb2)
      have HB2 := Aside0.mk (below_step HB.out hb2)
      clear hb2 HH HB hx
      have hfp := fieldP
      obtain ⟨bp, hbp⟩ : ∃ x, s.bp = x := ⟨_, rfl⟩
      rw [hbp]
      have HBP := Aside0.mk hbp
      clear hbp
      go_wp2_with fail
      clear hp hw3 hw4 hw5
      have hcc := programH HH2.out 0 (p : Int) A2 c2 b (Kd.C_below HC2.out HB2.out) HCC2.out (argOk HH2.out HC2.out HB2.out HBL.out.1)
      refine hcc.mono ?_
      clear hcc
      rintro ev w4 ⟨rfl, S4, hh4, hn4⟩
      have HB4 := Aside0.mk (HB2.out.trans (hn4.bel.mono (Nat.le_refl _)))
      clear hn4 HB2 HH2
      by_cases hge : pg ≤ p
      · have g1 : decide ((p : Int) ≥ (pg : Int)) = true := decide_eq_true (by omega)
        have g1n : decide (pg ≤ p) = true := decide_eq_true hge
        have e4 := o_arg HQ.out hge b
        rw [e4] at hh4
        rw [e4]
        obtain ⟨s4, hs4⟩ : ∃ x, s = x := ⟨_, rfl⟩
        rw [hs4] at hh4 HBP HQ
        have HH4 := Aside0.mk hh4
        have HQ4 := Aside0.mk (HQ.out.up (Nat.le_succ i))
        have HNX4 := HNX
        clear e4 hh4 hge HQ HNX hs4
        go_wp2_with fail
        refine (bill HH4.out.chip).mono ?_
        rintro ev w5 ⟨rfl, hb5⟩
        have HH5 := Aside0.mk (HH4.out.below hb5)
        have HB5 := Aside0.mk (below_step HB4.out hb5)
        clear hb5 HH4 HB4
        rw [HBP.out]
        by_cases hE : nx = pg
        · have HNP := Aside0.mk hE
          have dE : ((nx : Int) == (pg : Int)) = true := beq_iff_eq.2 (by omega)
          have dEn : decide (nx = pg) = true := decide_eq_true hE
          have dEi : decide ((nx : Int) = (pg : Int)) = true := decide_eq_true (by omega)
          clear hE
          have hzb := HZB.out
          cases hbit : (zb == 1) with
          | false =>
            have hbd : decide (zb = 1) = false := by simpa using hbit
            go_wp2_with fail
            go_roundw
            case measure =>
              have hm : l.length - ((i + 1 : Nat) : Int).toNat < l.length - ((i : Nat) : Int).toNat := by
                rw [Int.toNat_natCast, Int.toNat_natCast]
                exact Nat.sub_lt_sub_left HLT.out (Nat.lt_succ_self i)
              first | exact hm | (rw [hw2]; exact hm)
            case rel => exact ⟨i + 1, nx, s4, S4, HLT.out, by first | rw [hw2] | rfl, by first | rw [hwp] | rfl, HQ4, HH5, HB5, HNX4⟩
          | true =>
            have hbd : decide (zb = 1) = true := by simpa using hbit
            go_wp2_with fail
            refine (eraseH HH5.out 0).mono ?_
            rintro ev w7 ⟨rfl, hh7, hn7⟩
            obtain ⟨q1, q2⟩ := o_er HQ4.out
            rw [q1]
            have HQ7 := Aside0.mk q2
            have HH7 := Aside0.mk hh7
            have HB7 := Aside0.mk (HB5.out.trans (hn7.bel.mono (Nat.le_refl _)))
            clear q1 q2 hh7 hn7 HH5 HB5 HQ4
            go_wp2_with fail
            go_roundw
            case measure =>
              have hm : l.length - ((i + 1 : Nat) : Int).toNat < l.length - ((i : Nat) : Int).toNat := by
                rw [Int.toNat_natCast, Int.toNat_natCast]
                exact Nat.sub_lt_sub_left HLT.out (Nat.lt_succ_self i)
              first | exact hm | (rw [hw2]; exact hm)
            case rel => exact ⟨i + 1, 0, _, S4, HLT.out, by first | rw [hw2] | rfl, rfl, HQ7, HH7, HB7, ⟨Nat.zero_le _⟩⟩
        · have dE : ((nx : Int) == (pg : Int)) = false := beq_eq_false_iff_ne.2 (by omega)
          have dEn : decide (nx = pg) = false := decide_eq_false hE
          have dEi : decide ((nx : Int) = (pg : Int)) = false := decide_eq_false (by omega)
          have hE2 : ¬ ((nx : Int) = (pg : Int)) := by omega
          go_wp2_with fail
          go_roundw
          case measure =>
            have hm : l.length - ((i + 1 : Nat) : Int).toNat < l.length - ((i : Nat) : Int).toNat := by
              rw [Int.toNat_natCast, Int.toNat_natCast]
              exact Nat.sub_lt_sub_left HLT.out (Nat.lt_succ_self i)
            first | exact hm | (rw [hw2]; exact hm)
          case rel => exact ⟨i + 1, nx, s4, S4, HLT.out, by first | rw [hw2] | rfl, by first | rw [hwp] | rfl, HQ4, HH5, HB5, HNX4⟩
      · by_cases hne : p = nx
        · subst hne
          have g1 : decide ((p : Int) ≥ (pg : Int)) = false := decide_eq_false (by omega)
          have g1n : decide (pg ≤ p) = false := decide_eq_false hge
          obtain ⟨m, hm⟩ : ∃ m, p + 1 = m := ⟨_, rfl⟩
          have hwp : wrap64 ((p : Int) + 1) = (m : Int) := by rw [show (p : Int) + 1 = (m : Int) by omega]; exact wrap_small _ (by omega) (by have := HPG.out; omega)
          have hb0 := HQ.out.b0
          have hb1 := HQ.out.b1
          rw [HBP.out] at hb0 hb1
          have hwb : wrap64 (bp + 1) = bp + 1 := wrap_small _ (by omega) (by have := HLT.out; have := HL.out; omega)
          have HNX4 := Aside0.mk (show m ≤ pg by omega)
          obtain ⟨e1, e2, e3⟩ := o_ok HQ.out (by omega) (by have := HPG.out; omega) (by have := HLT.out; have := HL.out; omega) HBL.out.1 (by have := HBL.out; omega)
          rw [HBP.out] at e2
          rw [e1]
          rw [hm] at e3
          obtain ⟨s4, hs4⟩ : ∃ x, (progS s 0 (p : Int) b).1 = x := ⟨_, rfl⟩
          rw [hs4] at hh4 e2 e3
          have HH4 := Aside0.mk hh4
          have HQ4 := Aside0.mk e3
          have HBP4 := Aside0.mk e2
          clear e1 e2 e3 hh4 hge HQ HNX hs4 hb0 hb1 hm HBP
          go_wp2_with fail
          refine (bill HH4.out.chip).mono ?_
          rintro ev w5 ⟨rfl, hb5⟩
          have HH5 := Aside0.mk (HH4.out.below hb5)
          have HB5 := Aside0.mk (below_step HB4.out hb5)
          clear hb5 HH4 HB4
          rw [HBP4.out]
          by_cases hE : m = pg
          · have HNP := Aside0.mk hE
            have dE : ((m : Int) == (pg : Int)) = true := beq_iff_eq.2 (by omega)
            have dEn : decide (m = pg) = true := decide_eq_true hE
            have dEi : decide ((m : Int) = (pg : Int)) = true := decide_eq_true (by omega)
            clear hE
            have hzb := HZB.out
            cases hbit : (zb == 1) with
            | false =>
              have hbd : decide (zb = 1) = false := by simpa using hbit
              go_wp2_with fail
              go_roundw
              case measure =>
                have hm : l.length - ((i + 1 : Nat) : Int).toNat < l.length - ((i : Nat) : Int).toNat := by
                  rw [Int.toNat_natCast, Int.toNat_natCast]
                  exact Nat.sub_lt_sub_left HLT.out (Nat.lt_succ_self i)
                first | exact hm | (rw [hw2]; exact hm)
              case rel => exact ⟨i + 1, m, s4, S4, HLT.out, by first | rw [hw2] | rfl, by first | rw [hwp] | rfl, HQ4, HH5, HB5, HNX4⟩
            | true =>
              have hbd : decide (zb = 1) = true := by simpa using hbit
              go_wp2_with fail
              refine (eraseH HH5.out 0).mono ?_
              rintro ev w7 ⟨rfl, hh7, hn7⟩
              obtain ⟨q1, q2⟩ := o_er HQ4.out
              rw [q1]
              have HQ7 := Aside0.mk q2
              have HH7 := Aside0.mk hh7
              have HB7 := Aside0.mk (HB5.out.trans (hn7.bel.mono (Nat.le_refl _)))
              clear q1 q2 hh7 hn7 HH5 HB5 HQ4
              go_wp2_with fail
              go_roundw
              case measure =>
                have hm : l.length - ((i + 1 : Nat) : Int).toNat < l.length - ((i : Nat) : Int).toNat := by
                  rw [Int.toNat_natCast, Int.toNat_natCast]
                  exact Nat.sub_lt_sub_left HLT.out (Nat.lt_succ_self i)
                first | exact hm | (rw [hw2]; exact hm)
              case rel => exact ⟨i + 1, 0, _, S4, HLT.out, by first | rw [hw2] | rfl, rfl, HQ7, HH7, HB7, ⟨Nat.zero_le _⟩⟩
          · have dE : ((m : Int) == (pg : Int)) = false := beq_eq_false_iff_ne.2 (by omega)
            have dEn : decide (m = pg) = false := decide_eq_false hE
            have dEi : decide ((m : Int) = (pg : Int)) = false := decide_eq_false (by omega)
            have hE2 : ¬ ((m : Int) = (pg : Int)) := by omega
            go_wp2_with fail
            go_roundw
            case measure =>
              have hm : l.length - ((i + 1 : Nat) : Int).toNat < l.length - ((i : Nat) : Int).toNat := by
                rw [Int.toNat_natCast, Int.toNat_natCast]
                exact Nat.sub_lt_sub_left HLT.out (Nat.lt_succ_self i)
              first | exact hm | (rw [hw2]; exact hm)
            case rel => exact ⟨i + 1, m, s4, S4, HLT.out, by first | rw [hw2] | rfl, by first | rw [hwp] | rfl, HQ4, HH5, HB5, HNX4⟩
        · have g1 : decide ((p : Int) ≥ (pg : Int)) = false := decide_eq_false (by omega)
          have g1n : decide (pg ≤ p) = false := decide_eq_false hge
          have g2 : ((p : Int) == (nx : Int)) = false := beq_eq_false_iff_ne.2 (by omega)
          have g2n : decide (p = nx) = false := decide_eq_false hne
          have g2i : decide ((p : Int) = (nx : Int)) = false := decide_eq_false (by omega)
          have e4 := o_ord HQ.out (by omega) hne HBL.out.1 (by have := HBL.out; omega)
          rw [e4] at hh4
          rw [e4]
          obtain ⟨s4, hs4⟩ : ∃ x, s = x := ⟨_, rfl⟩
          rw [hs4] at hh4 HBP HQ
          have HH4 := Aside0.mk hh4
          have HQ4 := Aside0.mk (HQ.out.up (Nat.le_succ i))
          have HNX4 := HNX
          clear e4 hh4 hge hne HQ HNX hs4
          go_wp2_with fail
          refine (bill HH4.out.chip).mono ?_
          rintro ev w5 ⟨rfl, hb5⟩
          have HH5 := Aside0.mk (HH4.out.below hb5)
          have HB5 := Aside0.mk (below_step HB4.out hb5)
          clear hb5 HH4 HB4
          rw [HBP.out]
          by_cases hE : nx = pg
          · have HNP := Aside0.mk hE
            have dE : ((nx : Int) == (pg : Int)) = true := beq_iff_eq.2 (by omega)
            have dEn : decide (nx = pg) = true := decide_eq_true hE
            have dEi : decide ((nx : Int) = (pg : Int)) = true := decide_eq_true (by omega)
            clear hE
            have hzb := HZB.out
            cases hbit : (zb == 1) with
            | false =>
              have hbd : decide (zb = 1) = false := by simpa using hbit
              go_wp2_with fail
              go_roundw
              case measure =>
                have hm : l.length - ((i + 1 : Nat) : Int).toNat < l.length - ((i : Nat) : Int).toNat := by
                  rw [Int.toNat_natCast, Int.toNat_natCast]
                  exact Nat.sub_lt_sub_left HLT.out (Nat.lt_succ_self i)
                first | exact hm | (rw [hw2]; exact hm)
              case rel => exact ⟨i + 1, nx, s4, S4, HLT.out, by first | rw [hw2] | rfl, by first | rw [hwp] | rfl, HQ4, HH5, HB5, HNX4⟩
            | true =>
              have hbd : decide (zb = 1) = true := by simpa using hbit
              go_wp2_with fail
              refine (eraseH HH5.out 0).mono ?_
              rintro ev w7 ⟨rfl, hh7, hn7⟩
              obtain ⟨q1, q2⟩ := o_er HQ4.out
              rw [q1]
              have HQ7 := Aside0.mk q2
              have HH7 := Aside0.mk hh7
              have HB7 := Aside0.mk (HB5.out.trans (hn7.bel.mono (Nat.le_refl _)))
              clear q1 q2 hh7 hn7 HH5 HB5 HQ4
              go_wp2_with fail
              go_roundw
              case measure =>
                have hm : l.length - ((i + 1 : Nat) : Int).toNat < l.length - ((i : Nat) : Int).toNat := by
                  rw [Int.toNat_natCast, Int.toNat_natCast]
                  exact Nat.sub_lt_sub_left HLT.out (Nat.lt_succ_self i)
                first | exact hm | (rw [hw2]; exact hm)
              case rel => exact ⟨i + 1, 0, _, S4, HLT.out, by first | rw [hw2] | rfl, rfl, HQ7, HH7, HB7, ⟨Nat.zero_le _⟩⟩
          · have dE : ((nx : Int) == (pg : Int)) = false := beq_eq_false_iff_ne.2 (by omega)
            have dEn : decide (nx = pg) = false := decide_eq_false hE
            have dEi : decide ((nx : Int) = (pg : Int)) = false := decide_eq_false (by omega)
            have hE2 : ¬ ((nx : Int) = (pg : Int)) := by omega
            go_wp2_with fail
            go_roundw
            case measure =>
              have hm : l.length - ((i + 1 : Nat) : Int).toNat < l.length - ((i : Nat) : Int).toNat := by
                rw [Int.toNat_natCast, Int.toNat_natCast]
                exact Nat.sub_lt_sub_left HLT.out (Nat.lt_succ_self i)
              first | exact hm | (rw [hw2]; exact hm)
            case rel => exact ⟨i + 1, nx, s4, S4, HLT.out, by first | rw [hw2] | rfl, by first | rw [hwp] | rfl, HQ4, HH5, HB5, HNX4⟩
    · have he : i = l.length := by omega
      subst he
      have hnn : ¬ (((l.length : Nat) : Int) < (l.length : Int)) := by omega
      clear hlt hi
      obtain ⟨b1, b2⟩ := o_blk HQ.out
      have hf1 := field1
      go_wp2_with fail
      refine (blockH HH.out 0 b2).mono ?_
      rintro ev w3 ⟨v3, rfl, ⟨pv, rfl, A3, c3, rfl, -, -⟩, hh3, hb3⟩
      rw [b1]
      have HB3 := Aside0.mk (below_step HB.out hb3)
      clear hh3 hb3 HH HB b1 b2
      go_wp2_with fail
      refine (awake4 w3).mono ?_
      rintro ev w6 ⟨rfl, hb6⟩
      have HB6 := Aside0.mk (below_step HB3.out hb6)
      clear hb6
      go_wp2_with fail
      go_ret
      exact ⟨rfl, HB6.out⟩
theorem orderFinal (W : World) (a0 : Int) (w0 : (Lit.int .i64 a0).wf = true) (A1 : Option Addr) (c1 : Nat) (l1 : List Int) (hc1 : l1.length ≤ c1) (hr1 : Kd.C (Kd.int .i64) W A1 l1.length l1) (hm1 : l1.length ≤ maxLen) (hok1 : ∀ x ∈ l1, (Lit.int .i64 x).wf = true) (A2 : Option Addr) (c2 : Nat) (l2 : List Int) (hc2 : l2.length ≤ c2) (hr2 : Kd.C (Kd.int .u8) W A2 l2.length l2) (hm2 : l2.length ≤ maxLen) (hok2 : ∀ x ∈ l2, (Lit.int .u8 x).wf = true) :
    Calls Try.prog 5 #[.int .i64 a0, .slice A1 l1.length c1, .slice A2 l2.length c2] W fun e W' => e = .returned (.bool true) ∧ Below W.heap.size W W' := order W a0 w0 A1 c1 l1 hc1 hr1 A2 c2 l2 hc2 hr2
end Go.Proofs.Ytloldgiggnhemaa.Cm
