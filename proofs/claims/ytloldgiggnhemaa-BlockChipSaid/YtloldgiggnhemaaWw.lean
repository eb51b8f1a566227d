import Derived.Test.YtloldgiggnhemaaWp
import Derived.Test.YtloldgiggnhemaaWFootNe
set_option linter.unusedVariables false
set_option linter.unusedSimpArgs false
/-! ChipWorn, the walk. -/
namespace Go.Proofs.Ytloldgiggnhemaa.Cm
open Go.RowKit Go.Proofs.YtloldgiggnhemaaW.PrintWords Go.Proofs.YtloldgiggnhemaaW.PrintLast Go.Proofs.YtloldgiggnhemaaW.PrintMore Go.Proofs.Ytloldgiggnhemaa.Kp Go.Proofs.Ytloldgiggnhemaa.Cp
attribute [local go_sem] max2_int min2_int max_two min_two max_three min_three max_four min_four

theorem smallW (a : Int) (B : Int) (hB : 0 < B) (hB2 : B ≤ 2000000000000) : ∃ n : Nat, wrap64 (Int.tmod (IntKind.u64.wrap a) B) = (n : Int) ∧ (n : Int) < B := by
  have h0 : 0 ≤ IntKind.u64.wrap a := by
    rw [IntKind.wrap_u64]
    exact Int.emod_nonneg _ (by decide)
  have t0 : 0 ≤ Int.tmod (IntKind.u64.wrap a) B := Int.tmod_nonneg _ h0
  have t1 : Int.tmod (IntKind.u64.wrap a) B < B := Int.tmod_lt_of_pos _ hB
  exact ⟨(Int.tmod (IntKind.u64.wrap a) B).toNat, by unfold wrap64; omega, by omega⟩
theorem wrap_small (x : Int) (h0 : 0 ≤ x) (h1 : x < 1000000) : wrap64 x = x := by unfold wrap64; omega
/-- Clean: neither bad nor begun. -/
theorem cleanC (W : World) (B : Blk) (A : Option Addr) (m c : Nat) : Calls Try.prog 19 #[.agg #[.bool B.bad, .int .i64 B.next, .int .i64 B.count, .slice A m c]] W fun e w' => e = .returned (.bool (!B.bad && B.next == 0)) ∧ Below W.heap.size W w' := by
  cases hb : B.bad
  · go_enter Try.func19, Try.ntmps19
    go_wp2_with fail
    go_ret
    exact ⟨by simp, below_alloc (Below.refl _ _) _⟩
  · go_enter Try.func19, Try.ntmps19
    go_wp2_with fail
    go_ret
    exact ⟨by simp, below_alloc (Below.refl _ _) _⟩
set_option maxHeartbeats 4000000 in
set_option maxRecDepth 100000 in
theorem worns (W : World) (a0 : Int) (w0 : (Lit.int .i64 a0).wf = true) :
    Calls Try.prog 4 #[.int .i64 a0] W fun e W' => e = .returned (.bool true) ∧ Below W.heap.size W W' := by
  obtain ⟨n, hn, hn6⟩ := smallW a0 6 (by decide) (by decide)
  have HN := Aside0.mk (show n < 6 by omega)
  go_enter Try.func4, Try.ntmps4
  go_wp2_with fail
  rw [hn]
  clear hn hn6
  have hcc := newH W 3 2 none 0 [] (Kd.C_nil _ _) (by decide) (by decide) (by decide) (by decide) (by decide) (by decide)
  refine hcc.mono ?_
  clear hcc
  rintro ev w1 ⟨g, rfl, hh, hbn⟩
  obtain ⟨S0, hS0⟩ : ∃ S : Nat → Prop, (fun k => W.heap.size ≤ k ∧ k < w1.heap.size) = S := ⟨_, rfl⟩
  rw [hS0] at hh
  have HH1 : Aside0 (Hd w1 W.heap.size S0 g (wp0 0)) := ⟨hh⟩
  have HB1 := Aside0.mk hbn
  clear hS0 hh hbn
  go_wp2_with fail
  go_loopw [15] (fun v15 wr => ∃ (i : Nat) (S : Nat → Prop), i ≤ 3 ∧ v15 = .int .i64 (i : Int) ∧ Aside0 (Hd wr W.heap.size S g (wp0 i)) ∧ Aside0 (Below W.heap.size W wr)) (fun v15 _ => 3 - (intOf v15).toNat)
  case atStart => exact ⟨0, S0, by omega, rfl, HH1, HB1⟩
  case round =>
    clear HH1 HB1 S0
    obtain ⟨i, S, hi, rfl, HH, HB⟩ := hrel
    by_cases hlt : i < 3
    · have hlt2 : (i : Int) < 3 := by omega
      have HLT := Aside0.mk hlt
      clear hlt hi
      have hw2 : wrap64 ((i : Int) + 1) = ((i + 1 : Nat) : Int) := by have := HLT.out; unfold wrap64; omega
      go_wp2_with fail
      have hcc := programH (HH.out.below (below_alloc (Below.refl _ wr) (.cells #[.int .u8 ((i : Int) + 1)] 5))) (i : Int) 0 (some ⟨wr.heap.size, 0, none⟩) 1 [((i : Int) + 1)] (C_lit (blk_new wr _) rfl (by simp)) (by simp) (fun ad hA => by
        cases hA
        exact ⟨by simp, fun hs => Nat.lt_irrefl _ (HH.out.lt _ hs)⟩)
      refine hcc.mono ?_
      clear hcc
      rintro ev w3 ⟨rfl, S3, hh3, hn3⟩
      have HH3 : Aside0 (Hd w3 W.heap.size S3 g (wp0 (i + 1))) := ⟨hh3⟩
      have HB3 := Aside0.mk ((below_step HB.out (below_alloc (Below.refl _ wr) (.cells #[.int .u8 ((i : Int) + 1)] 5))).trans (hn3.bel.mono (Nat.le_refl _)))
      clear hh3 hn3 HH HB
      go_wp2_with fail
      go_roundw
      case measure =>
        have hm : 3 - ((i + 1 : Nat) : Int).toNat < 3 - ((i : Nat) : Int).toNat := by
          rw [Int.toNat_natCast, Int.toNat_natCast]
          exact Nat.sub_lt_sub_left HLT.out (Nat.lt_succ_self i)
        first | exact hm | (rw [hw2]; exact hm)
      case rel => exact ⟨i + 1, S3, HLT.out, by first | rw [hw2] | rfl, HH3, HB3⟩
    · have he : i = 3 := by omega
      subst he
      have hn3 : ¬ (((3 : Nat) : Int) < 3) := by omega
      clear hlt hi
      go_wp2_with fail
      have hcc := wornH HH.out (n : Int) (by have := HN.out; omega)
      refine hcc.mono ?_
      clear hcc
      rintro ev w2 ⟨⟨v, rfl⟩, hh2, hn2⟩
      have HH2 : Aside0 (Hd w2 W.heap.size S g (wrun n 0)) := ⟨hh2⟩
      have HB2 := Aside0.mk (HB.out.trans (hn2.bel.mono (Nat.le_refl _)))
      clear HH HB hh2 hn2
      go_wp2_with fail
      go_loopw [30] (fun v30 wr => ∃ (i : Nat), i ≤ 6 ∧ v30 = .int .i64 (i : Int) ∧ Aside0 (Hd wr W.heap.size S g (wrun n i)) ∧ Aside0 (Below W.heap.size W wr)) (fun v30 _ => 6 - (intOf v30).toNat)
      case atStart => exact ⟨0, by omega, rfl, HH2, HB2⟩
      case round =>
        clear HH2 HB2 hn3
        obtain ⟨i, hi, rfl, HH, HB⟩ := hrel
        by_cases hlt : i < 6
        · have hlt2 : (i : Int) < 6 := by omega
          have HLT := Aside0.mk hlt
          have F1 := Aside0.mk (w_er n HN.out i hlt)
          have hw2 : wrap64 ((i : Int) + 1) = ((i + 1 : Nat) : Int) := by unfold wrap64; omega
          obtain ⟨r, hr⟩ : ∃ r : Nat, i % 3 = r := ⟨_, rfl⟩
          obtain ⟨rn, hrn⟩ : ∃ r : Nat, n % 3 = r := ⟨_, rfl⟩
          have e1 : ((i : Int) % 3) = (r : Int) := by omega
          have e2 : ((n : Int) % 3) = (rn : Int) := by omega
          rw [hr] at F1
          have hst : wrun n (i + 1) = (eraseS (wrun n i) (r : Int)).1 := by rw [← hr]; rfl
          have HST := Aside0.mk hst
          have HR := Aside0.mk hr
          have HRN := Aside0.mk hrn
          clear hlt hi hr hrn hst
          go_wp2_with fail
          refine (eraseH HH.out (r : Int)).mono ?_
          rintro ev w3 ⟨rfl, hh3, hn3⟩
          have HH3 : Aside0 (Hd w3 W.heap.size S g (wrun n (i + 1))) := ⟨by rw [HST.out]; exact hh3⟩
          have HB3 := Aside0.mk (HB.out.trans (hn3.bel.mono (Nat.le_refl _)))
          clear hh3 hn3 HH HB
          rcases Nat.lt_trichotomy i n with hin | hin | hin
          · have n1 : decide (i = n) = false := decide_eq_false (by omega)
            have d1 : ((i : Int) == (n : Int)) = false := beq_eq_false_iff_ne.2 (by omega)
            have n2 : decide (n < i) = false := decide_eq_false (by omega)
            have d2 : decide ((i : Int) > (n : Int)) = false := decide_eq_false (by omega)
            have fw : wwant n i = 0 := by unfold wwant; rw [if_neg (by have := HR.out; have := HRN.out; omega)]
            rw [F1.out, fw]
            clear fw
            go_wp2_with fail
            go_roundw
            case measure =>
              have hm : 6 - ((i + 1 : Nat) : Int).toNat < 6 - ((i : Nat) : Int).toNat := by
                rw [Int.toNat_natCast, Int.toNat_natCast]
                exact Nat.sub_lt_sub_left HLT.out (Nat.lt_succ_self i)
              first | exact hm | (rw [hw2]; exact hm)
            case rel => exact ⟨i + 1, HLT.out, by first | rw [hw2] | rfl, HH3, HB3⟩
          · subst hin
            have fw : wwant i i = 3 := by unfold wwant; rw [if_pos (by have := HR.out; have := HRN.out; omega)]
            rw [F1.out, fw]
            clear fw
            go_wp2_with fail
            go_roundw
            case measure =>
              have hm : 6 - ((i + 1 : Nat) : Int).toNat < 6 - ((i : Nat) : Int).toNat := by
                rw [Int.toNat_natCast, Int.toNat_natCast]
                exact Nat.sub_lt_sub_left HLT.out (Nat.lt_succ_self i)
              first | exact hm | (rw [hw2]; exact hm)
            case rel => exact ⟨i + 1, HLT.out, by first | rw [hw2] | rfl, HH3, HB3⟩
          · have n1 : decide (i = n) = false := decide_eq_false (by omega)
            have d1 : ((i : Int) == (n : Int)) = false := beq_eq_false_iff_ne.2 (by omega)
            have n2 : decide (n < i) = true := decide_eq_true (by omega)
            have d2 : decide ((i : Int) > (n : Int)) = true := decide_eq_true (by omega)
            by_cases h4 : r = rn
            · subst h4
              have fw : wwant n i = 3 := by unfold wwant; rw [if_pos (by have := HR.out; have := HRN.out; omega)]
              rw [F1.out, fw]
              clear fw
              go_wp2_with fail
              go_roundw
              case measure =>
                have hm : 6 - ((i + 1 : Nat) : Int).toNat < 6 - ((i : Nat) : Int).toNat := by
                  rw [Int.toNat_natCast, Int.toNat_natCast]
                  exact Nat.sub_lt_sub_left HLT.out (Nat.lt_succ_self i)
                first | exact hm | (rw [hw2]; exact hm)
              case rel => exact ⟨i + 1, HLT.out, by first | rw [hw2] | rfl, HH3, HB3⟩
            · have n4 : decide (r = rn) = false := decide_eq_false h4
              have n6 : ((r : Int) == (rn : Int)) = false := beq_eq_false_iff_ne.2 (by omega)
              have fw : wwant n i = 0 := by unfold wwant; rw [if_neg (by have := HR.out; have := HRN.out; omega)]
              rw [F1.out, fw]
              clear fw
              go_wp2_with fail
              go_roundw
              case measure =>
                have hm : 6 - ((i + 1 : Nat) : Int).toNat < 6 - ((i : Nat) : Int).toNat := by
                  rw [Int.toNat_natCast, Int.toNat_natCast]
                  exact Nat.sub_lt_sub_left HLT.out (Nat.lt_succ_self i)
                first | exact hm | (rw [hw2]; exact hm)
              case rel => exact ⟨i + 1, HLT.out, by first | rw [hw2] | rfl, HH3, HB3⟩
        · have he : i = 6 := by omega
          subst he
          have hn6 : ¬ (((6 : Nat) : Int) < 6) := by omega
          clear hlt hi
          obtain ⟨f1, f2, f3, f4, f5, f6, f7, f8⟩ := w_facts n HN.out
          unfold wEnd at f3 f4 f5 f6 f7 f8
          obtain ⟨rn, hrn⟩ : ∃ r : Nat, n % 3 = r := ⟨_, rfl⟩
          obtain ⟨rm, hrm⟩ : ∃ r : Nat, (n + 1) % 3 = r := ⟨_, rfl⟩
          obtain ⟨qn, hqn⟩ : ∃ r : Nat, n / 3 + 1 = r := ⟨_, rfl⟩
          rw [hrn] at f1 f2 f3 f4 f5 f6 f7 f8
          rw [hrm] at f5 f6 f8
          rw [hqn] at f4
          have F1 := Aside0.mk f1
          have F2 := Aside0.mk f2
          have F3 := Aside0.mk f3
          have F4 := Aside0.mk f4
          have F5 := Aside0.mk f5
          have F6 := Aside0.mk f6
          have F7 := Aside0.mk f7
          have F8 := Aside0.mk f8
          clear f1 f2 f3 f4 f5 f6 f7 f8
          have e2 : ((n : Int) % 3) = (rn : Int) := by omega
          have e4 : ((n : Int) / 3 + 1) = (qn : Int) := by omega
          have e5 : (((n : Int) + 1) % 3) = (rm : Int) := by omega
          have e6 : wrap64 ((n : Int) / 3 + 1) = (qn : Int) := by rw [e4]; exact wrap_small _ (by omega) (by have := HN.out; omega)
          clear e4
          have e7 : wrap64 ((n : Int) + 1) = (n : Int) + 1 := wrap_small _ (by omega) (by have := HN.out; omega)
          have e8 : wrap64 ((n : Int) / 3) = (n : Int) / 3 := wrap_small _ (by omega) (by have := HN.out; omega)
          have HRN := Aside0.mk hrn
          have HRM := Aside0.mk hrm
          have HQN := Aside0.mk hqn
          clear hrn hrm hqn
          go_wp2_with fail
          refine (readH HH.out (rn : Int) 0 (by rw [F2.out]; unfold wX; split <;> simp)).mono ?_
          rintro ev w3 ⟨v3, rfl, hR3, hh3, hn3⟩
          rw [F1.out]
          rw [F2.out] at hR3
          have HH3 := Aside0.mk hh3
          have HB3 := Aside0.mk (HB.out.trans (hn3.bel.mono (Nat.le_refl _)))
          obtain ⟨A3, c3, rfl, -, hC3⟩ := Kd.R_reads hR3
          have HC3 := Aside0.mk hC3
          clear hR3 hC3 hh3 hn3 HH HB
          by_cases hn3 : n < 3
          · have hx : wX n = [(n : Int) + 1] := by unfold wX; rw [if_pos hn3]; rfl
            have hlt : (n : Int) < 3 := by omega
            have d2 : decide (3 ≤ n) = false := decide_eq_false (by omega)
            have d1 : decide ((n : Int) ≥ 3) = false := decide_eq_false (by omega)
            rw [hx] at HC3 ⊢
            have hf0 := field0
            have hf2 := field2
            obtain ⟨st, hst⟩ : ∃ s, strOfNums [(n : Int) + 1] = s := ⟨_, rfl⟩
            have hcv := conv22 (W := w3) (n := 1) (c := c3) HC3.out hst
            have hcw := conv22 (W := w3.alloc (.cells #[.int .u8 ((n : Int) + 1)] 5)) (n := 1) (c := 1) (C_lit (xs := [(n : Int) + 1]) (blk_new w3 _) rfl (by simp)) hst
            have HHa := Aside0.mk (HH3.out.below (below_alloc (Below.refl _ w3) (.cells #[.int .u8 ((n : Int) + 1)] 5)))
            have HBa := Aside0.mk (below_step HB3.out (below_alloc (Below.refl _ w3) (.cells #[.int .u8 ((n : Int) + 1)] 5)))
            clear hx hn3 HH3 HB3
            go_wp2_with fail
            clear hcv hcw hlt d1 d2
            refine (blockH HHa.out (rn : Int) (by rw [F7.out]; intro xs hxs; unfold wX at hxs; split at hxs <;> simp at hxs <;> rcases hxs with rfl | rfl <;> simp)).mono ?_
            rintro ev w4 ⟨v4, rfl, ⟨pv, rfl, A4, c4, rfl, -, -⟩, hh4, hb4⟩
            rw [F3.out]
            have HH4 := Aside0.mk hh4
            have HB4 := Aside0.mk (below_step HBa.out hb4)
            clear hh4 hb4
            go_wp2_with fail
            refine (blockH HH4.out (rn : Int) (by rw [F7.out]; intro xs hxs; unfold wX at hxs; split at hxs <;> simp at hxs <;> rcases hxs with rfl | rfl <;> simp)).mono ?_
            rintro ev w5 ⟨v5, rfl, ⟨pv5, rfl, A5, c5, rfl, -, -⟩, hh5, hb5⟩
            rw [F4.out]
            have HH5 := Aside0.mk hh5
            have HB5 := Aside0.mk (below_step HB4.out hb5)
            clear hh5 hb5
            go_wp2_with fail
            refine (blockH HH5.out (rm : Int) (by rw [F8.out]; intro xs hxs; simp at hxs; rcases hxs with rfl | rfl; simp)).mono ?_
            rintro ev w6 ⟨v6, rfl, ⟨pv6, rfl, A6, c6, rfl, -, -⟩, hh6, hb6⟩
            have HB6 := Aside0.mk (below_step HB5.out hb6)
            clear hh6 hb6
            go_wp2_with fail
            refine (cleanC w6 (blockB (readS (wrun n 6) (rn : Int) 0) (rm : Int)) A6 _ c6).mono ?_
            rintro ev w7 ⟨rfl, hb7⟩
            have hcl : (!(blockB (readS (wrun n 6) (rn : Int) 0) (rm : Int)).bad && (blockB (readS (wrun n 6) (rn : Int) 0) (rm : Int)).next == 0) = true := by rw [F5.out, F6.out]; rfl
            rw [hcl]
            have HB7 := Aside0.mk (below_step HB6.out hb7)
            clear hb7 hcl
            go_wp2_with fail
            refine (awake4 w7).mono ?_
            rintro ev w8 ⟨rfl, hb8⟩
            have HB8 := Aside0.mk (below_step HB7.out hb8)
            clear hb8
            go_wp2_with fail
            go_ret
            exact ⟨rfl, HB8.out⟩
          · have hx : wX n = [] := by unfold wX; rw [if_neg hn3]
            have d1 : decide ((n : Int) ≥ 3) = true := decide_eq_true (by omega)
            have d2 : decide (3 ≤ n) = true := decide_eq_true (by omega)
            rw [hx] at HC3 ⊢
            have hf0 := field0
            have hf2 := field2
            clear hx hn3
            go_wp2_with fail
            refine (blockH HH3.out (rn : Int) (by rw [F7.out]; intro xs hxs; unfold wX at hxs; split at hxs <;> simp at hxs <;> rcases hxs with rfl | rfl <;> simp)).mono ?_
            rintro ev w4 ⟨v4, rfl, ⟨pv, rfl, A4, c4, rfl, -, -⟩, hh4, hb4⟩
            rw [F3.out]
            have HH4 := Aside0.mk hh4
            have HB4 := Aside0.mk (below_step HB3.out hb4)
            clear hh4 hb4
            go_wp2_with fail
            refine (blockH HH4.out (rn : Int) (by rw [F7.out]; intro xs hxs; unfold wX at hxs; split at hxs <;> simp at hxs <;> rcases hxs with rfl | rfl <;> simp)).mono ?_
            rintro ev w5 ⟨v5, rfl, ⟨pv5, rfl, A5, c5, rfl, -, -⟩, hh5, hb5⟩
            rw [F4.out]
            have HH5 := Aside0.mk hh5
            have HB5 := Aside0.mk (below_step HB4.out hb5)
            clear hh5 hb5
            go_wp2_with fail
            refine (blockH HH5.out (rm : Int) (by rw [F8.out]; intro xs hxs; simp at hxs; rcases hxs with rfl | rfl; simp)).mono ?_
            rintro ev w6 ⟨v6, rfl, ⟨pv6, rfl, A6, c6, rfl, -, -⟩, hh6, hb6⟩
            have HB6 := Aside0.mk (below_step HB5.out hb6)
            clear hh6 hb6
            go_wp2_with fail
            refine (cleanC w6 (blockB (readS (wrun n 6) (rn : Int) 0) (rm : Int)) A6 _ c6).mono ?_
            rintro ev w7 ⟨rfl, hb7⟩
            have hcl : (!(blockB (readS (wrun n 6) (rn : Int) 0) (rm : Int)).bad && (blockB (readS (wrun n 6) (rn : Int) 0) (rm : Int)).next == 0) = true := by rw [F5.out, F6.out]; rfl
            rw [hcl]
            have HB7 := Aside0.mk (below_step HB6.out hb7)
            clear hb7 hcl
            go_wp2_with fail
            refine (awake4 w7).mono ?_
            rintro ev w8 ⟨rfl, hb8⟩
            have HB8 := Aside0.mk (below_step HB7.out hb8)
            clear hb8
            go_wp2_with fail
            go_ret
            exact ⟨rfl, HB8.out⟩
theorem wornsFinal (W : World) (a0 : Int) (w0 : (Lit.int .i64 a0).wf = true) :
    Calls Try.prog 4 #[.int .i64 a0] W fun e W' => e = .returned (.bool true) ∧ Below W.heap.size W W' := worns W a0 w0
end Go.Proofs.Ytloldgiggnhemaa.Cm
