import Derived.Test.YtflaaphlghkpnaaOnce
import Derived.Outline
set_option linter.unusedVariables false
set_option linter.unusedSimpArgs false
/-! TurnShift: the call: true, whatever comes in. -/
namespace Go.Proofs.Ytflaaphlghkpnaa.Shift
open Go.RowKit Go.Shelf Go.Proofs.YtflaaphlghkpnaaW.PrintWords Go.Proofs.YtflaaphlghkpnaaW.PrintLast Go.Proofs.YtflaaphlghkpnaaW.PrintMore Go.Proofs.Ytflaaphlghkpnaa.Iter Go.Proofs.Ytflaaphlghkpnaa.Awake1 Go.Proofs.Ytflaaphlghkpnaa.Once

theorem get_nat (m f j : Nat) (hm : 1 ≤ m) (hj : j < m) : (turnList (m : Int) (f : Int)).getD j 0 = (((f + j) % m : Nat) : Int) := by
  have h := turnList_get (m : Int) (f : Int) (by omega) j (by omega)
  have ha : turnAt (m : Int) (f : Int) = ((f % m : Nat) : Int) := by
    unfold turnAt
    have e : (f : Int).tmod (m : Int) = ((f % m : Nat) : Int) := by rw [Int.tmod_eq_emod_of_nonneg (by omega)]; rfl
    rw [e, if_neg (by omega)]
  rw [List.getD_eq_getElem?_getD, h, Option.getD_some, ha]
  have e2 : ((f % m : Nat) : Int) + (j : Int) = ((f % m + j : Nat) : Int) := by omega
  rw [e2, ← Int.natCast_emod, Nat.mod_add_mod]

set_option maxHeartbeats 2000000 in
set_option maxRecDepth 100000 in
theorem out (W : World) (n fr : Int) (h : n < 1 ∨ n > 300) : Calls Try.prog 9 #[.int .i64 n, .int .i64 fr] W fun e w' => e = .returned (.bool true) ∧ Below W.heap.size W w' := by
  rcases h with h | h
  · go_enter Try.func9, Try.ntmps9
    go_wp2_with fail
    refine (awake_calls _).mono ?_
    rintro e w' ⟨rfl, hb⟩
    go_wp2_with fail
    go_ret
    exact ⟨rfl, hb⟩
  · have h1 : ¬ n < 1 := by omega
    go_enter Try.func9, Try.ntmps9
    go_wp2_with fail
    refine (awake_calls _).mono ?_
    rintro e w' ⟨rfl, hb⟩
    go_wp2_with fail
    go_ret
    exact ⟨rfl, hb⟩

/-- First of Turn, all of it. -/
theorem first_all (m : Nat) (hm : m ≤ 1000000) (fr : Int) (w w0 : World) (hw : w = (w0.alloc (.cells #[.int .i64 (m : Int)] 3)).alloc (.cells #[.int .i64 fr] 3)) :
    Calls Try.prog 19 #[.func (.func 24) #[] #[.pointer (some ⟨w0.heap.size, 0, none⟩), .pointer (some ⟨w0.heap.size + 1, 0, none⟩)], .int .i64 (m : Int)] w fun e W' => ∃ A c, e = .returned (.slice A m c) ∧ Kd.C (Kd.int .i64) W' A m (turnList m fr) ∧ Below w0.heap.size w0 W' := by
  refine (first_turn (m : Int) fr (by omega) (m : Int) (by omega) w w0 hw).mono ?_
  rintro e W' ⟨A, c, rfl, hl, hC, hg, hb⟩
  have hlen : (turnList (m : Int) fr).length = m := by rw [turnList_length]; omega
  have htk : ((turnList m fr).take (m : Int).toNat) = turnList m fr := List.take_of_length_le (by rw [hlen]; omega)
  rw [htk, hlen] at hC
  rw [htk, hlen]
  exact ⟨A, c, rfl, hC, below_step (turn_w m fr w0 w hw) hb⟩

set_option maxHeartbeats 4000000 in
set_option maxRecDepth 100000 in
theorem some_ (W : World) (m : Nat) (fr : Int) (f : Nat) (h1 : 1 ≤ m) (h2 : m ≤ 300) (hf : wrap64 (Int.tmod (IntKind.u64.wrap fr) 1000) = (f : Int)) (hf2 : f < 1000) : Calls Try.prog 9 #[.int .i64 (m : Int), .int .i64 fr] W fun e w' => e = .returned (.bool true) ∧ Below W.heap.size W w' := by
  have hg : ¬ (m : Int) > 300 := by omega
  have hg1 : ¬ (m : Int) < 1 := by omega
  have hne : ((m : Int) == 0) = false := by rw [beq_eq_false_iff_ne]; omega
  go_enter Try.func9, Try.ntmps9
  go_wp2_with fail
  refine (turn_calls (m : Int) (f : Int) _).mono ?_
  rintro e w1 ⟨rfl, hw1⟩
  have HW1 := Lib.hid hw1
  clear hw1
  go_wp2_with fail
  refine (first_all m (by omega) (f : Int) w1 W HW1.out).mono ?_
  rintro e w2 ⟨A, c, rfl, hC, hb⟩
  have HB2 := Aside0.mk hb
  have HA2 := Aside0.mk hC
  clear hC hb HW1
  go_wp2_with fail
  refine (turn_calls (m : Int) ((f : Int) + 1) _).mono ?_
  rintro e w3 ⟨rfl, hw3⟩
  have HW3 := Lib.hid hw3
  clear hw3
  go_wp2_with fail
  refine (first_all m (by omega) ((f : Int) + 1) w3 w2 HW3.out).mono ?_
  rintro e w4 ⟨B, cb, rfl, hC, hb⟩
  have HB4 := Aside0.mk (below_step HB2.out hb)
  have HA4 := Aside0.mk (Kd.C_below HA2.out hb)
  have HBB4 := Aside0.mk hC
  clear hC hb HW3 HB2 HA2
  go_wp2_with fail
  refine (turn_calls (m : Int) ((f : Int) + (m : Int)) _).mono ?_
  rintro e w5 ⟨rfl, hw5⟩
  have HW5 := Lib.hid hw5
  clear hw5
  go_wp2_with fail
  refine (first_all m (by omega) ((f : Int) + (m : Int)) w5 w4 HW5.out).mono ?_
  rintro e w6 ⟨C, cc, rfl, hC, hb⟩
  have HB6 := Aside0.mk (below_step HB4.out hb)
  have HA6 := Aside0.mk (Kd.C_below HA4.out hb)
  have HBB6 := Aside0.mk (Kd.C_below HBB4.out hb)
  have HCC6 := Aside0.mk hC
  clear hC hb HW5 HB4 HA4 HBB4
  clear hf
  go_wp2_with fail
  go_loopw [56] (fun v56 wr => ∃ j : Nat, j ≤ m ∧ v56 = .int .i64 (j : Int) ∧ Aside0 (Below w6.heap.size w6 wr)) (fun v56 _ => m - (intOf v56).toNat)
  case atStart => exact ⟨0, Nat.zero_le _, rfl, ⟨Below.refl _ _⟩⟩
  case round =>
    obtain ⟨j, hj, rfl, HB⟩ := hrel
    by_cases hlt : j < m
    · obtain ⟨ad, e, ha1⟩ := int_at HA6.out j hlt
      cases e
      obtain ⟨q, hq⟩ : ∃ q : Nat, (j + 1) % m = q := ⟨_, rfl⟩
      have hqm : q < m := by rw [← hq]; exact Nat.mod_lt _ (by omega)
      obtain ⟨ad', e, ha2⟩ := int_at HA6.out q hqm
      cases e
      obtain ⟨bd, e, hb1⟩ := int_at HBB6.out j hlt
      cases e
      obtain ⟨cd, e, hc1⟩ := int_at HCC6.out j hlt
      cases e
      rw [get_nat m f _ h1 (by assumption)] at ha1 ha2
      rw [show (f : Int) + 1 = ((f + 1 : Nat) : Int) by omega, get_nat m (f + 1) _ h1 hlt] at hb1
      rw [show (f : Int) + (m : Int) = ((f + m : Nat) : Int) by omega, get_nat m (f + m) _ h1 hlt] at hc1
      have e1 : (f + 1 + j) % m = (f + q) % m := by rw [← hq, Nat.add_mod_mod]; congr 1; omega
      have e2 : (f + m + j) % m = (f + j) % m := by rw [show f + m + j = f + j + m by omega, Nat.add_mod_right]
      rw [e1] at hb1
      rw [e2] at hc1
      generalize (f + q) % m = X at ha2 hb1
      generalize (f + j) % m = Y at ha1 hc1
      replace ha1 := pw_cell_below HB.out ha1
      replace ha2 := pw_cell_below HB.out ha2
      replace hb1 := pw_cell_below HB.out hb1
      replace hc1 := pw_cell_below HB.out hc1
      have hw1 : IntKind.i64.wrap ((j : Int) + 1) = (j : Int) + 1 := IntWalk.i64_in _ (by omega)
      have hq1 : ((j : Int) + 1).tmod (m : Int) = (q : Int) := by rw [Int.tmod_eq_emod_of_nonneg (by omega), ← hq]; simp
      have hq2 : ((j : Int) + 1) % (m : Int) = (q : Int) := by rw [← hq]; simp
      have i0 : (0 : Int) ≤ (j : Int) := by omega
      have i1 : (j : Int) < (m : Int) := by omega
      have i2 : (0 : Int) ≤ (q : Int) := by omega
      have i3 : (q : Int) < (m : Int) := by omega
      clear e1 e2 hq
      go_wp2_with fail
      go_quiet (fail)
      clear hw1 hq1 hq2
      go_wp2_with fail
      go_roundw
      case rel => exact ⟨j + 1, by omega, by go_num, ⟨pw_below_drewN HB.out _⟩⟩
      case measure => simp [intOf]; omega
    · have HBW := Aside0.mk (below_step HB6.out HB.out)
      go_wp2_with fail
      refine (awake_calls _).mono ?_
      rintro e w' ⟨rfl, hb⟩
      go_wp2_with fail
      go_ret
      exact ⟨rfl, below_step HBW.out hb⟩

theorem small (a : Int) (b : Nat) (hb : 0 < b) (hb2 : b ≤ 1000000) : ∃ f : Nat, wrap64 (Int.tmod (IntKind.u64.wrap a) (b : Int)) = (f : Int) ∧ f < b := by
  have h0 : 0 ≤ IntKind.u64.wrap a := wrap_u64_nonneg a
  have t0 : 0 ≤ Int.tmod (IntKind.u64.wrap a) (b : Int) := Int.tmod_nonneg _ h0
  have t1 : Int.tmod (IntKind.u64.wrap a) (b : Int) < (b : Int) := Int.tmod_lt_of_pos _ (by omega)
  obtain ⟨k, hk⟩ := Int.eq_ofNat_of_zero_le t0
  exact ⟨k, by rw [hk]; unfold wrap64; omega, by omega⟩

theorem final (W : World) (n : Int) (w0 : (Lit.int .i64 n).wf = true) (fr : Int) (w1 : (Lit.int .i64 fr).wf = true) :
    Calls Try.prog 9 #[.int .i64 n, .int .i64 fr] W fun e w' => e = .returned (.bool true) ∧ Below W.heap.size W w' := by
  by_cases h5 : n < 1 ∨ n > 300
  · exact out W n fr h5
  · obtain ⟨m, rfl⟩ := Int.eq_ofNat_of_zero_le (show 0 ≤ n by omega)
    obtain ⟨f, hf, hf2⟩ := small fr 1000 (by omega) (by omega)
    exact some_ W m fr f (by omega) (by omega) hf hf2
end Go.Proofs.Ytflaaphlghkpnaa.Shift
