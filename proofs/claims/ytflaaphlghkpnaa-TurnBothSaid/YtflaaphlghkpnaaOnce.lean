import Derived.Test.YtflaaphlghkpnaaAwake1
set_option linter.unusedVariables false
set_option linter.unusedSimpArgs false
/-! TurnOnce: the call: true, whatever comes in. -/
namespace Go.Proofs.Ytflaaphlghkpnaa.Once
open Go.RowKit Go.Shelf Go.Proofs.YtflaaphlghkpnaaW.PrintWords Go.Proofs.YtflaaphlghkpnaaW.PrintLast Go.Proofs.YtflaaphlghkpnaaW.PrintMore Go.Proofs.Ytflaaphlghkpnaa.Iter Go.Proofs.Ytflaaphlghkpnaa.Awake1
attribute [local go_sem] max2_int min2_int max_two min_two max_three min_three max_four min_four

theorem turnList_get (n fr : Int) (h : 1 ≤ n) (i : Nat) (hi : i < n.toNat) : (turnList n fr)[i]? = some ((turnAt n fr + (i : Int)) % n) := by
  have hr := turnAt_range n fr h
  unfold turnList
  rw [if_neg (by omega)]
  by_cases h1 : i < (n - turnAt n fr).toNat
  · rw [List.getElem?_append_left (by rw [upList_length]; exact h1), upList_get _ _ _ h1, Int.emod_eq_of_lt (by omega) (by omega)]
  · rw [List.getElem?_append_right (by rw [upList_length]; omega), upList_length, upList_get _ _ _ (by omega)]
    have e : turnAt n fr + (i : Int) = (0 + ((i - (n - turnAt n fr).toNat : Nat) : Int)) + n := by omega
    rw [e, Int.add_emod_right, Int.emod_eq_of_lt (by omega) (by omega)]

theorem turn_w (n fr : Int) (w w1 : World) (h : w1 = (w.alloc (.cells #[.int .i64 n] 3)).alloc (.cells #[.int .i64 fr] 3)) : Below w.heap.size w w1 := by rw [h]; exact below_alloc (below_alloc (Below.refl _ _) _) _

set_option maxHeartbeats 2000000 in
set_option maxRecDepth 100000 in
theorem big (W : World) (n fr k : Int) (h : n > 500) : Calls Try.prog 5 #[.int .i64 n, .int .i64 fr, .int .i64 k] W fun e w' => e = .returned (.bool true) ∧ Below W.heap.size W w' := by
  go_enter Try.func5, Try.ntmps5
  go_wp2_with fail
  refine (awake_calls _).mono ?_
  rintro e w' ⟨rfl, hb⟩
  go_wp2_with fail
  go_ret
  exact ⟨rfl, hb⟩
set_option maxHeartbeats 2000000 in
set_option maxRecDepth 100000 in
theorem none_ (W : World) (n fr k : Int) (h : n < 1) (h2 : -9223372036854775808 ≤ n) : Calls Try.prog 5 #[.int .i64 n, .int .i64 fr, .int .i64 k] W fun e w' => e = .returned (.bool true) ∧ Below W.heap.size W w' := by
  have hg : ¬ n > 500 := by omega
  go_enter Try.func5, Try.ntmps5
  go_wp2_with fail
  refine (turn_calls n fr _).mono ?_
  rintro e w1 ⟨rfl, hw1⟩
  have HW1 := Lib.hid hw1
  clear hw1
  go_wp2_with fail
  refine (first_turn n fr (by omega) (n + 5) (by omega) w1 W HW1.out).mono ?_
  rintro e w2 ⟨A, c, rfl, hl, hC, hg, hb⟩
  have ht : ((turnList n fr).take (n + 5).toNat) = [] := by unfold turnList; rw [if_pos h]; simp
  rw [ht]
  have HB := Aside0.mk (below_step (turn_w n fr W w1 HW1.out) hb)
  clear hl hC hg hb ht
  go_wp2_with fail
  refine (awake_calls _).mono ?_
  rintro e w' ⟨rfl, hb⟩
  go_wp2_with fail
  go_ret
  exact ⟨rfl, below_step HB.out hb⟩
theorem int_at {w : World} {A : Option Addr} {n : Nat} {xs : List Int} (h : (Kd.int .i64).C w A n xs) (j : Nat) (hj : j < n) : ∃ ad, A = some ad ∧ w.cell? (ad.add j) = some (.int .i64 (xs.getD j 0)) := by
  obtain ⟨ad, c, e, _, hK, hc⟩ := Kd.C_get h 0 (j : Int) (by omega) (by omega)
  have hk : c = [.int .i64 (xs.getD j 0)] := hK
  refine ⟨ad, e, ?_⟩
  have hz := hc 0 (.int .i64 (xs.getD j 0)) (by rw [hk]; rfl)
  simpa [Kd.int, Kd.scalar] using hz

set_option maxHeartbeats 4000000 in
set_option maxRecDepth 100000 in
theorem some_ (W : World) (m : Nat) (fr k : Int) (h1 : 1 ≤ m) (h2 : m ≤ 500) (hk1 : -9223372036854775808 ≤ k) (hk2 : k ≤ 9223372036854775807) : Calls Try.prog 5 #[.int .i64 (m : Int), .int .i64 fr, .int .i64 k] W fun e w' => e = .returned (.bool true) ∧ Below W.heap.size W w' := by
  have hg : ¬ (m : Int) > 500 := by omega
  have hg1 : ¬ (m : Int) < 1 := by omega
  have hr := turnAt_range (m : Int) fr (by omega)
  have hne : ((m : Int) == 0) = false := by rw [beq_eq_false_iff_ne]; omega
  obtain ⟨t, ht⟩ : ∃ t, fr.tmod (m : Int) = t := ⟨_, rfl⟩
  have ht1 : t < m := by rw [← ht]; exact Int.tmod_lt_of_pos _ (by omega)
  have ht2 : -(m : Int) < t := by have := Int.lt_tmod_of_pos fr (show (0 : Int) < m by omega); omega
  have hft : turnAt m fr = if t < 0 then t + m else t := by unfold turnAt; rw [ht]
  have hget := turnList_get (m : Int) fr (by omega)
  have hlen : (turnList m fr).length = m := by rw [turnList_length]; omega
  have hlk : ((turnList m fr).take k.toNat).length = min k.toNat m := by rw [List.length_take, hlen]
  generalize hF : turnAt (m : Int) fr = F at *
  have HFT := Lib.hid hft
  have HGET := Lib.hid hget
  have HLEN := Lib.hid hlen
  have HLK := Lib.hid hlk
  clear hft hget hlen hlk hF
  have hcases : (t < 0 ∧ t + m = F) ∨ (¬ t < 0 ∧ t = F) := by rw [HFT.out]; by_cases h : t < 0 <;> simp [h]
  rcases hcases with ⟨hneg, hfe⟩ | ⟨hneg, hfe⟩ <;> try subst hfe
  all_goals
    go_enter Try.func5, Try.ntmps5
    go_wp2_with fail
    refine (turn_calls (m : Int) fr _).mono ?_
    rintro e w1 ⟨rfl, hw1⟩
    have HW1 := Lib.hid hw1
    clear hw1
    go_wp2_with fail
    refine (first_turn (m : Int) fr (by omega) ((m : Int) + 5) (by omega) w1 W HW1.out).mono ?_
    rintro e w2 ⟨A, c, rfl, hl, hC, hg, hb⟩
    have htk : ((turnList m fr).take ((m : Int) + 5).toNat) = turnList m fr := List.take_of_length_le (by rw [HLEN.out]; omega)
    rw [htk, HLEN.out] at hC hl
    rw [htk, HLEN.out]
    have HB := Aside0.mk (below_step (turn_w m fr W w1 HW1.out) hb)
    have HC := Aside0.mk hC
    clear hl hC hg hb htk HW1
    go_wp2_with fail
    go_loop [42] (fun v42 => ∃ j : Nat, j ≤ m ∧ v42 = .int .i64 (j : Int)) (fun v42 => m - (intOf v42).toNat)
    case atStart => exact ⟨0, Nat.zero_le _, rfl⟩
    case round =>
      obtain ⟨j, hj, rfl⟩ := hrel
      by_cases hlt : j < m
      · obtain ⟨ad, e, hc⟩ := int_at HC.out j hlt
        cases e
        have hv := HGET.out j (by omega)
        rw [List.getD_eq_getElem?_getD, hv] at hc
        simp only [Option.getD_some] at hc
        clear hv
        go_wp2_with fail
        go_round
        case rel => exact ⟨j + 1, by omega, by go_num⟩
        case measure => simp [intOf]; omega
      · go_wp2_with fail
        refine (turn_calls (m : Int) fr _).mono ?_
        rintro e w3 ⟨rfl, hw3⟩
        have HB3 := Aside0.mk (below_step HB.out (turn_w m fr w2 w3 hw3))
        have HW3 := Lib.hid hw3
        clear hw3 HB
        go_wp2_with fail
        refine (first_turn (m : Int) fr (by omega) k hk2 w3 w2 HW3.out).mono ?_
        rintro e w4 ⟨A4, c4, rfl, hl4, hC4, hg4, hb4⟩
        have HB4 := Aside0.mk (below_step HB3.out hb4)
        rw [HLK.out]
        clear hl4 hC4 hg4 hb4 HW3 HB3
        have hk3 : k ≤ 0 ∨ (∃ q : Nat, k = (q : Int) ∧ 1 ≤ q ∧ q < m) ∨ (m : Int) ≤ k := by
          rcases Int.lt_or_le 0 k with h | h
          · rcases Int.lt_or_le k (m : Int) with h' | h'
            · exact .inr (.inl ⟨k.toNat, by omega, by omega, by omega⟩)
            · exact .inr (.inr h')
          · exact .inl h
        rcases hk3 with hk3 | ⟨q, rfl, hq1, hq2⟩ | hk3
        · have hL : min k.toNat m = 0 := by omega
          rw [hL]
          clear hL
          go_wp2_with fail
          refine (awake_calls _).mono ?_
          rintro e w' ⟨rfl, hb⟩
          go_wp2_with fail
          go_ret
          exact ⟨rfl, below_step HB4.out hb⟩
        · have hL : min (q : Int).toNat m = q := by omega
          rw [hL]
          clear hL
          go_wp2_with fail
          refine (awake_calls _).mono ?_
          rintro e w' ⟨rfl, hb⟩
          go_wp2_with fail
          go_ret
          exact ⟨rfl, below_step HB4.out hb⟩
        · have hL : min k.toNat m = m := by omega
          rw [hL]
          clear hL
          go_wp2_with fail
          refine (awake_calls _).mono ?_
          rintro e w' ⟨rfl, hb⟩
          go_wp2_with fail
          go_ret
          exact ⟨rfl, below_step HB4.out hb⟩

theorem final (W : World) (n : Int) (w0 : (Lit.int .i64 n).wf = true) (fr : Int) (w1 : (Lit.int .i64 fr).wf = true) (k : Int) (w2 : (Lit.int .i64 k).wf = true) :
    Calls Try.prog 5 #[.int .i64 n, .int .i64 fr, .int .i64 k] W fun e w' => e = .returned (.bool true) ∧ Below W.heap.size W w' := by
  have hn : -9223372036854775808 ≤ n ∧ n ≤ 9223372036854775807 := by simpa [Lit.wf, IntKind.min, IntKind.max, IntKind.signed, IntKind.bits] using w0
  have hk : -9223372036854775808 ≤ k ∧ k ≤ 9223372036854775807 := by simpa [Lit.wf, IntKind.min, IntKind.max, IntKind.signed, IntKind.bits] using w2
  by_cases h5 : n > 500
  · exact big W n fr k h5
  · by_cases h1 : n < 1
    · exact none_ W n fr k h1 hn.1
    · obtain ⟨m, rfl⟩ := Int.eq_ofNat_of_zero_le (show 0 ≤ n by omega)
      exact some_ W m fr k (by omega) (by omega) hk.1 hk.2
end Go.Proofs.Ytflaaphlghkpnaa.Once
