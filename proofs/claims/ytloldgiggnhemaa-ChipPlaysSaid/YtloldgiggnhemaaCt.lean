import Derived.Test.YtloldgiggnhemaaBk
set_option linter.unusedVariables false
set_option linter.unusedSimpArgs false
/-! slices.Index and slices.Contains over ints. -/
namespace Go.Proofs.Ytloldgiggnhemaa.Cm
open Go.RowKit Go.Proofs.YtloldgiggnhemaaW.PrintWords Go.Proofs.YtloldgiggnhemaaW.PrintLast Go.Proofs.YtloldgiggnhemaaW.PrintMore Go.Proofs.Ytloldgiggnhemaa.Kp Go.Proofs.Ytloldgiggnhemaa.Cp

theorem ints_at {w : World} {A : Option Addr} {n : Nat} {xs : List Int} (h : (Kd.int .i64).C w A n xs) (j : Nat) (hj : j < n) : ∃ ad, A = some ad ∧ w.cell? (ad.add j) = some (.int .i64 (xs.getD j 0)) := by
  obtain ⟨ad, c, e, _, hK, hc⟩ := Kd.C_get h 0 (j : Int) (by omega) (by omega)
  have hk : c = [.int .i64 (xs.getD j 0)] := hK
  refine ⟨ad, e, ?_⟩
  have hz := hc 0 (.int .i64 (xs.getD j 0)) (by rw [hk]; rfl)
  simpa [Kd.int, Kd.scalar] using hz
set_option maxHeartbeats 2000000 in
set_option maxRecDepth 100000 in
theorem indexI (w : World) (A : Option Addr) (c : Nat) (l : List Int) (v : Int) (hC : Kd.C (Kd.int .i64) w A l.length l) (hc : l.length ≤ c) (hl : l.length ≤ 100000) :
    Calls Try.prog 56 #[.slice A l.length c, .int .i64 v] w fun e w' => ∃ r : Int, e = .returned (.int .i64 r) ∧ (0 ≤ r ↔ v ∈ l) ∧ w' = w := by
  have HC := Aside0.mk hC
  have HL := Aside0.mk hl
  clear hC hc hl
  go_enter Try.func56, Try.ntmps56
  go_wp2_with fail
  go_loopw [8] (fun v8 wr => ∃ k : Nat, k ≤ l.length ∧ v8 = .int .i64 (k : Int) ∧ wr = w ∧ Aside0 (∀ j, j < k → l.getD j 0 ≠ v)) (fun v8 _ => l.length - (intOf v8).toNat)
  case atStart => exact ⟨0, Nat.zero_le _, rfl, rfl, ⟨fun j h => absurd h (Nat.not_lt_zero _)⟩⟩
  case round =>
    obtain ⟨k, hk, rfl, hwr, HN⟩ := hrel
    rw [hwr]
    clear hwr
    have hlim := HL.out
    by_cases hlt : k < l.length
    · obtain ⟨ad, rfl, hx⟩ := ints_at HC.out k hlt
      have hw2 : wrap64 ((k : Int) + 1) = ((k + 1 : Nat) : Int) := by unfold wrap64; omega
      have hlt2 : (k : Int) < (l.length : Int) := by omega
      obtain ⟨Z, hZ⟩ : ∃ Z, l.getD k 0 = Z := ⟨_, rfl⟩
      rw [hZ] at hx
      have HZ := Aside0.mk hZ
      clear hlim hZ
      cases hv : (v == Z) with
      | true =>
        have HV := Aside0.mk hv
        go_wp2_with fail
        go_ret
        refine ⟨_, rfl, ?_, rfl⟩
        have h1 : v = Z := by simpa using HV.out
        have h2 : v ∈ l := by
          rw [h1, ← HZ.out, List.getD_eq_getElem?_getD, List.getElem?_eq_getElem hlt]
          exact List.getElem_mem hlt
        exact ⟨fun _ => h2, fun _ => by omega⟩
      | false =>
        have HV := Aside0.mk hv
        go_wp2_with fail
        go_roundw
        case measure =>
          have hm : l.length - ((k + 1 : Nat) : Int).toNat < l.length - ((k : Nat) : Int).toNat := by
            rw [Int.toNat_natCast, Int.toNat_natCast]
            exact Nat.sub_lt_sub_left hlt (Nat.lt_succ_self k)
          first | exact hm | (rw [hw2]; exact hm)
        case rel => exact ⟨k + 1, hlt, by first | rw [hw2] | rfl, by first | rfl | trivial, ⟨fun j hj => by
          by_cases e : j = k
          · subst e
            rw [HZ.out]
            intro e2
            have := HV.out
            rw [e2] at this
            simp at this
          · exact HN.out j (by omega)⟩⟩
    · have he : k = l.length := by omega
      subst he
      have hn : ¬ (((l.length : Nat) : Int) < (l.length : Int)) := by omega
      clear hlim
      go_wp2_with fail
      go_ret
      refine ⟨_, rfl, ?_, rfl⟩
      refine ⟨fun h => absurd h (by omega), fun hm => ?_⟩
      obtain ⟨j, hj, he⟩ := List.getElem_of_mem hm
      exact absurd (by rw [List.getD_eq_getElem?_getD, List.getElem?_eq_getElem hj]; exact he) (HN.out j hj)
set_option maxHeartbeats 2000000 in
set_option maxRecDepth 100000 in
theorem containsI (w : World) (A : Option Addr) (c : Nat) (l : List Int) (v : Int) (hC : Kd.C (Kd.int .i64) w A l.length l) (hc : l.length ≤ c) (hl : l.length ≤ 100000) :
    Calls Try.prog 43 #[.slice A l.length c, .int .i64 v] w fun e w' => e = .returned (.bool (l.contains v)) ∧ w' = w := by
  have hcc := indexI w A c l v hC hc hl
  clear hC hc hl
  go_enter Try.func43, Try.ntmps43
  go_wp2_with fail
  refine hcc.mono ?_
  clear hcc
  rintro ev w2 ⟨r, rfl, hr, hw2⟩
  rw [hw2]
  clear hw2 w2
  have HR := Aside0.mk hr
  clear hr
  go_wp2_with fail
  go_ret
  have hd : decide (0 ≤ r) = l.contains v := by
    rw [Bool.eq_iff_iff, decide_eq_true_iff, List.contains_iff_mem]
    exact HR.out
  rw [← hd]
  exact ⟨rfl, rfl⟩
end Go.Proofs.Ytloldgiggnhemaa.Cm
