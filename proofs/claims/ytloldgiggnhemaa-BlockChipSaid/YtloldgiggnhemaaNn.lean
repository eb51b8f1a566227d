import Derived.Test.YtloldgiggnhemaaNl
set_option linter.unusedVariables false
set_option linter.unusedSimpArgs false
/-! ChipNil. -/
namespace Go.Proofs.Ytloldgiggnhemaa.Cm
open Go.RowKit Go.Proofs.YtloldgiggnhemaaW.PrintWords Go.Proofs.YtloldgiggnhemaaW.PrintLast Go.Proofs.YtloldgiggnhemaaW.PrintMore Go.Proofs.Ytloldgiggnhemaa.Kp Go.Proofs.Ytloldgiggnhemaa.Cp
attribute [local go_sem] max2_int min2_int max_two min_two max_three min_three max_four min_four

theorem C_one {w : World} {b t : Nat} {fr : Nat × Nat} {cs : Array Value} {x : S52} (h : w.heap[b]? = some (.cells cs t fr)) (hK : k52.K w x cs.toList) : Kd.C k52 w (some ⟨b, 0, none⟩) 1 [x] := by
  refine ⟨rfl, by decide, fun _ => ⟨_, rfl, fun j p hp => ?_⟩⟩
  cases j with
  | zero =>
    obtain rfl : x = p := by simpa using hp
    refine ⟨cs.toList, k52.K_len hK, hK, fun i u hu => ?_⟩
    have e : (Addr.add ⟨b, 0, none⟩ (0 * k52.sz + i)) = ⟨b, i, none⟩ := by
      rw [show 0 * k52.sz + i = i by omega, add_plain]
    rw [e]
    exact (cell_of_row w b i cs t fr h).trans (by simpa using hu)
  | succ j => simp at hp
theorem six {w : World} {b t : Nat} {y0 y1 y2 y3 y4 y5 : Value} (h : w.heap[b]? = some (.cells #[y0, y1, y2, y3, y4, y5] t (0, 0))) : w.cell? ⟨b, 1, none⟩ = some y1 ∧ w.cell? ⟨b, 2, none⟩ = some y2 ∧ w.cell? ⟨b, 3, none⟩ = some y3 ∧ w.cell? ⟨b, 4, none⟩ = some y4 ∧ w.cell? ⟨b, 5, none⟩ = some y5 := ⟨(blk_cell h 1).trans rfl, (blk_cell h 2).trans rfl, (blk_cell h 3).trans rfl, (blk_cell h 4).trans rfl, (blk_cell h 5).trans rfl⟩
theorem eql0 (W : World) : (binOp .eql 44 (.agg #[.int .i64 0, .int .i64 0, .int .i64 0]) (.agg #[.int .i64 0, .int .i64 0, .int .i64 0])).run Try.prog W = .ok (.bool true) W := by rfl
set_option maxHeartbeats 4000000 in
set_option maxRecDepth 100000 in
theorem nilFinal (W : World) (cs0 : Array Value) (x0 : S52) (hk0 : k52.K W x0 cs0.toList) (hok0 : DoOk x0) :
    Calls Try.prog 9 #[.agg cs0] W fun e W' => e = .returned (.bool true) ∧ Below W.heap.size W W' := by
  obtain ⟨A4, c4, hcs, l4, g4⟩ := doOpen hk0
  have hcs' : cs0 = #[.int .i64 x0.f0, .int .i64 x0.f1, .int .i64 x0.f2, .int .i64 x0.f3.f0, .int .i64 x0.f3.f1, .slice A4 x0.f4.length c4] := by
    apply Array.toList_inj.1
    rw [hcs]
  subst hcs'
  have HKX := Aside0.mk hk0
  clear hcs hk0 hok0 l4 g4
  obtain ⟨z0, hz0⟩ : ∃ z, x0.f0 = z := ⟨_, rfl⟩
  obtain ⟨z1, hz1⟩ : ∃ z, x0.f1 = z := ⟨_, rfl⟩
  obtain ⟨z2, hz2⟩ : ∃ z, x0.f2 = z := ⟨_, rfl⟩
  obtain ⟨z3, hz3⟩ : ∃ z, x0.f3.f0 = z := ⟨_, rfl⟩
  obtain ⟨z4, hz4⟩ : ∃ z, x0.f3.f1 = z := ⟨_, rfl⟩
  obtain ⟨n4, hn4⟩ : ∃ z, x0.f4.length = z := ⟨_, rfl⟩
  rw [hz0, hz1, hz2, hz3, hz4, hn4]
  have HKY : Aside0 (k52.K W x0 [.int .i64 z0, .int .i64 z1, .int .i64 z2, .int .i64 z3, .int .i64 z4, .slice A4 n4 c4]) := ⟨by rw [← hz0, ← hz1, ← hz2, ← hz3, ← hz4, ← hn4]; exact HKX.out⟩
  clear HKX hz0 hz1 hz2 hz3 hz4 hn4
  go_enter Try.func9, Try.ntmps9
  go_wp2_with fail
  obtain ⟨w1, hw1⟩ : ∃ w1, W.alloc (.cells #[.int .i64 z0, .int .i64 z1, .int .i64 z2, .int .i64 z3, .int .i64 z4, .slice A4 n4 c4] 52) = w1 := ⟨_, rfl⟩
  obtain ⟨bx, hbx⟩ : ∃ b, W.heap.size = b := ⟨_, rfl⟩
  have HB1 : Aside0 (Below W.heap.size W w1) := ⟨by rw [← hw1]; exact below_alloc (Below.refl _ _) _⟩
  have HX1 : Aside0 (w1.heap[bx]? = some (.cells #[.int .i64 z0, .int .i64 z1, .int .i64 z2, .int .i64 z3, .int .i64 z4, .slice A4 n4 c4] 52 (0, 0))) := ⟨by rw [← hw1, ← hbx]; exact blk_new W _⟩
  rw [hw1]
  have HBX := Aside0.mk hbx
  rw [hbx]
  have hsz : w1.heap.size = bx + 1 := by rw [← hw1, ← hbx]; simp
  clear hw1
  obtain ⟨cl, hcl⟩ : ∃ c : Array Value, #[.int .i64 z0, .int .i64 z1, .int .i64 z2, .int .i64 z3, .int .i64 z4, .slice A4 n4 c4] = c := ⟨_, rfl⟩
  have hKl : k52.K W x0 cl.toList := by rw [← hcl]; exact HKY.out
  have hb_ : Below W.heap.size W (w1.alloc (.cells cl 52)) := below_step HB1.out (below_alloc (Below.refl _ w1) _)
  have hC1 : Kd.C k52 (w1.alloc (.cells cl 52)) (some ⟨w1.heap.size, 0, none⟩) 1 [x0] := C_one (blk_new w1 _) (k52.K_below hb_ hKl)
  rw [hsz] at hC1
  have hcc := heavy (w1.alloc (.cells cl 52)) (some ⟨bx + 1, 0, none⟩) 1 [x0] hC1 (Nat.le_refl _) (by show 1 ≤ maxLen; decide)
  rw [hcl]
  have HB1' := Aside0.mk hb_
  have HX1' := Aside0.mk (blk_below HX1.out (below_alloc (Below.refl _ w1) (.cells cl 52)))
  clear hKl hb_ hC1 hcl hsz
  clear hbx
  refine hcc.mono ?_
  clear hcc
  rintro ev w2 ⟨r, rfl, -, hb2⟩
  have HB2 := Aside0.mk (below_step HB1'.out hb2)
  have HX2 := Aside0.mk (blk_below HX1'.out hb2)
  clear hb2 HB1 HX1 HB1' HX1'
  by_cases hr0 : 0 < r
  · have d0 : decide (r > 0) = true := decide_eq_true hr0
    go_wp2_with fail
    refine (awake4 w2).mono ?_
    rintro ev w6 ⟨rfl, hb6⟩
    have HB6 := Aside0.mk (below_step HB2.out hb6)
    clear hb6
    go_wp2_with fail
    go_ret
    exact ⟨rfl, HB6.out⟩
  have d0 : decide (r > 0) = false := decide_eq_false hr0
  have d0n : decide (0 < r) = false := decide_eq_false hr0
  clear hr0
  obtain ⟨x1, x2, x3, x4, x5⟩ := six HX2.out
  go_wp2_with fail
  refine (failNil w2 z1).mono ?_
  rintro ev w3 ⟨⟨v3, rfl⟩, hw3⟩
  rw [hw3]
  clear hw3 w3
  go_wp2_with fail
  refine (wornNil w2 z1).mono ?_
  rintro ev w3 ⟨⟨v3, rfl⟩, hw3⟩
  rw [hw3]
  clear hw3 w3
  go_wp2_with fail
  refine (cutNil w2 z1 z2).mono ?_
  rintro ev w3 ⟨⟨v4, rfl⟩, hw3⟩
  rw [hw3]
  clear hw3 w3
  go_wp2_with fail
  refine (powerNil w2).mono ?_
  rintro ev w3 ⟨⟨v5, rfl⟩, hw3⟩
  rw [hw3]
  clear hw3 w3
  go_wp2_with fail
  refine (readNil w2 z3 z4).mono ?_
  rintro ev w3 ⟨rfl, hb3⟩
  have HB3 := Aside0.mk (below_step HB2.out hb3)
  have HX3 := Aside0.mk (blk_below HX2.out hb3)
  clear hb3 x1 x2 x3 x4 x5 HX2
  obtain ⟨x1, x2, x3, x4, x5⟩ := six HX3.out
  go_wp2_with fail
  refine (programNil w3 z3 z4 A4 n4 c4).mono ?_
  rintro ev w4 ⟨rfl, hb4⟩
  have HB4 := Aside0.mk (below_step HB3.out hb4)
  have HX4 := Aside0.mk (blk_below HX3.out hb4)
  clear hb4 x1 x2 x3 x4 x5 HX3
  obtain ⟨x1, x2, x3, x4, x5⟩ := six HX4.out
  go_wp2_with fail
  refine (eraseNil w4 z3).mono ?_
  rintro ev w5 ⟨rfl, hw5⟩
  rw [hw5]
  clear hw5 w5
  go_wp2_with fail
  refine (downNil w4).mono ?_
  rintro ev w5 ⟨rfl, hw5⟩
  rw [hw5]
  clear hw5 w5
  go_wp2_with fail
  refine (billNil w4).mono ?_
  rintro ev w5 ⟨rfl, hb5⟩
  have HB5 := Aside0.mk (below_step HB4.out hb5)
  have HX5 := Aside0.mk (blk_below HX4.out hb5)
  clear hb5 x1 x2 x3 x4 x5 HX4
  obtain ⟨x1, x2, x3, x4, x5⟩ := six HX5.out
  have he0 := eql0
  go_wp2_with fail
  refine (blocksNil w5).mono ?_
  rintro ev w6 ⟨rfl, hw6⟩
  rw [hw6]
  clear hw6 w6
  go_wp2_with fail
  refine (blockNil w5 z1).mono ?_
  rintro ev w6 ⟨rfl, hb6⟩
  have HB6 := Aside0.mk (below_step HB5.out hb6)
  clear hb6 x1 x2 x3 x4 x5 HX5
  have hf3 := field3
  go_wp2_with fail
  refine (awake4 w6).mono ?_
  rintro ev w8 ⟨rfl, hb8⟩
  have HB8 := Aside0.mk (below_step HB6.out hb8)
  clear hb8
  go_wp2_with fail
  go_ret
  exact ⟨rfl, HB8.out⟩
end Go.Proofs.Ytloldgiggnhemaa.Cm
