import Derived.Test.YtflaaphlghkpnaaLeft
import Derived.Sort.QuietIn
import Derived.Test.YtflaaphlghkpnaaWEqStruct
import Derived.Test.YtflaaphlghkpnaaQuietRound
set_option linter.unusedVariables false
set_option linter.unusedSimpArgs false
/-! TurnSpots: the call: true, whatever comes in. -/
namespace Go.Proofs.Ytflaaphlghkpnaa.SpotsLaw
open Go.RowKit Go.Shelf Go.Proofs.YtflaaphlghkpnaaW.PrintWords Go.Proofs.YtflaaphlghkpnaaW.PrintLast Go.Proofs.YtflaaphlghkpnaaW.PrintMore Go.Proofs.Ytflaaphlghkpnaa.Iter Go.Proofs.Ytflaaphlghkpnaa.Awake1 Go.Proofs.Ytflaaphlghkpnaa.Once Go.Proofs.Ytflaaphlghkpnaa.Shift Go.Proofs.Ytflaaphlghkpnaa.Left
attribute [local go_sem] Oper.semAt_some

theorem int_eqA (d : Nat) (a c : Int) (w : World) : (Op.equalIn (d + 1) 3 (.int .i64 a) (.int .i64 c)).run Try.prog w = .ok (a == c) w := by
  simp [Op.equalIn, run_underlying Try.underlying3]
theorem spot_eqA (d : Nat) (a b c e : Int) (w : World) : (Op.equalIn (d + 2) 47 (.agg #[.int .i64 a, .int .i64 b]) (.agg #[.int .i64 c, .int .i64 e])).run Try.prog w = .ok (a == c && b == e) w :=
  eqA_of Try.underlying47 (by kernel_rfl) (eqf_cons rfl (by kernel_rfl) (by kernel_rfl) (int_eqA d a c w) (eqf_last rfl (by kernel_rfl) (by kernel_rfl) (int_eqA d b e w)))
theorem spot_neq (a b c d : Int) (w : World) : (binOp .neq 47 (.agg #[.int .i64 a, .int .i64 b]) (.agg #[.int .i64 c, .int .i64 d])).run Try.prog w = .ok (.bool (!(a == c && b == d))) w := by
  have e : Op.equal 47 (.agg #[.int .i64 a, .int .i64 b]) (.agg #[.int .i64 c, .int .i64 d]) = Op.equalIn 10000 47 (.agg #[.int .i64 a, .int .i64 b]) (.agg #[.int .i64 c, .int .i64 d]) := rfl
  simp only [binOp, e]
  simp [spot_eqA 9998]
theorem keepsOthers_drewN (W : World) (n : Nat) : KeepsOthers W (W.drewN n) := ⟨Nat.le_refl _, fun _ _ h _ => h⟩

set_option maxHeartbeats 4000000 in
set_option maxRecDepth 100000 in
theorem main (w : World) (b p : Int) (hb1 : 1 ≤ b) (hb2 : b ≤ 64) (hp1 : 1 ≤ p) (hp2 : p ≤ 32) :
    CallsIn Fence.wide 9 Try.prog 7 #[.int .i64 b, .int .i64 p] w fun e w' => e = .returned (.bool true) ∧ Below w.heap.size w w' := by
  have hq := run_eql_iter_nil
  obtain ⟨N, hN⟩ : ∃ N : Nat, b * p = (N : Int) := Int.eq_ofNat_of_zero_le (Int.mul_nonneg (by omega) (by omega))
  have hN2 : b * p ≤ 64 * 32 := Int.mul_le_mul hb2 hp2 (by omega) (by omega)
  have hsl : spotsList b p = spotsTo p N := by unfold spotsList; rw [if_neg (by omega), hN]; rfl
  have HSL := Lib.hid hsl
  have HN := Lib.hid hN
  have hNle : N ≤ 2048 := by omega
  clear hsl hN hN2
  refine callsIn_of_wp_marks Try.func7 rfl trivial ?_ rfl
  simp only [Try.ntmps7, List.size_toArray, List.length_cons, List.length_nil, Nat.reduceAdd, Nat.reduceSub, Array.replicate_succ, Array.replicate_zero, List.push_toArray, List.append_toArray, List.nil_append, List.cons_append]
  gi_wp2_with fail
  refine ⟨trivial, ?_⟩
  obtain ⟨w4, hw4⟩ : ∃ w4, (((w.alloc (.cells #[.int .i64 b] 3)).alloc (.cells #[.int .i64 p] 3)).alloc (.cells #[.bool false] 4)).alloc (.cells #[.int .i64 0] 3) = w4 := ⟨_, rfl⟩
  rw [hw4]
  have hz4 : w4.heap.size = w.heap.size + 4 := by rw [← hw4]; simp
  have hB4 : Below w.heap.size w w4 := by rw [← hw4]; exact below_alloc (below_alloc (below_alloc (below_alloc (Below.refl _ _) _) _) _) _
  have q0 : Boxed w4 w.heap.size 3 (.int .i64 b) := by rw [← hw4]; exact (((Boxed.new w 3 _).alloc _).alloc _).alloc _
  have q1 : Boxed w4 (w.heap.size + 1) 3 (.int .i64 p) := by rw [← hw4]; have := ((Boxed.new (w.alloc (.cells #[.int .i64 b] 3)) 3 (.int .i64 p)).alloc (.cells #[.bool false] 4)).alloc (.cells #[.int .i64 0] 3); rw [World.size_alloc] at this; exact this
  have q2 : Boxed w4 (w.heap.size + 1 + 1) 4 (.bool false) := by rw [← hw4]; have := (Boxed.new ((w.alloc (.cells #[.int .i64 b] 3)).alloc (.cells #[.int .i64 p] 3)) 4 (.bool false)).alloc (.cells #[.int .i64 0] 3); rw [World.size_alloc, World.size_alloc] at this; exact this
  have q3 : Boxed w4 (w.heap.size + 1 + 1 + 1) 3 (.int .i64 0) := by rw [← hw4]; have := Boxed.new (((w.alloc (.cells #[.int .i64 b] 3)).alloc (.cells #[.int .i64 p] 3)).alloc (.cells #[.bool false] 4)) 3 (.int .i64 0); rw [World.size_alloc, World.size_alloc, World.size_alloc] at this; exact this
  have HZ4 := Lib.hid hz4
  have HB4 := Lib.hid hB4
  have Q0 := Lib.hid q0
  have Q1 := Lib.hid q1
  have Q2 := Lib.hid q2
  have Q3 := Lib.hid q3
  clear hz4 hB4 hw4 q0 q1 q2 q3
  refine (callsIn_wide.2 (spots_calls b p w4)).mono ?_
  rintro e w5 ⟨rfl, hw5⟩
  have r1 : w5.heap[w4.heap.size]? = some (.cells #[.int .i64 b] 3 (0, 0)) := by rw [hw5]; exact blk_alloc (blk_new _ _) _
  have r2 : w5.heap[w4.heap.size + 1]? = some (.cells #[.int .i64 p] 3 (0, 0)) := by rw [hw5]; have := blk_new (w4.alloc (.cells #[.int .i64 b] 3)) (.cells #[.int .i64 p] 3); simpa using this
  have hb5 : Below w4.heap.size w4 w5 := by rw [hw5]; exact below_alloc (below_alloc (Below.refl _ _) _) _
  have HB5 := Lib.hid (below_step HB4.out hb5)
  have HZ5 := Lib.hid (show w5.heap.size = w4.heap.size + 2 by rw [hw5]; simp)
  have P0 := Lib.hid (show Boxed w5 w.heap.size 3 (.int .i64 b) from blk_below Q0.out hb5)
  have P1 := Lib.hid (show Boxed w5 (w.heap.size + 1) 3 (.int .i64 p) from blk_below Q1.out hb5)
  have P2 := Lib.hid (show Boxed w5 (w.heap.size + 1 + 1) 4 (.bool false) from blk_below Q2.out hb5)
  have P3 := Lib.hid (show Boxed w5 (w.heap.size + 1 + 1 + 1) 3 (.int .i64 0) from blk_below Q3.out hb5)
  have HSEQ := Lib.hid (spots_stops 8 w4.heap.size (w4.heap.size + 1) b p w5 r1 r2)
  clear hw5 hb5 r1 r2 Q0 Q1 Q2 Q3
  gi_wp2_with fail
  refine wpIn_rangeFunc_ownH rfl (by omega) (gf := 28) (lb := #[.pointer (some ⟨w4.heap.size, 0, none⟩), .pointer (some ⟨w4.heap.size + 1, 0, none⟩)]) rfl trivial enters28
    HSEQ.out KpS.t (KpS.b (B := w5.heap.size)) (Below.refl _ _) (fun _ => rfl)
    (fun pre W => Boxed W (w.heap.size + 1 + 1 + 1) 3 (.int .i64 (pre.length : Int)) ∧ Below (w.heap.size + 3) w5 W ∧ pre = spotsTo p pre.length)
    (fun c pre W => c = .ret ∧ pre ≠ spotsTo p pre.length)
    (OwnFrom.and (Own.from (boxed_own _ _ (fun pre : List Spot3 => .int .i64 (pre.length : Int))) _) (OwnFrom.and (ownFrom_below (by have := HZ5.out; have := HZ4.out; omega) (by have := HZ5.out; have := HZ4.out; omega)) (ownFrom_pure _ (fun pre : List Spot3 => pre = spotsTo p pre.length))))
    (fun c => ownFrom_pure _ (fun pre : List Spot3 => c = .ret ∧ pre ≠ spotsTo p pre.length))
    ⟨P3.out, Below.refl _ _, rfl⟩
    (fun x a' W => ∃ B, w5.heap.size ≤ B ∧ W.heap[B]? = some (.cells #[.int .i64 x.2.1, .int .i64 x.2.2] 47 (0, 0)) ∧ a' = { tmps := #[.int .i64 b, .int .i64 p, .pointer (some ⟨w.heap.size, 0, none⟩), .pointer (some ⟨w.heap.size + 1, 0, none⟩), .pointer (some ⟨w.heap.size + 1 + 1, 0, none⟩), .pointer (some ⟨w.heap.size + 1 + 1 + 1, 0, none⟩), .func (.func 28) #[] #[.pointer (some ⟨w4.heap.size, 0, none⟩), .pointer (some ⟨w4.heap.size + 1, 0, none⟩)], .int .i64 x.1, .pointer (some ⟨B, 0, none⟩), undef, .int .i64 b, .int .i64 p, .func (.func 28) #[] #[.pointer (some ⟨w4.heap.size, 0, none⟩), .pointer (some ⟨w4.heap.size + 1, 0, none⟩)], .func (.func 28) #[] #[.pointer (some ⟨w4.heap.size, 0, none⟩), .pointer (some ⟨w4.heap.size + 1, 0, none⟩)], .bool false, .func (.func 28) #[] #[.pointer (some ⟨w4.heap.size, 0, none⟩), .pointer (some ⟨w4.heap.size + 1, 0, none⟩)], .int .i64 x.1, .agg #[.int .i64 x.2.1, .int .i64 x.2.2], undef, undef, undef, undef, undef, undef, undef, undef, undef, undef, undef, undef, undef, undef, undef, undef, undef, undef, undef, undef, undef, undef, undef, undef, undef, undef, undef, undef, undef, undef, undef, undef, undef, undef, undef, undef, undef, undef, undef, undef, undef, undef, undef, undef, undef, undef, undef, undef, undef, undef, undef, undef, undef, undef, undef, undef, undef, undef, undef, undef, undef, undef], defers := [] }) ?hAx ?assign ?body ?done ?stop
  case hAx =>
    rintro x a' _ X Y row ⟨B, hB, hh, ha⟩ hg hrow
    refine ⟨B, hB, (hg.block B (Array.getElem?_eq_some_iff.1 hh).1 (fun e => ?_)).trans hh, ha⟩
    obtain ⟨_, o, ho, hc⟩ := hrow B e.symm
    rw [hh] at ho
    cases ho
    cases hc
  case assign =>
    intro l pre x W K ⟨hI1, hI2, hI3⟩ hK
    simp only [encSpot]
    gi_wp2
    exact hK _ _ ((KeepsOthers.alloc _ _).from _) (KpS.alloc _ _) ⟨hI1.alloc _, hI2.alloc (by have := hI2.size; have := HZ5.out; have := HZ4.out; omega) _, hI3⟩ ⟨W.heap.size, by have := hI2.size; omega, blk_new W _, rfl⟩
  case body =>
    rintro l pre ⟨x, sb, sp⟩ a' W hl - ⟨hv, hB, hpr⟩ ⟨B, hBB, hh, rfl⟩ hpl
    have HB := Lib.hid hB
    have b0 : Boxed W w.heap.size 3 (.int .i64 b) := (hB.block _ (by omega)).trans P0.out
    have b1 : Boxed W (w.heap.size + 1) 3 (.int .i64 p) := (hB.block _ (by omega)).trans P1.out
    have b2 : Boxed W (w.heap.size + 1 + 1) 4 (.bool false) := (hB.block _ (by omega)).trans P2.out
    have c0 := b0.cell
    have c1 := b1.cell
    have c3 := hv.cell
    have s0 : W.cell? ⟨B, 0, none⟩ = some (.int .i64 sb) := (blk_cell hh 0).trans rfl
    have s1 : W.cell? ⟨B, 1, none⟩ = some (.int .i64 sp) := (blk_cell hh 1).trans rfl
    have HV := Lib.hid hv
    have HB2 := Lib.hid b2
    have HPR := Lib.hid hpr
    rw [HSL.out, spotsTo_length] at hpl
    have g1 : decide (b < 1) = false := by simp; omega
    have g2 : decide (p < 1) = false := by simp; omega
    have g3 : decide (64 < b) = false := by simp; omega
    have g4 : decide (32 < p) = false := by simp; omega
    have hw : IntKind.i64.wrap (b * p) = (N : Int) := by rw [HN.out]; exact IntWalk.i64_in _ (by omega)
    have g5 : decide ((N : Int) ≤ (pre.length : Int)) = false := by simp; omega
    clear hv hB b0 b1 b2 hpr hh
    have hmx : Try.prog.follows .mixedOrders = true := by kernel_rfl
    obtain ⟨k, hk⟩ : ∃ k, pre.length = k := ⟨_, rfl⟩
    rw [hk] at c3 g5 hpl
    have HKK := Lib.hid hk
    clear hk
    have g6 : decide (N ≤ k) = false := by simp; omega
    have c2 := HB2.out.cell
    have f2 := HB2.out.frozen
    have HNO := Lib.hid (fun h : (pre ++ [((x, sb, sp) : Spot3)]) = spotsTo p (pre ++ [((x, sb, sp) : Spot3)]).length => by
      have e : (pre ++ [((x, sb, sp) : Spot3)]).length = k + 1 := by simp [HKK.out]
      rw [e, spotsTo_snoc] at h
      have h2 := List.append_inj_right' h rfl
      simpa using h2 : (pre ++ [((x, sb, sp) : Spot3)]) = spotsTo p (pre ++ [((x, sb, sp) : Spot3)]).length → x = (k : Int) ∧ sb = (k : Int) / p ∧ sp = (k : Int) % p)
    have hq0 : 0 ≤ (k : Int) / p := Int.ediv_nonneg (by omega) (by omega)
    have hq1 : (k : Int) / p ≤ (k : Int) := Int.ediv_le_self _ (by omega)
    have hqw : wrap64 ((k : Int) / p) = (k : Int) / p := by unfold wrap64; omega
    have hqw2 : IntKind.i64.wrap ((k : Int) / p) = (k : Int) / p := IntWalk.i64_in _ (by omega)
    have hmw : (k : Int).tmod p = (k : Int) % p := Int.tmod_eq_emod_of_nonneg (by omega)
    have hp0 : (p == 0) = false := by rw [beq_eq_false_iff_ne]; omega
    clear hq0 hq1
    by_cases h1 : x = (k : Int)
    · subst h1
      have hb1' : ((k : Int) != (k : Int)) = false := by simp
      have hsn := fun W => spot_neq sb sp ((k : Int) / p) ((k : Int) % p) W
      by_cases h2 : sb = (k : Int) / p ∧ sp = (k : Int) % p
      · have hbb : (sb == (k : Int) / p && sp == (k : Int) % p) = true := by simpa using h2
        have H2 := Lib.hid h2
        have f3 := HV.out.frozen
        clear h2
        gi_wp2
        refine QuietRound.region_quiet (by kernel_rfl) (by kernel_rfl) (by kernel_rfl) ?_
        repeat (gi_big_quiet_step (fail))
        refine wpQuietIn_nil ?_
        intro _ hw1
        obtain ⟨nq, hw2⟩ := hw1
        subst hw2
        clear hsn hbb hw hqw hqw2 hmw
        gi_wp2
        have hz := Boxed.set (.int .i64 ((k : Int) + 1)) (show Boxed (W.drewN nq) (w.heap.size + 1 + 1 + 1) 3 (.int .i64 (pre.length : Int)) from HV.out)
        refine ⟨((keepsOthers_drewN _ _).trans (KeepsOthers.setCell _ _ _)).from _, ?_, ?_, ?_, ?_⟩
        · exact KpS.setCell (W.drewN nq) _ _ (by have := HZ4.out; simp; omega)
        · have e : ((pre ++ [(((k : Int), sb, sp) : Spot3)]).length : Int) = (k : Int) + 1 := by simp [HKK.out]
          rw [e]
          exact hz
        · exact (pw_below_drewN HB.out nq).setCell (p := ⟨w.heap.size + 1 + 1 + 1, 0, none⟩) (by simp) _
        · have e : (pre ++ [(((k : Int), sb, sp) : Spot3)]).length = k + 1 := by simp [HKK.out]
          rw [e, spotsTo_snoc, H2.out.1, H2.out.2]
          have h3 := HPR.out
          rw [HKK.out] at h3
          rw [← h3]
      · have hbb : (sb == (k : Int) / p && sp == (k : Int) % p) = false := by
          cases hc : (sb == (k : Int) / p && sp == (k : Int) % p) with
          | false => rfl
          | true => exact absurd (by simpa using hc) h2
        have H2 := Lib.hid h2
        clear h2
        gi_wp2
        refine QuietRound.region_quiet (by kernel_rfl) (by kernel_rfl) (by kernel_rfl) ?_
        repeat (gi_big_quiet_step (fail))
        refine wpQuietIn_nil ?_
        intro _ hw1
        obtain ⟨nq, hw2⟩ := hw1
        subst hw2
        gi_wp2
        exact ⟨((keepsOthers_drewN _ _).trans (KeepsOthers.setCell _ _ _)).from _, rfl, fun h => H2.out (HNO.out h).2⟩
    · have hb1' : (x != (k : Int)) = true := by simpa using h1
      have H1 := Lib.hid h1
      clear h1
      gi_wp2
      refine QuietRound.region_quiet (by kernel_rfl) (by kernel_rfl) (by kernel_rfl) ?_
      repeat (gi_big_quiet_step (fail))
      refine wpQuietIn_nil ?_
      intro _ hw1
      obtain ⟨nq, hw2⟩ := hw1
      subst hw2
      gi_wp2
      exact ⟨((keepsOthers_drewN _ _).trans (KeepsOthers.setCell _ _ _)).from _, rfl, fun h => H1.out (HNO.out h).1⟩
  case done =>
    rintro D ys W hD rfl ⟨hv, hB, hpr⟩ hK
    have hlen : (spotsList b p).length = N := by rw [HSL.out, spotsTo_length]
    rw [hlen] at hv
    have HBw := Lib.hid (show Below w.heap.size w W from HB5.out.trans (hB.mono (by omega)))
    have b0 : Boxed W w.heap.size 3 (.int .i64 b) := (hB.block _ (by omega)).trans P0.out
    have b1 : Boxed W (w.heap.size + 1) 3 (.int .i64 p) := (hB.block _ (by omega)).trans P1.out
    have HB2 := Lib.hid (show Boxed W (w.heap.size + 1 + 1) 4 (.bool false) from (hB.block _ (by omega)).trans P2.out)
    have c0 := b0.cell
    have c1 := b1.cell
    have c3 := hv.cell
    have HDl := Lib.hid (Array.getElem?_eq_some_iff.1 hK).1
    have HK := Lib.hid hK
    have HD0 := Lib.hid (show w5.heap.size ≤ D from hD)
    have hw : wrap64 (b * p) = (N : Int) := by rw [HN.out]; unfold wrap64; omega
    clear hv hB b0 b1 hK hD hpr hlen
    gi_wp2_with fail
    refine ⟨trivial, ?_⟩
    refine (callsIn_wide.2 (awake_calls _)).mono ?_
    rintro e w' ⟨rfl, hb⟩
    have hbx : Boxed w' (w.heap.size + 1 + 1) 4 (.bool false) := blk_below HB2.out hb
    have hfx := hbx.frozen
    have hcx := hbx.cell
    have hcx2 := (Boxed.set (.bool true) hbx).cell
    have HK2 := Lib.hid ((Below.heap_setCell w' ⟨w.heap.size + 1 + 1, 0, none⟩ (.bool true) D (by have := HD0.out; have := HZ5.out; have := HZ4.out; simp; omega)).trans ((hb.block D (Array.getElem?_eq_some_iff.1 HK.out).1).trans HK.out))
    have HBF := Lib.hid ((HBw.out.trans (hb.mono HBw.out.size)).setCell (p := ⟨w.heap.size + 1 + 1, 0, none⟩) (by simp; omega) (.bool true))
    clear hb hbx c0 c1 c3 hw
    gi_wp2_with fail
    have hck := cell_kept hcx2 (grownBy_putObj' _ D (.deferred none)) (fun r e => by cases e; exact ⟨_, HK2.out, rfl⟩)
    refine ⟨by simp, .inl ⟨_, _, rfl, run_takeDeferred HK2.out, ?_⟩⟩
    exact ⟨.bool true, by simp [results, Try.results7, go_sem, hck], rfl, HBF.out.trans (belowK_b (w := w) (Nat.le_refl _) _ D _ _ (by have := HD0.out; have := HB5.out.size; omega) HK2.out rfl rfl)⟩
  case stop =>
    rintro D c pre W hD hp ⟨rfl, hno⟩ hK
    refine absurd ?_ hno
    rw [HSL.out] at hp
    have h1 := List.prefix_iff_eq_take.1 hp
    have h2 := List.prefix_iff_eq_take.1 (spotsTo_prefix p (show pre.length ≤ N by have := hp.length_le; rw [spotsTo_length] at this; exact this))
    rw [spotsTo_length] at h2
    rw [h2]
    exact h1

set_option maxHeartbeats 4000000 in
set_option maxRecDepth 100000 in
theorem outr (w : World) (b p : Int) (h : b < 1 ∨ p < 1 ∨ b > 64 ∨ p > 32) :
    CallsIn Fence.wide 9 Try.prog 7 #[.int .i64 b, .int .i64 p] w fun e w' => e = .returned (.bool true) ∧ Below w.heap.size w w' := by
  have hq := run_eql_iter_nil
  have HSL := Lib.hid (show spotsList b p = [] by unfold spotsList; rw [if_pos h])
  have H := Lib.hid h
  clear h
  refine callsIn_of_wp_marks Try.func7 rfl trivial ?_ rfl
  simp only [Try.ntmps7, List.size_toArray, List.length_cons, List.length_nil, Nat.reduceAdd, Nat.reduceSub, Array.replicate_succ, Array.replicate_zero, List.push_toArray, List.append_toArray, List.nil_append, List.cons_append]
  gi_wp2_with fail
  refine ⟨trivial, ?_⟩
  obtain ⟨w4, hw4⟩ : ∃ w4, (((w.alloc (.cells #[.int .i64 b] 3)).alloc (.cells #[.int .i64 p] 3)).alloc (.cells #[.bool false] 4)).alloc (.cells #[.int .i64 0] 3) = w4 := ⟨_, rfl⟩
  rw [hw4]
  have hz4 : w4.heap.size = w.heap.size + 4 := by rw [← hw4]; simp
  have hB4 : Below w.heap.size w w4 := by rw [← hw4]; exact below_alloc (below_alloc (below_alloc (below_alloc (Below.refl _ _) _) _) _) _
  have q0 : Boxed w4 w.heap.size 3 (.int .i64 b) := by rw [← hw4]; exact (((Boxed.new w 3 _).alloc _).alloc _).alloc _
  have q1 : Boxed w4 (w.heap.size + 1) 3 (.int .i64 p) := by rw [← hw4]; have := ((Boxed.new (w.alloc (.cells #[.int .i64 b] 3)) 3 (.int .i64 p)).alloc (.cells #[.bool false] 4)).alloc (.cells #[.int .i64 0] 3); rw [World.size_alloc] at this; exact this
  have q2 : Boxed w4 (w.heap.size + 1 + 1) 4 (.bool false) := by rw [← hw4]; have := (Boxed.new ((w.alloc (.cells #[.int .i64 b] 3)).alloc (.cells #[.int .i64 p] 3)) 4 (.bool false)).alloc (.cells #[.int .i64 0] 3); rw [World.size_alloc, World.size_alloc] at this; exact this
  have q3 : Boxed w4 (w.heap.size + 1 + 1 + 1) 3 (.int .i64 0) := by rw [← hw4]; have := Boxed.new (((w.alloc (.cells #[.int .i64 b] 3)).alloc (.cells #[.int .i64 p] 3)).alloc (.cells #[.bool false] 4)) 3 (.int .i64 0); rw [World.size_alloc, World.size_alloc, World.size_alloc] at this; exact this
  have HZ4 := Lib.hid hz4
  have HB4 := Lib.hid hB4
  have Q0 := Lib.hid q0
  have Q1 := Lib.hid q1
  have Q2 := Lib.hid q2
  have Q3 := Lib.hid q3
  clear hz4 hB4 hw4 q0 q1 q2 q3
  refine (callsIn_wide.2 (spots_calls b p w4)).mono ?_
  rintro e w5 ⟨rfl, hw5⟩
  have r1 : w5.heap[w4.heap.size]? = some (.cells #[.int .i64 b] 3 (0, 0)) := by rw [hw5]; exact blk_alloc (blk_new _ _) _
  have r2 : w5.heap[w4.heap.size + 1]? = some (.cells #[.int .i64 p] 3 (0, 0)) := by rw [hw5]; have := blk_new (w4.alloc (.cells #[.int .i64 b] 3)) (.cells #[.int .i64 p] 3); simpa using this
  have hb5 : Below w4.heap.size w4 w5 := by rw [hw5]; exact below_alloc (below_alloc (Below.refl _ _) _) _
  have HB5 := Lib.hid (below_step HB4.out hb5)
  have HZ5 := Lib.hid (show w5.heap.size = w4.heap.size + 2 by rw [hw5]; simp)
  have P0 := Lib.hid (show Boxed w5 w.heap.size 3 (.int .i64 b) from blk_below Q0.out hb5)
  have P1 := Lib.hid (show Boxed w5 (w.heap.size + 1) 3 (.int .i64 p) from blk_below Q1.out hb5)
  have P2 := Lib.hid (show Boxed w5 (w.heap.size + 1 + 1) 4 (.bool false) from blk_below Q2.out hb5)
  have P3 := Lib.hid (show Boxed w5 (w.heap.size + 1 + 1 + 1) 3 (.int .i64 0) from blk_below Q3.out hb5)
  have HSEQ := Lib.hid (spots_stops 8 w4.heap.size (w4.heap.size + 1) b p w5 r1 r2)
  clear hw5 hb5 r1 r2 Q0 Q1 Q2 Q3
  gi_wp2_with fail
  refine wpIn_rangeFunc_ownH rfl (by omega) (gf := 28) (lb := #[.pointer (some ⟨w4.heap.size, 0, none⟩), .pointer (some ⟨w4.heap.size + 1, 0, none⟩)]) rfl trivial enters28
    HSEQ.out KpS.t (KpS.b (B := w5.heap.size)) (Below.refl _ _) (fun _ => rfl)
    (fun pre W => Boxed W (w.heap.size + 1 + 1 + 1) 3 (.int .i64 0) ∧ Below (w.heap.size + 3) w5 W)
    (fun c pre W => False)
    (OwnFrom.and (Own.from (boxed_own _ _ (fun pre : List Spot3 => .int .i64 0)) _) (ownFrom_below (by have := HZ5.out; have := HZ4.out; omega) (by have := HZ5.out; have := HZ4.out; omega)))
    (fun c => ownFrom_pure _ (fun pre : List Spot3 => False))
    ⟨P3.out, Below.refl _ _⟩
    (fun x a' W => True) (fun x a' => ownFrom_pure _ (fun _ => True)) ?assign ?body ?done ?stop
  case assign =>
    intro l pre x W K ⟨hI1, hI2⟩ hK
    simp only [encSpot]
    gi_wp2
    exact hK _ _ ((KeepsOthers.alloc _ _).from _) (KpS.alloc _ _) ⟨hI1.alloc _, hI2.alloc (by have := hI2.size; have := HZ5.out; have := HZ4.out; omega) _⟩ trivial
  case body =>
    intro l pre x a' W _ _ _ _ hpl
    rw [HSL.out] at hpl
    exact absurd hpl (by simp)
  case done =>
    rintro D ys W hD hys ⟨hv, hB⟩ hK
    have HBw := Lib.hid (show Below w.heap.size w W from HB5.out.trans (hB.mono (by omega)))
    have b0 : Boxed W w.heap.size 3 (.int .i64 b) := (hB.block _ (by omega)).trans P0.out
    have b1 : Boxed W (w.heap.size + 1) 3 (.int .i64 p) := (hB.block _ (by omega)).trans P1.out
    have HB2 := Lib.hid (show Boxed W (w.heap.size + 1 + 1) 4 (.bool false) from (hB.block _ (by omega)).trans P2.out)
    have c0 := b0.cell
    have c1 := b1.cell
    have c3 := hv.cell
    have HDl := Lib.hid (Array.getElem?_eq_some_iff.1 hK).1
    have HK := Lib.hid hK
    have HD0 := Lib.hid (show w5.heap.size ≤ D from hD)
    clear hv hB b0 b1 hK hD
    have key : (b < 1 ∨ (1 ≤ b ∧ p < 1) ∨ (1 ≤ b ∧ 1 ≤ p ∧ b > 64) ∨ (1 ≤ b ∧ 1 ≤ p ∧ ¬ b > 64 ∧ p > 32)) := by have := H.out; omega
    rcases key with h1 | ⟨h1, h2⟩ | ⟨h1, h2, h3⟩ | ⟨h1, h2, h3, h4⟩
    all_goals
      gi_wp2_with fail
      refine ⟨trivial, ?_⟩
      refine (callsIn_wide.2 (awake_calls _)).mono ?_
      rintro e w' ⟨rfl, hb⟩
      have hbx : Boxed w' (w.heap.size + 1 + 1) 4 (.bool false) := blk_below HB2.out hb
      have hfx := hbx.frozen
      have hcx := hbx.cell
      have hcx2 := (Boxed.set (.bool true) hbx).cell
      have HK2 := Lib.hid ((Below.heap_setCell w' ⟨w.heap.size + 1 + 1, 0, none⟩ (.bool true) D (by have := HD0.out; have := HZ5.out; have := HZ4.out; simp; omega)).trans ((hb.block D (Array.getElem?_eq_some_iff.1 HK.out).1).trans HK.out))
      have HBF := Lib.hid ((HBw.out.trans (hb.mono HBw.out.size)).setCell (p := ⟨w.heap.size + 1 + 1, 0, none⟩) (by simp; omega) (.bool true))
      clear hb hbx c0 c1 c3
      gi_wp2_with fail
      have hck := cell_kept hcx2 (grownBy_putObj' _ D (.deferred none)) (fun r e => by cases e; exact ⟨_, HK2.out, rfl⟩)
      refine ⟨by simp, .inl ⟨_, _, rfl, run_takeDeferred HK2.out, ?_⟩⟩
      exact ⟨.bool true, by simp [results, Try.results7, go_sem, hck], rfl, HBF.out.trans (belowK_b (w := w) (Nat.le_refl _) _ D _ _ (by have := HD0.out; have := HB5.out.size; omega) HK2.out rfl rfl)⟩
  case stop =>
    rintro D c pre W hD hp h hK
    exact h.elim

theorem final (W : World) (b : Int) (w0 : (Lit.int .i64 b).wf = true) (p : Int) (w1 : (Lit.int .i64 p).wf = true) :
    Calls Try.prog 7 #[.int .i64 b, .int .i64 p] W fun e w' => e = .returned (.bool true) ∧ Below W.heap.size W w' := by
  by_cases h : b < 1 ∨ p < 1 ∨ b > 64 ∨ p > 32
  · exact callsIn_wide.1 (outr W b p h)
  · exact callsIn_wide.1 (main W b p (by omega) (by omega) (by omega) (by omega))
end Go.Proofs.Ytflaaphlghkpnaa.SpotsLaw
