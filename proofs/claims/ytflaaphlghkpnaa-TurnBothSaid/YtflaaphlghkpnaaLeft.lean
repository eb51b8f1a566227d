import Derived.Test.YtflaaphlghkpnaaShift
set_option linter.unusedVariables false
set_option linter.unusedSimpArgs false
/-! TurnLeft: the call: true, whatever comes in. -/
namespace Go.Proofs.Ytflaaphlghkpnaa.Left
open Go.RowKit Go.Shelf Go.Proofs.YtflaaphlghkpnaaW.PrintWords Go.Proofs.YtflaaphlghkpnaaW.PrintLast Go.Proofs.YtflaaphlghkpnaaW.PrintMore Go.Proofs.Ytflaaphlghkpnaa.Iter Go.Proofs.Ytflaaphlghkpnaa.Awake1 Go.Proofs.Ytflaaphlghkpnaa.Once Go.Proofs.Ytflaaphlghkpnaa.Shift
attribute [local go_sem] Oper.semAt_some

set_option maxHeartbeats 2000000 in
set_option maxRecDepth 100000 in
theorem out (W : World) (n fr k : Int) (h : n < 1 ∨ n > 300) : Calls Try.prog 8 #[.int .i64 n, .int .i64 fr, .int .i64 k] W fun e w' => e = .returned (.bool true) ∧ Below W.heap.size W w' := by
  rcases h with h | h
  · go_enter Try.func8, Try.ntmps8
    go_wp2_with fail
    refine (awake_calls _).mono ?_
    rintro e w' ⟨rfl, hb⟩
    go_wp2_with fail
    go_ret
    exact ⟨rfl, below_step (below_alloc (Below.refl _ _) _) hb⟩
  · have h1 : ¬ n < 1 := by omega
    go_enter Try.func8, Try.ntmps8
    go_wp2_with fail
    refine (awake_calls _).mono ?_
    rintro e w' ⟨rfl, hb⟩
    go_wp2_with fail
    go_ret
    exact ⟨rfl, below_step (below_alloc (Below.refl _ _) _) hb⟩

theorem first_boxes (m : Nat) (hm : m ≤ 1000000) (fr : Int) (Bn Bf : Nat) (w : World) (b1 : w.heap[Bn]? = some (.cells #[.int .i64 (m : Int)] 3 (0, 0))) (b2 : w.heap[Bf]? = some (.cells #[.int .i64 fr] 3 (0, 0))) :
    Calls Try.prog 19 #[.func (.func 24) #[] #[.pointer (some ⟨Bn, 0, none⟩), .pointer (some ⟨Bf, 0, none⟩)], .int .i64 (m : Int)] w fun e W' => ∃ A c, e = .returned (.slice A m c) ∧ Kd.C (Kd.int .i64) W' A m (turnList m fr) ∧ Below w.heap.size w W' := by
  have hlen : (turnList (m : Int) fr).length = m := by rw [turnList_length]; omega
  have htk : ((turnList m fr).take (m : Int).toNat) = turnList m fr := List.take_of_length_le (by rw [hlen]; omega)
  refine (first_calls 24 _ enters24 (turnList m fr) (by rw [hlen]; omega) (m : Int) (by omega) w (fun A B h => KpS.of_below h (fun q hq => by rcases hq with rfl | rfl; exact (Array.getElem?_eq_some_iff.1 b1).1; exact (Array.getElem?_eq_some_iff.1 b2).1)) (fun k => turn_stops k _ _ (m : Int) fr (by omega) w b1 b2)).mono ?_
  rintro e W' ⟨A, c, rfl, hl, hC, hg, hb⟩
  rw [htk, hlen] at hC
  rw [htk, hlen]
  exact ⟨A, c, rfl, hC, hb⟩
theorem run_eql_iter38 (W : World) (f : Fn) (x y : Array Value) : (binOp .eql 38 (.func f x y) .nilFunc).run Try.prog W = .ok (.bool false) W := run_eql_func_nil Try.underlying38 f x y W

set_option maxHeartbeats 4000000 in
set_option maxRecDepth 100000 in
theorem some_ (w : World) (m : Nat) (fr k : Int) (q : Nat) (h1 : 1 ≤ m) (h2 : m ≤ 300) (hf : wrap64 (Int.tmod (IntKind.u64.wrap k) (m : Int)) = (q : Int)) (hf2 : q < m) :
    CallsIn Fence.wide 9 Try.prog 8 #[.int .i64 (m : Int), .int .i64 fr, .int .i64 k] w fun e w' => e = .returned (.bool true) ∧ Below w.heap.size w w' := by
  have hq := run_eql_iter38
  have hg : ¬ (m : Int) > 300 := by omega
  have hg1 : ¬ (m : Int) < 1 := by omega
  have hne : ((m : Int) == 0) = false := by rw [beq_eq_false_iff_ne]; omega
  have hu : IntKind.u64.wrap (m : Int) = (m : Int) := IntWalk.u64_in (m : Int) (by omega)
  refine callsIn_of_wp_marks Try.func8 rfl trivial ?_ rfl
  simp only [Try.ntmps8, List.size_toArray, List.length_cons, List.length_nil, Nat.reduceAdd, Nat.reduceSub, Array.replicate_succ, Array.replicate_zero, List.push_toArray, List.append_toArray, List.nil_append, List.cons_append]
  gi_wp2_with fail
  refine ⟨trivial, ?_⟩
  refine (callsIn_wide.2 (turn_calls (m : Int) fr _)).mono ?_
  rintro e w1 ⟨rfl, hw1⟩
  have e0 : (w.alloc (.cells #[.int .i64 (q : Int)] 3)).heap.size = w.heap.size + 1 := by simp
  rw [e0]
  have hz1 : w1.heap.size = w.heap.size + 3 := by rw [hw1]; simp
  have hbK : Boxed w1 w.heap.size 3 (.int .i64 (q : Int)) := by rw [hw1]; exact ((Boxed.new w 3 _).alloc _).alloc _
  have hn1 : w1.heap[w.heap.size + 1]? = some (.cells #[.int .i64 (m : Int)] 3 (0, 0)) := by rw [hw1]; have := blk_alloc (blk_new (w.alloc (.cells #[.int .i64 (q : Int)] 3)) (.cells #[.int .i64 (m : Int)] 3)) (.cells #[.int .i64 fr] 3); simpa using this
  have hn2 : w1.heap[w.heap.size + 1 + 1]? = some (.cells #[.int .i64 fr] 3 (0, 0)) := by rw [hw1]; have := blk_new ((w.alloc (.cells #[.int .i64 (q : Int)] 3)).alloc (.cells #[.int .i64 (m : Int)] 3)) (.cells #[.int .i64 fr] 3); simpa using this
  have hB1 : Below w.heap.size w w1 := by rw [hw1]; exact below_alloc (below_alloc (below_alloc (Below.refl _ _) _) _) _
  have hlen : (turnList (m : Int) fr).length = m := by rw [turnList_length]; omega
  have HLEN := Lib.hid hlen
  have HN1 := Lib.hid hn1
  have HN2 := Lib.hid hn2
  have HB1 := Lib.hid hB1
  have HBK := Lib.hid hbK
  have HZ1 := Lib.hid hz1
  clear hn1 hn2 hw1 e0 hB1 hbK hz1 hlen hf
  gi_wp2_with fail
  have hbS : Boxed (w1.alloc (.cells #[.int .i64 0] 3)) w1.heap.size 3 (.int .i64 0) := Boxed.new w1 3 _
  have hseq := turn_stops 8 (w.heap.size + 1) (w.heap.size + 1 + 1) (m : Int) fr (by omega) (w1.alloc (.cells #[.int .i64 0] 3)) (blk_alloc HN1.out _) (blk_alloc HN2.out _)
  refine' wpIn_rangeFunc_ownG rfl (by omega) (gf := 24) (lb := #[.pointer (some ⟨w.heap.size + 1, 0, none⟩), .pointer (some ⟨w.heap.size + 1 + 1, 0, none⟩)]) rfl trivial enters24
    hseq KpS.t (KpS.b (B := (w1.alloc (.cells #[.int .i64 0] 3)).heap.size)) (Below.refl _ _) (fun _ => rfl)
    (fun pre W => Boxed W w1.heap.size 3 (.int .i64 (pre.length : Int)) ∧ Below w1.heap.size w1 W ∧ pre.length ≤ q)
    (fun c pre W => Boxed W w1.heap.size 3 (.int .i64 (pre.length : Int)) ∧ Below w1.heap.size w1 W ∧ c = .exit 0 ∧ pre.length = q + 1)
    (OwnFrom.and (Own.from (boxed_own _ _ (fun pre : List Int => .int .i64 (pre.length : Int))) _) (OwnFrom.and (ownFrom_below (Nat.le_refl _) (by simp)) (ownFrom_pure _ _)))
    (fun c => OwnFrom.and (Own.from (boxed_own _ _ (fun pre : List Int => .int .i64 (pre.length : Int))) _) (OwnFrom.and (ownFrom_below (Nat.le_refl _) (by simp)) (ownFrom_pure _ (fun pre : List Int => c = .exit 0 ∧ pre.length = q + 1))))
    ⟨hbS, below_alloc (Below.refl _ _) _, Nat.zero_le _⟩
    _ ?assign ?body ?done ?stop
  case assign =>
    intro l x W K hK
    gi_wp2
    exact hK
  case body =>
    rintro l pre x W ⟨hv, hB, hle⟩ hpl
    have hc := hv.cell
    have hf := hv.frozen
    have hv2 := Boxed.set (.int .i64 ((pre.length : Int) + 1)) hv
    have hc2 := hv2.cell
    have HV2 := Lib.hid hv2
    have hkc : (W.setCell ⟨w1.heap.size, 0, none⟩ (.int .i64 ((pre.length : Int) + 1))).cell? ⟨w.heap.size, 0, none⟩ = some (.int .i64 (q : Int)) :=
      (Boxed.other (show Boxed W w.heap.size 3 (.int .i64 (q : Int)) from (hB.block _ HBK.out.lt).trans HBK.out) (by have := HZ1.out; omega) _).cell
    have hB' := Lib.hid hB
    have hne1 : ¬ ((fun k => k = w.heap.size + 1 ∨ k = w.heap.size + 1 + 1) w1.heap.size) := by have := HZ1.out; simp; omega
    have HNE := Lib.hid hne1
    clear hv hv2 hB hpl hseq hbS hne1
    by_cases h50 : (pre.length : Int) + 1 > (q : Int)
    · gi_wp2
      exact ⟨(KeepsOthers.setCell _ _ _).from _, by simpa using HV2.out, hB'.out.setCell (p := ⟨w1.heap.size, 0, none⟩) (Nat.le_refl _) _, rfl, by simp; omega⟩
    · gi_wp2
      exact ⟨(KeepsOthers.setCell _ _ _).from _, KpS.setCell _ _ _ HNE.out, by simpa using HV2.out, hB'.out.setCell (p := ⟨w1.heap.size, 0, none⟩) (Nat.le_refl _) _, by simp; omega⟩
  case done =>
    rintro D ys W hD rfl ⟨hv, hB, hle⟩ hK
    have := HLEN.out
    omega
  case stop =>
    rintro D c pre W hD hp ⟨hv, hB, rfl, hlt⟩ hK
    have hs0 : pre.length = q + 1 := hlt
    rw [hs0] at hv
    have HS := Lib.hid hv
    have HKB := Lib.hid (show Boxed W w.heap.size 3 (.int .i64 (q : Int)) from (hB.block _ HBK.out.lt).trans HBK.out)
    have G1 := Lib.hid ((hB.block _ (Array.getElem?_eq_some_iff.1 HN1.out).1).trans HN1.out)
    have G2 := Lib.hid ((hB.block _ (Array.getElem?_eq_some_iff.1 HN2.out).1).trans HN2.out)
    have HBW := Lib.hid (below_step HB1.out hB)
    have HD0 := Lib.hid (show w1.heap.size ≤ D by simp at hD; omega)
    have HDl := Lib.hid (Array.getElem?_eq_some_iff.1 hK).1
    have HK := Lib.hid hK
    clear hv hB hs0 hlt hK hp hD hseq hbS HN1 HN2 HBK
    gi_wp2_with fail
    refine ⟨trivial, ?_⟩
    refine (callsIn_wide.2 (first_boxes m (by omega) fr _ _ W G1.out G2.out)).mono ?_
    rintro e w3 ⟨A3, c3, rfl, hC3, hb3⟩
    have HC3 := Lib.hid hC3
    have G1' := Lib.hid ((hb3.block _ (Array.getElem?_eq_some_iff.1 G1.out).1).trans G1.out)
    have G2' := Lib.hid ((hb3.block _ (Array.getElem?_eq_some_iff.1 G2.out).1).trans G2.out)
    have HB3 := Lib.hid hb3
    clear hC3 hb3
    gi_wp2_with fail
    refine ⟨trivial, ?_⟩
    refine (callsIn_wide.2 (first_boxes m (by omega) fr _ _ w3 G1'.out G2'.out)).mono ?_
    rintro e w4 ⟨A4, c4, rfl, hC4, hb4⟩
    have HC4 := Lib.hid hC4
    have HC34 := Lib.hid (Kd.C_below HC3.out hb4)
    have HB4 := Lib.hid (below_step HB3.out hb4)
    clear hC4 hb4 HC3 HB3 G1 G2 G1' G2'
    have hcs : w4.cell? ⟨w1.heap.size, 0, none⟩ = some (.int .i64 ((q : Int) + 1)) := by have := pw_cell_below HB4.out HS.out.cell; simpa using this
    have hck := pw_cell_below HB4.out HKB.out.cell
    gi_wp2_with fail
    refine ⟨trivial, ?_⟩
    refine (callsIn_wide.2 (first_nil (m : Int) w4)).mono ?_
    rintro e w5 ⟨rfl, hb5⟩
    have HC5 := Lib.hid (Kd.C_below HC4.out hb5)
    have HC35 := Lib.hid (Kd.C_below HC34.out hb5)
    have HB5 := Lib.hid (below_step HB4.out hb5)
    clear hb5 hcs hck HC4 HC34 HB4 HS HKB
    gi_wp2_with fail
    refine wpIn_wide.2 ?_
    go_loopw [67] (fun v67 wr => ∃ j : Nat, j ≤ m ∧ v67 = .int .i64 (j : Int) ∧ Hid (Below w5.heap.size w5 wr)) (fun v67 _ => m - (intOf v67).toNat)
    case atStart => exact ⟨0, Nat.zero_le _, rfl, Below.refl _ _⟩
    case round =>
      obtain ⟨j, hj, rfl, HB⟩ := hrel
      by_cases hlt : j < m
      · obtain ⟨ad, e, ha1⟩ := int_at HC5.out j hlt
        cases e
        obtain ⟨bd, e, hb1⟩ := int_at HC35.out j hlt
        cases e
        replace ha1 := pw_cell_below HB.out ha1
        replace hb1 := pw_cell_below HB.out hb1
        generalize (turnList (m : Int) fr).getD j 0 = X at ha1 hb1
        have i0 : (0 : Int) ≤ (j : Int) := by omega
        have i1 : (j : Int) < (m : Int) := by omega
        go_wp2_with fail
        go_quiet (fail)
        go_wp2_with fail
        go_roundw
        case rel => exact ⟨j + 1, by omega, by go_num, pw_below_drewN HB.out _⟩
        case measure => simp [intOf]; omega
      · have HBR := Lib.hid (below_step HBW.out (below_step HB5.out HB.out))
        have HKR := Lib.hid (((below_step HB5.out HB.out).block D HDl.out).trans HK.out)
        have HDW := Lib.hid (show w.heap.size ≤ D by have := HDl.out; have := HD0.out; have := HZ1.out; omega)
        go_wp2_with fail
        gi_wp2_with fail
        refine ⟨trivial, ?_⟩
        refine (callsIn_wide.2 (awake_calls _)).mono ?_
        rintro e w' ⟨rfl, hb⟩
        have HK2 := (hb.block D (Array.getElem?_eq_some_iff.1 HKR.out).1).trans HKR.out
        have HB2 := Lib.hid (below_step HBR.out hb)
        clear hb
        gi_wp2_with fail
        refine ⟨by simp, .inl ⟨_, _, rfl, run_takeDeferred HK2, ?_⟩⟩
        exact ⟨_, results_tmp rfl _ _ _, rfl, HB2.out.trans (belowK_b (w := w) (Nat.le_refl _) w' D _ _ HDW.out HK2 rfl rfl)⟩

theorem final (W : World) (n : Int) (w0 : (Lit.int .i64 n).wf = true) (fr : Int) (w1 : (Lit.int .i64 fr).wf = true) (k : Int) (w2 : (Lit.int .i64 k).wf = true) :
    Calls Try.prog 8 #[.int .i64 n, .int .i64 fr, .int .i64 k] W fun e w' => e = .returned (.bool true) ∧ Below W.heap.size W w' := by
  by_cases h5 : n < 1 ∨ n > 300
  · exact out W n fr k h5
  · obtain ⟨m, rfl⟩ := Int.eq_ofNat_of_zero_le (show 0 ≤ n by omega)
    obtain ⟨f, hf, hf2⟩ := small k m (by omega) (by omega)
    exact callsIn_wide.1 (some_ W m fr k f (by omega) (by omega) hf hf2)
end Go.Proofs.Ytflaaphlghkpnaa.Left
