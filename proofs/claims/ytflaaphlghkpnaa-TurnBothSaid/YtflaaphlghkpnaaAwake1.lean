import Derived.Test.YtflaaphlghkpnaaIterTurn
import Derived.Test.YtflaaphlghkpnaaIterWhere
import Derived.Test.YtflaaphlghkpnaaIterSpots
import Derived.Test.YtflaaphlghkpnaaIterFirst
set_option linter.unusedVariables false
set_option linter.unusedSimpArgs false
/-! The awake call of the laws on turn: true. -/
namespace Go.Proofs.Ytflaaphlghkpnaa.Awake1
open Go.RowKit Go.Shelf Go.Proofs.YtflaaphlghkpnaaW.PrintWords Go.Proofs.YtflaaphlghkpnaaW.PrintLast Go.Proofs.YtflaaphlghkpnaaW.PrintMore Go.Proofs.Ytflaaphlghkpnaa.Iter
attribute [local go_sem] Oper.semAt_some

theorem enters24 : ∀ args w, (callFunc 24 args).run Try.prog w = .ok (.enter 24 args) w := enters_of Try.func24 (by kernel_rfl) rfl
theorem enters27 : ∀ args w, (callFunc 27 args).run Try.prog w = .ok (.enter 27 args) w := enters_of Try.func27 (by kernel_rfl) rfl
theorem enters28 : ∀ args w, (callFunc 28 args).run Try.prog w = .ok (.enter 28 args) w := enters_of Try.func28 (by kernel_rfl) rfl

/-- First of Turn. -/
theorem first_turn (n fr : Int) (hn : n ≤ 1000000) (k : Int) (hk : k ≤ 9223372036854775807) (w w0 : World) (hw : w = (w0.alloc (.cells #[.int .i64 n] 3)).alloc (.cells #[.int .i64 fr] 3)) :
    Calls Try.prog 19 #[.func (.func 24) #[] #[.pointer (some ⟨w0.heap.size, 0, none⟩), .pointer (some ⟨w0.heap.size + 1, 0, none⟩)], .int .i64 k] w fun e W' => ∃ A c, e = .returned (.slice A ((turnList n fr).take k.toNat).length c) ∧ ((turnList n fr).take k.toNat).length ≤ c ∧ Kd.C (Kd.int .i64) W' A ((turnList n fr).take k.toNat).length ((turnList n fr).take k.toNat) ∧ (∀ ad, A = some ad → ∃ g, ad = ⟨g, 0, none⟩) ∧ Below w.heap.size w W' := by
  have b1 : w.heap[w0.heap.size]? = some (.cells #[.int .i64 n] 3 (0, 0)) := by rw [hw]; exact blk_alloc (blk_new _ _) _
  have b2 : w.heap[w0.heap.size + 1]? = some (.cells #[.int .i64 fr] 3 (0, 0)) := by rw [hw]; have := blk_new (w0.alloc (.cells #[.int .i64 n] 3)) (.cells #[.int .i64 fr] 3); simpa using this
  have hsz : w.heap.size = w0.heap.size + 2 := by rw [hw]; simp
  exact first_calls 24 _ enters24 (turnList n fr) (by rw [turnList_length]; omega) k hk w (fun A B h => KpS.of_below h (fun q hq => by omega)) (fun m => turn_stops m _ _ n fr (by omega) w b1 b2)

/-- A literal's new memory reads as what was written. -/
theorem lit_bools (W : World) (xs : List Bool) (h : xs.length ≤ maxLen) : Kd.bool.C (W.alloc (.cells (xs.map Value.bool).toArray 4)) (some ⟨W.heap.size, 0, none⟩) xs.length xs := by
  have ho : (W.alloc (.cells (xs.map Value.bool).toArray 4)).ownsRow W.heap.size 4 1 (.slice (some ⟨W.heap.size, 0, none⟩) xs.length xs.length) xs.length (xs.map Value.bool) :=
    ⟨by simp, .inr ⟨_, _, _, rfl, Nat.le_refl _, blk_new W _, Nat.le_refl _, h, by simp, by simp; exact List.take_of_length_le (by simp)⟩⟩
  have hR : Kd.bool.R 4 (W.alloc (.cells (xs.map Value.bool).toArray 4)) W.heap.size (fun _ => True) (.slice (some ⟨W.heap.size, 0, none⟩) xs.length xs.length) xs := Kd.R_of_own ho (fun _ _ => trivial)
  obtain ⟨A, c, e, _, hC⟩ := Kd.R_reads hR
  injection e with e1 e2 e3
  rw [e1]
  exact hC
/-- First of Where. -/
theorem first_where (g : Nat) (A : Option Addr) (c : Nat) (xs : List Bool) (k : Int) (hk : k ≤ 9223372036854775807) (w : World) (hg : w.heap[g]? = some (.cells #[.slice A xs.length c] 34 (0, 0))) (hC : Kd.bool.C w A xs.length xs) (hA : ∀ ad, A = some ad → ad.block < w.heap.size) (hlim : xs.length ≤ 1000000) :
    Calls Try.prog 19 #[.func (.func 27) #[] #[.pointer (some ⟨g, 0, none⟩)], .int .i64 k] w fun e W' => ∃ A c, e = .returned (.slice A ((wl 0 xs).take k.toNat).length c) ∧ ((wl 0 xs).take k.toNat).length ≤ c ∧ Kd.C (Kd.int .i64) W' A ((wl 0 xs).take k.toNat).length ((wl 0 xs).take k.toNat) ∧ (∀ ad, A = some ad → ∃ g, ad = ⟨g, 0, none⟩) ∧ Below w.heap.size w W' :=
  first_calls 27 _ enters27 (wl 0 xs) (by have := wl_length_le xs 0; omega) k hk w (fun X Y h => KpS.of_below h (fun q hq => by
      rcases hq with rfl | ⟨ad, e, rfl⟩
      · exact (Array.getElem?_eq_some_iff.1 hg).1
      · exact hA ad e)) (fun m => where_stops m g A c xs w hg hC hlim)
theorem run_eql_iter_nil (W : World) (f : Fn) (x y : Array Value) : (binOp .eql 44 (.func f x y) .nilFunc).run Try.prog W = .ok (.bool false) W := run_eql_func_nil Try.underlying44 f x y W
theorem run_eql_iter_nil1 (W : World) (f : Fn) (x y : Array Value) : (binOp .eql 38 (.func f x y) .nilFunc).run Try.prog W = .ok (.bool false) W := run_eql_func_nil Try.underlying38 f x y W

set_option maxHeartbeats 4000000 in
set_option maxRecDepth 100000 in
theorem awake_in (w : World) : CallsIn Fence.wide 9 Try.prog 18 #[] w fun e W' => e = .returned (.bool true) ∧ Below w.heap.size w W' := by
  have hq := run_eql_iter_nil
  refine callsIn_of_wp_marks Try.func18 rfl trivial ?_ rfl
  simp only [Try.ntmps18, List.size_toArray, List.length_cons, List.length_nil, Nat.reduceAdd, Nat.reduceSub, Array.replicate_succ, Array.replicate_zero, List.push_toArray, List.append_toArray, List.nil_append, List.cons_append]
  gi_wp2_with fail
  refine ⟨trivial, ?_⟩
  refine (callsIn_wide.2 (turn_calls 4 2 _)).mono ?_
  rintro e w1 ⟨rfl, hw1⟩
  have HW1 := Lib.hid hw1
  have hz1 : w1.heap.size = w.heap.size + 2 := by rw [hw1]; simp
  have HB1 := Lib.hid (show Below w.heap.size w w1 by rw [hw1]; exact below_alloc (below_alloc (Below.refl _ _) _) _)
  have HZ1 := Lib.hid hz1
  clear hw1 hz1
  gi_wp2_with fail
  refine ⟨trivial, ?_⟩
  refine (callsIn_wide.2 (first_turn 4 2 (by omega) 9 (by omega) w1 w HW1.out)).mono ?_
  rintro e w2 ⟨A, c, rfl, hl, hC, hg, hb⟩
  have ht : ((turnList 4 2).take (9 : Int).toNat) = [2, 3, 0, 1] := by decide
  rw [ht] at hC hl ⊢
  clear ht
  have HG := Lib.hid hg
  clear hg
  have HC := Lib.hid hC
  have HB2 := Lib.hid (below_step HB1.out hb)
  clear hC hb hl HB1 HZ1 HW1
  gi_wp2_with fail
  refine ⟨trivial, ?_⟩
  refine (callsIn_wide.2 (spots_calls 2 3 _)).mono ?_
  rintro e w3 ⟨rfl, hw3⟩
  have hz3 : w3.heap.size = w2.heap.size + 3 := by rw [hw3]; simp
  have hbN : Boxed w3 w2.heap.size 3 (.int .i64 0) := by rw [hw3]; exact ((Boxed.new w2 3 _).alloc _).alloc _
  have hb1 : w3.heap[w2.heap.size + 1]? = some (.cells #[.int .i64 2] 3 (0, 0)) := by rw [hw3]; have := blk_alloc (blk_new (w2.alloc (.cells #[.int .i64 0] 3)) (.cells #[.int .i64 2] 3)) (.cells #[.int .i64 3] 3); simpa using this
  have hb2 : w3.heap[w2.heap.size + 2]? = some (.cells #[.int .i64 3] 3 (0, 0)) := by rw [hw3]; have := blk_new ((w2.alloc (.cells #[.int .i64 0] 3)).alloc (.cells #[.int .i64 2] 3)) (.cells #[.int .i64 3] 3); simpa using this
  have hB3 : Below w2.heap.size w2 w3 := by rw [hw3]; exact below_alloc (below_alloc (below_alloc (Below.refl _ _) _) _) _
  have hseq := spots_stops 8 (w2.heap.size + 1) (w2.heap.size + 2) 2 3 w3 hb1 hb2
  have hsl : (spotsList 2 3).length = 6 := by decide
  have HSL := Lib.hid hsl
  clear hb1 hb2 hw3 hsl
  have e1 : (w2.alloc (.cells #[.int .i64 0] 3)).heap.size = w2.heap.size + 1 := by simp
  rw [e1]
  clear e1
  gi_wp2_with fail
  refine wpIn_rangeFunc_ownG rfl (by omega) (gf := 28) (lb := #[.pointer (some ⟨w2.heap.size + 1, 0, none⟩), .pointer (some ⟨w2.heap.size + 2, 0, none⟩)]) rfl trivial enters28
    hseq KpS.t (KpS.b (B := w3.heap.size)) (Below.refl _ _) (fun _ => rfl)
    (fun pre W => Boxed W w2.heap.size 3 (.int .i64 (pre.length : Int)) ∧ Below w2.heap.size w2 W ∧ pre.length ≤ 50)
    (fun c pre W => c = .exit 0 ∧ 50 < pre.length)
    (OwnFrom.and (Own.from (boxed_own _ _ (fun pre : List Spot3 => .int .i64 (pre.length : Int))) _) (OwnFrom.and (ownFrom_below (Nat.le_refl _) (by omega)) (ownFrom_pure _ _)))
    (fun c => ownFrom_pure _ (fun pre : List Spot3 => c = .exit 0 ∧ 50 < pre.length))
    ⟨hbN, hB3, Nat.zero_le _⟩
    (fun x => { tmps := #[.bool false, .slice A 4 c, .pointer (some ⟨w2.heap.size, 0, none⟩), .func (.func 28) #[] #[.pointer (some ⟨w2.heap.size + 1, 0, none⟩), .pointer (some ⟨w2.heap.size + 1 + 1, 0, none⟩)], .func (.func 24) #[] #[.pointer (some ⟨w.heap.size, 0, none⟩), .pointer (some ⟨w.heap.size + 1, 0, none⟩)], .slice A 4 c, .func (.func 28) #[] #[.pointer (some ⟨w2.heap.size + 1, 0, none⟩), .pointer (some ⟨w2.heap.size + 1 + 1, 0, none⟩)], .func (.func 28) #[] #[.pointer (some ⟨w2.heap.size + 1, 0, none⟩), .pointer (some ⟨w2.heap.size + 1 + 1, 0, none⟩)], .bool false, .func (.func 28) #[] #[.pointer (some ⟨w2.heap.size + 1, 0, none⟩), .pointer (some ⟨w2.heap.size + 1 + 1, 0, none⟩)], .int .i64 x.1, .agg #[.int .i64 x.2.1, .int .i64 x.2.2], undef, undef, undef, undef, undef, undef, undef, undef, undef, undef, undef, undef, undef, undef, undef, undef, undef, undef, undef, undef, undef, undef, undef, undef, undef, undef, undef, undef, undef, undef], defers := [] }) ?assign ?body ?done ?stop
  case assign =>
    intro l x W K hK
    simp only [encSpot]
    gi_wp2
    exact hK
  case body =>
    rintro l pre x W ⟨hv, hB, hle⟩ hpl
    have hc := hv.cell
    have hf := hv.frozen
    have hv2 := Boxed.set (.int .i64 ((pre.length : Int) + 1)) hv
    have hc2 := hv2.cell
    have HV2 := Lib.hid hv2
    have HB := Lib.hid hB
    clear hv hv2 hB HSL hpl hseq hbN hB3 HC
    by_cases h50 : (pre.length : Int) + 1 > 50
    · gi_wp2
      exact ⟨(KeepsOthers.setCell _ _ _).from _, rfl, by simp; omega⟩
    · gi_wp2
      exact ⟨(KeepsOthers.setCell _ _ _).from _, KpS.setCell _ _ _ (by omega), by simpa using HV2.out, HB.out.setCell (p := ⟨w2.heap.size, 0, none⟩) (Nat.le_refl _) _, by simp; omega⟩
  case done =>
    rintro D ys W hD rfl ⟨hv, hB, hle⟩ hK
    rw [HSL.out] at hv
    have hc := hv.cell
    have hk2 : ∀ j, j < 4 → ∃ ad, A = some ad ∧ W.cell? (ad.add j) = some (.int .i64 (([2, 3, 0, 1] : List Int).getD j 0)) := fun j hj => by
      obtain ⟨ad, c', e, _, hKd, hcc⟩ := Kd.C_get HC.out 0 (j : Int) (by omega) (by simp; omega)
      have hk : c' = [.int .i64 (([2, 3, 0, 1] : List Int).getD j 0)] := hKd
      refine ⟨ad, e, ?_⟩
      have hz := hcc 0 (.int .i64 (([2, 3, 0, 1] : List Int).getD j 0)) (by rw [hk]; rfl)
      have hz' : w2.cell? (ad.add j) = some (.int .i64 (([2, 3, 0, 1] : List Int).getD j 0)) := by simpa [Kd.int, Kd.scalar] using hz
      exact pw_cell_below hB hz'
    obtain ⟨ad, rfl, h0⟩ := hk2 0 (by omega)
    obtain ⟨ad', e', h3⟩ := hk2 3 (by omega)
    cases e'
    obtain ⟨g, rfl⟩ := HG.out ad rfl
    rw [add_plain] at h0 h3
    have g0 : W.cell? ⟨g, 0, none⟩ = some (.int .i64 2) := h0
    have g3 : W.cell? ⟨g, 3, none⟩ = some (.int .i64 1) := h3
    clear HG
    have HBW := Lib.hid (below_step HB2.out hB)
    clear h0 h3 hk2 hseq hbN hB3 hB HC
    have hDl := (Array.getElem?_eq_some_iff.1 hK).1
    have HK := Lib.hid hK
    have HDl := Lib.hid hDl
    clear hDl hK
    gi_wp2_with fail
    refine ⟨trivial, ?_⟩
    refine (callsIn_wide.2 (where_calls (some ⟨W.heap.size, 0, none⟩) 2 [false, true] _ ?hC (by decide) (by decide))).mono ?_
    case hC => exact lit_bools W [false, true] (by unfold maxLen; simp)
    rintro e w4 ⟨g4, A4, c4, rfl, hg4, hC4, hge, hA4, hb4⟩
    have HB4 := Lib.hid (below_step (below_alloc HBW.out (.cells #[.bool false, .bool true] 4)) hb4)
    have HK4 := Lib.hid ((hb4.block D (by simp; have := HDl.out; omega)).trans ((Below.heap_alloc W _ D HDl.out).trans HK.out))
    have HG4 := Lib.hid hg4
    have HC4 := Lib.hid hC4
    have HA4 := Lib.hid hA4
    clear hg4 hC4 hge hA4 hb4 HBW HK HDl g0 g3 hc hv
    gi_wp2_with fail
    refine ⟨trivial, ?_⟩
    refine (callsIn_wide.2 (first_where g4 A4 c4 [false, true] 3 (by omega) w4 HG4.out HC4.out (fun ad e => (HA4.out ad e).2) (by decide))).mono ?_
    rintro e w5 ⟨A5, c5, rfl, hl5, hC5, hg5, hb5⟩
    have ht : ((wl 0 [false, true]).take (3 : Int).toNat) = [1] := by decide
    rw [ht]
    have HB5 := Lib.hid (below_step HB4.out hb5)
    have HK5 := Lib.hid ((hb5.block D (Array.getElem?_eq_some_iff.1 HK4.out).1).trans HK4.out)
    clear hl5 hC5 hg5 hb5 ht HG4 HC4 HA4 HB4 HK4
    gi_wp2_with fail
    refine ⟨by simp, .inl ⟨_, _, rfl, run_takeDeferred HK5.out, ?_⟩⟩
    exact ⟨_, results_tmp rfl _ _ _, rfl, HB5.out.trans (belowK_b (w := w) (Nat.le_refl _) w5 D _ _ (by have := HB2.out.size; omega) HK5.out rfl rfl)⟩
  case stop =>
    rintro D c pre W hD hp ⟨rfl, hlt⟩ hK
    have := hp.length_le
    rw [HSL.out] at this
    omega

theorem awake_calls (w : World) : Calls Try.prog 18 #[] w fun e W' => e = .returned (.bool true) ∧ Below w.heap.size w W' := callsIn_wide.1 (awake_in w)
end Go.Proofs.Ytflaaphlghkpnaa.Awake1
