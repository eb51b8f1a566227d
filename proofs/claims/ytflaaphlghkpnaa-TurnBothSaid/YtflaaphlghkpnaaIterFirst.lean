/-
  turn.First: the first n of what a function value gives, in new memory.
-/
import Derived.Test.YtflaaphlghkpnaaIter
import Derived.Test.YtflaaphlghkpnaaWMore
import Derived.Test.YtflaaphlghkpnaaProg
import Derived.Lib.Hide
set_option linter.unusedVariables false
set_option linter.unusedSimpArgs false
namespace Go.Proofs.Ytflaaphlghkpnaa.Iter
open Go.RowKit Go.Shelf Go.Proofs.YtflaaphlghkpnaaW.PrintWords
attribute [local go_sem] Oper.semAt_some

theorem first_info3 : (Try.prog.info? 3).map (fun i => (i.zero, i.size, i.bytes)) = some (some (.int .i64 0), 1, 8) := by kernel_rfl
theorem run_equalIn_func {P : Program} {t : TypeId} {ps rs : Array TypeId} {b : Bool} (d : Nat) (h : P.underlying t = some (.func ps rs b)) (f : Fn) (x y : Array Value) (W : World) : (Op.equalIn (d + 1) t (.func f x y) .nilFunc).run P W = .ok false W := by
  simp [Op.equalIn, run_underlying h]
theorem run_equalIn_nil {P : Program} {t : TypeId} {ps rs : Array TypeId} {b : Bool} (d : Nat) (h : P.underlying t = some (.func ps rs b)) (W : World) : (Op.equalIn (d + 1) t .nilFunc .nilFunc).run P W = .ok true W := by
  simp [Op.equalIn, run_underlying h]
theorem run_eql_func_nil {P : Program} {t : TypeId} {ps rs : Array TypeId} {b : Bool} (h : P.underlying t = some (.func ps rs b)) (f : Fn) (x y : Array Value) (W : World) : (binOp .eql t (.func f x y) .nilFunc).run P W = .ok (.bool false) W := by
  have e : Op.equal t (.func f x y) .nilFunc = Op.equalIn 10000 t (.func f x y) .nilFunc := rfl
  simp only [binOp, e]
  simp [run_equalIn_func 9999 h]
theorem run_eql_nil_func {P : Program} {t : TypeId} {ps rs : Array TypeId} {b : Bool} (h : P.underlying t = some (.func ps rs b)) (W : World) : (binOp .eql t .nilFunc .nilFunc).run P W = .ok (.bool true) W := by
  have e : Op.equal t .nilFunc .nilFunc = Op.equalIn 10000 t .nilFunc .nilFunc := rfl
  simp only [binOp, e]
  simp [run_equalIn_nil 9999 h]

set_option maxHeartbeats 1000000 in
set_option maxRecDepth 100000 in
theorem first_nil (n : Int) (w : World) : Calls Try.prog 19 #[.nilFunc, .int .i64 n] w fun e W' => e = .returned (.slice none 0 0) ∧ Below w.heap.size w W' := by
  have hq := run_eql_nil_func (P := Try.prog) Try.underlying38
  go_enter Try.func19, Try.ntmps19
  go_wp2
  go_ret
  exact ⟨rfl, below_alloc (below_alloc (Below.refl _ _) _) _⟩
set_option maxHeartbeats 1000000 in
set_option maxRecDepth 100000 in
theorem first_less (f : Fn) (x y : Array Value) (n : Int) (hn : n < 1) (w : World) : Calls Try.prog 19 #[.func f x y, .int .i64 n] w fun e W' => e = .returned (.slice none 0 0) ∧ Below w.heap.size w W' := by
  have hq := run_eql_func_nil (P := Try.prog) Try.underlying38 f x y
  go_enter Try.func19, Try.ntmps19
  go_wp2
  go_ret
  exact ⟨rfl, below_alloc (below_alloc (Below.refl _ _) _) _⟩

set_option maxHeartbeats 4000000 in
set_option maxRecDepth 100000 in
theorem first_in (m : Nat) (hm : 3 ≤ m) (gf : Nat) (lb : Array Value) (eg : ∀ args w, (callFunc gf args).run Try.prog w = .ok (.enter gf args) w) (xs : List Int) (hlen : xs.length ≤ 1000000) (n : Int) (hn : 1 ≤ n) (hn2 : n ≤ 9223372036854775807) (w : World)
    (hseq : SeqStopsK Fence.wide (m - 1) Try.prog gf lb (fun x : Int => #[Value.int .i64 x]) (Below w.heap.size) (fun ys => ys = xs) (fun pre => pre <+: xs) xs.length w) :
    CallsIn Fence.wide m Try.prog 19 #[.func (.func gf) #[] lb, .int .i64 n] w fun e W' => ∃ v, e = .returned v ∧ W'.ownsRow w.heap.size 3 1 v (xs.take n.toNat).length ((xs.take n.toNat).map (Value.int .i64)) ∧ Below w.heap.size w W' := by
  have h1 : 1 ≤ m := by omega
  obtain ⟨i0, hi, hz0, hz1, hz2⟩ := info_parts first_info3
  have hq := run_eql_func_nil (P := Try.prog) Try.underlying38 (.func gf) #[] lb
  refine callsIn_of_wp_marks Try.func19 rfl trivial ?_ rfl
  simp only [Try.ntmps19, List.size_toArray, List.length_cons, List.length_nil, Nat.reduceAdd, Nat.reduceSub, Array.replicate_succ, Array.replicate_zero, List.push_toArray, List.append_toArray, List.nil_append, List.cons_append]
  gi_wp2
  have bN := Boxed.new w 3 (.int .i64 n)
  have bO := Boxed.new (w.alloc (.cells #[.int .i64 n] 3)) 28 (.slice none 0 0)
  rw [World.size_alloc] at bO
  have hB0 : Below w.heap.size w ((w.alloc (.cells #[.int .i64 n] 3)).alloc (.cells #[.slice none 0 0] 28)) := ((Below.refl _ w).alloc (Nat.le_refl _) _).alloc (by simp) _
  clear hq
  refine wpIn_rangeFunc_ownG rfl h1 (gf := gf) (lb := lb) rfl trivial eg
    (SeqStopsK.later hseq hB0) belowK_t (belowK_b (by simp; omega)) (Below.refl _ _) (fun _ => rfl)
    (fun pre W => (∃ v, Boxed W (w.heap.size + 1) 28 v ∧ W.ownsRow (w.heap.size + 2) 3 1 v pre.length (pre.map (Value.int .i64)) ∧ True) ∧ Boxed W w.heap.size 3 (.int .i64 n) ∧ Below w.heap.size w W ∧ (pre.length : Int) < n)
    (fun c pre W => (∃ v, Boxed W (w.heap.size + 1) 28 v ∧ W.ownsRow (w.heap.size + 2) 3 1 v pre.length (pre.map (Value.int .i64)) ∧ True) ∧ Below w.heap.size w W ∧ c = .exit 0 ∧ (pre.length : Int) = n)
    (OwnFrom.and (Own.from (holdsRow_own (w.heap.size + 2) (w.heap.size + 1) 28 3 1 (fun pre : List Int => pre.length) (fun pre : List Int => pre.map (Value.int .i64)) (fun _ _ => True)) _) (OwnFrom.and (Own.from (boxed_own _ _ _) _) (OwnFrom.and (ownFrom_below (Nat.le_refl _) (by simp; omega)) (ownFrom_pure _ _))))
    (fun c => OwnFrom.and (Own.from (holdsRow_own (w.heap.size + 2) (w.heap.size + 1) 28 3 1 (fun pre : List Int => pre.length) (fun pre : List Int => pre.map (Value.int .i64)) (fun _ _ => True)) _) (OwnFrom.and (ownFrom_below (Nat.le_refl _) (by simp; omega)) (ownFrom_pure _ _)))
    ⟨⟨_, bO, World.ownsRow_nil _ _ _ _, trivial⟩, bN.alloc _, hB0, by simp; omega⟩
    (fun x => { tmps := #[.func (.func gf) #[] lb, .int .i64 n, undef, .pointer (some ⟨w.heap.size, 0, none⟩), .slice none 0 0, .pointer (some ⟨w.heap.size + 1, 0, none⟩), .int .i64 x, .func (.func gf) #[] lb, .bool false, .bool false, .int .i64 n, .bool (decide (n < 1)), .bool (decide (n < 1)), .func (.func gf) #[] lb, .int .i64 x, undef, undef, undef, undef, undef, undef, undef, undef, undef], defers := [] }) ?assign ?body ?done ?stop
  case assign =>
    intro l x W K hK
    gi_wp2
    exact hK
  case body =>
    rintro l pre x W ⟨⟨v, hv, hrow, -⟩, hbn, hB, hlt⟩ hpl
    have hc := hv.cell
    have hcn := hbn.cell
    have hne : w.heap.size ≠ w.heap.size + 1 := by omega
    have HN := Lib.hid hne
    have HBN := Lib.hid hbn
    clear hne hbn
    cases he : (((pre.length : Int) + 1) == n) with
    | true =>
      gi_wp2_with (gi_at_builtin; refine wpListIn_append_own _ rfl _ _ 28 rfl (w.heap.size + 2) 3 i0 (.int .i64 0) 1 8 Try.underlying28 hi hz0 hz1 hz2 rfl (by decide) _ _ _ rfl (hrow.alloc _) ⟨W.heap.size, 0, none⟩ 1 1 [.int .i64 x] rfl rfl (cell_one_new _ _ _) (by simp [Value.oneCell']) (by unfold maxLen; omega) (by omega) (by have := hv.lt; simp; omega) ?_; intro v' w1 hown' hgrow _; obtain ⟨g', cap', rfl⟩ := ownsRow_succ hown'; obtain ⟨hv1, hv2, hr2, hk2, hb2⟩ := hv.appended (by decide) (own_less hrow (by omega)) hB.size (by omega) (own_less hown' (by omega)) hgrow; have hnb : some w.heap.size ≠ v.ownBlock := (fun e => by have := own_base hrow _ e.symm; omega); have hbn2 := Boxed.other ((HBN.out.alloc (.cells #[.int .i64 x] 3)).kept hgrow hnb) HN.out (.slice (some ⟨g', 0, none⟩) (pre.length + 1) cap'); have hor2 := hown'.kept (grownBy_setCell' w1 (w.heap.size + 1) (.slice (some ⟨g', 0, none⟩) (pre.length + 1) cap')) (.inr (fun e => by have := own_base hown' _ e; omega)); have hc1 := hv1.cell; have hf1 := hv1.frozen; have hc2 := hv2.cell; have hcn2 := hbn2.cell; clear hc hcn; have HR2 := Lib.hid hor2; have HV2 := Lib.hid hv2; have HK2 := Lib.hid hk2; have HB2 := Lib.hid hb2; have HBN2 := Lib.hid hbn2; clear hor2 hv2 hk2 hb2 hbn2 hr2 hv1 hown' hgrow hnb hrow hv hseq bN bO hB0)
      have he' : (pre.length : Int) + 1 = n := by simpa using he
      exact ⟨HK2.out.from _, ⟨_, HV2.out, by simpa using HR2.out, trivial⟩, hB.trans HB2.out, rfl, by simp; omega⟩
    | false =>
      gi_wp2_with (gi_at_builtin; refine wpListIn_append_own _ rfl _ _ 28 rfl (w.heap.size + 2) 3 i0 (.int .i64 0) 1 8 Try.underlying28 hi hz0 hz1 hz2 rfl (by decide) _ _ _ rfl (hrow.alloc _) ⟨W.heap.size, 0, none⟩ 1 1 [.int .i64 x] rfl rfl (cell_one_new _ _ _) (by simp [Value.oneCell']) (by unfold maxLen; omega) (by omega) (by have := hv.lt; simp; omega) ?_; intro v' w1 hown' hgrow _; obtain ⟨g', cap', rfl⟩ := ownsRow_succ hown'; obtain ⟨hv1, hv2, hr2, hk2, hb2⟩ := hv.appended (by decide) (own_less hrow (by omega)) hB.size (by omega) (own_less hown' (by omega)) hgrow; have hnb : some w.heap.size ≠ v.ownBlock := (fun e => by have := own_base hrow _ e.symm; omega); have hbn2 := Boxed.other ((HBN.out.alloc (.cells #[.int .i64 x] 3)).kept hgrow hnb) HN.out (.slice (some ⟨g', 0, none⟩) (pre.length + 1) cap'); have hor2 := hown'.kept (grownBy_setCell' w1 (w.heap.size + 1) (.slice (some ⟨g', 0, none⟩) (pre.length + 1) cap')) (.inr (fun e => by have := own_base hown' _ e; omega)); have hc1 := hv1.cell; have hf1 := hv1.frozen; have hc2 := hv2.cell; have hcn2 := hbn2.cell; clear hc hcn; have HR2 := Lib.hid hor2; have HV2 := Lib.hid hv2; have HK2 := Lib.hid hk2; have HB2 := Lib.hid hb2; have HBN2 := Lib.hid hbn2; clear hor2 hv2 hk2 hb2 hbn2 hr2 hv1 hown' hgrow hnb hrow hv hseq bN bO hB0)
      have he' : ¬ (pre.length : Int) + 1 = n := by simpa using he
      exact ⟨HK2.out.from _, HB2.out, ⟨_, HV2.out, by simpa using HR2.out, trivial⟩, HBN2.out, hB.trans HB2.out, by simp; omega⟩
  case done =>
    rintro D ys W hD rfl ⟨⟨v, hv, hrow, -⟩, hbn, hB, hlt⟩ hK
    have hc := hv.cell
    gi_wp2
    refine ⟨by simp, .inl ⟨_, _, rfl, run_takeDeferred hK, ?_⟩⟩
    have ht : ys.take n.toNat = ys := List.take_of_length_le (by omega)
    exact ⟨_, results_tmp rfl _ _ _, v, rfl, by rw [ht]; exact own_less (ownsRow_putObj hrow _ hK rfl) (by omega), hB.trans (belowK_b (w := w) (Nat.le_refl _) W D _ _ (by simp at hD; omega) hK rfl rfl)⟩
  case stop =>
    rintro D c pre W hD hp ⟨⟨v, hv, hrow, -⟩, hB, rfl, hlt⟩ hK
    have hc := hv.cell
    gi_wp2
    refine ⟨by simp, .inl ⟨_, _, rfl, run_takeDeferred hK, ?_⟩⟩
    have ht : xs.take n.toNat = pre := by rw [List.prefix_iff_eq_take.1 hp]; congr 1; omega
    exact ⟨_, results_tmp rfl _ _ _, v, rfl, by rw [ht]; exact own_less (ownsRow_putObj hrow _ hK rfl) (by omega), hB.trans (belowK_b (w := w) (Nat.le_refl _) W D _ _ (by simp at hD; omega) hK rfl rfl)⟩
end Go.Proofs.Ytflaaphlghkpnaa.Iter
namespace Go.Proofs.Ytflaaphlghkpnaa.Iter
open Go.RowKit Go.Shelf Go.Proofs.YtflaaphlghkpnaaW.PrintWords
/-- First of a function value: the first n of all that it gives, in memory of its own. -/
theorem first_calls (gf : Nat) (lb : Array Value) (eg : ∀ args w, (callFunc gf args).run Try.prog w = .ok (.enter gf args) w) (xs : List Int) (hlen : xs.length ≤ 1000000) (n : Int) (hn2 : n ≤ 9223372036854775807) (w : World) {Kp : World → World → Prop} (hk : ∀ A B, Below w.heap.size A B → Kp A B)
    (hseq : ∀ m, SeqStopsK Fence.wide m Try.prog gf lb (fun x : Int => #[Value.int .i64 x]) Kp (fun ys => ys = xs) (fun pre => pre <+: xs) xs.length w) :
    Calls Try.prog 19 #[.func (.func gf) #[] lb, .int .i64 n] w fun e W' => ∃ A c, e = .returned (.slice A (xs.take n.toNat).length c) ∧ (xs.take n.toNat).length ≤ c ∧ Kd.C (Kd.int .i64) W' A (xs.take n.toNat).length (xs.take n.toNat) ∧ (∀ ad, A = some ad → ∃ g, ad = ⟨g, 0, none⟩) ∧ Below w.heap.size w W' := by
  by_cases hn : n < 1
  · refine (first_less (.func gf) #[] lb n hn w).mono ?_
    rintro e W' ⟨rfl, hb⟩
    have h0 : xs.take n.toNat = [] := by rw [show n.toNat = 0 by omega]; rfl
    rw [h0]
    exact ⟨none, 0, rfl, Nat.le_refl _, ⟨rfl, by simp, fun h => absurd h (by simp)⟩, (fun ad e => by cases e), hb⟩
  · refine (callsIn_wide (n := 9)).1 ((first_in 9 (by omega) gf lb eg xs hlen n (by omega) hn2 w (SeqStopsK.kp (hseq 8) hk)).mono ?_)
    rintro e W' ⟨v, rfl, ho, hb⟩
    have hR : (Kd.int .i64).R 3 W' w.heap.size (fun _ => True) v (xs.take n.toNat) := Kd.R_of_own ho (fun _ _ => trivial)
    obtain ⟨A, c, rfl, hl, hC⟩ := Kd.R_reads hR
    refine ⟨A, c, rfl, hl, hC, fun ad e => ?_, hb⟩
    rcases ho.2 with ⟨h, _⟩ | ⟨g, cap, cur, h, _⟩
    · subst e; injection h with h1; cases h1
    · subst e; injection h with h1; injection h1 with h1; exact ⟨g, h1⟩
end Go.Proofs.Ytflaaphlghkpnaa.Iter
