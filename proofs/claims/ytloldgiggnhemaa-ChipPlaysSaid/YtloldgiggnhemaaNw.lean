import Derived.Test.YtloldgiggnhemaaCt
import Derived.Test.YtloldgiggnhemaaIterTurn
import Derived.Test.YtloldgiggnhemaaHeldRound
import Derived.Lib.Hide
import Derived.Maps.OwnIn
import Derived.OwnWalkIn
import Derived.RangeFuncNested
import Derived.Deep.AppendLies
set_option linter.unusedVariables false
set_option linter.unusedSimpArgs false
/-! The chip's New. -/
namespace Go.Proofs.Ytloldgiggnhemaa.Cm
open Go.RowKit Go.Shelf Go.Proofs.YtloldgiggnhemaaW.PrintWords Go.Proofs.YtloldgiggnhemaaW.PrintLast Go.Proofs.YtloldgiggnhemaaW.PrintMore Go.Proofs.Ytloldgiggnhemaa.Kp Go.Proofs.Ytloldgiggnhemaa.Cp Go.Proofs.Ytloldgiggnhemaa.Iter
attribute [local go_sem] max2_int min2_int
attribute [local go_sem] Oper.semAt_some

def rowN (bad : List Int) (p : Nat) (x : Int) (q : Nat) : List Value := [.bool (bad.contains x), .int .i64 0, .int .i64 0, .slice (some ⟨q, 0, none⟩) p p]
def rowsN (bad : List Int) (p : Nat) : List Int → List Nat → List Value
  | x :: xs, q :: r => rowN bad p x q ++ rowsN bad p xs r
  | _, _ => []
theorem rowsN_snoc (bad : List Int) (p q : Nat) (x : Int) : ∀ (xs : List Int) (l : List Nat), xs.length = l.length → rowsN bad p (xs ++ [x]) (l ++ [q]) = rowsN bad p xs l ++ rowN bad p x q
  | [], [], _ => by simp [rowsN]
  | y :: ys, z :: l, h => by simp only [List.cons_append, rowsN, rowsN_snoc bad p q x ys l (by simpa using h), List.append_assoc]
theorem rowsN_get (bad : List Int) (p : Nat) : ∀ (xs : List Int) (l : List Nat) (k : Nat) (hk : k < l.length) (hx : k < xs.length) (j : Nat) (hj : j < 4), (rowsN bad p xs l)[k * 4 + j]? = (rowN bad p xs[k] l[k])[j]?
  | y :: xs, x :: l, 0, hk, hx, j, hj => by
    rw [rowsN, List.getElem?_append_left (by simp [rowN]; omega)]
    simp
  | y :: xs, x :: l, k + 1, hk, hx, j, hj => by
    rw [rowsN, List.getElem?_append_right (by simp [rowN]; omega), show (k + 1) * 4 + j - (rowN bad p y x).length = k * 4 + j by simp [rowN]; omega, rowsN_get bad p xs l k (by simpa using hk) (by simpa using hx) j hj]
    rfl
def newCells (v : Value) (p : Nat) : Array Value := #[v, .int .i64 (p : Int), .int .i64 0, .int .i64 0, .int .i64 0, .int .i64 (-1), .int .i64 (-1), .int .i64 (-1), .int .i64 0, .bool false]
/-- New's round: so many blocks are there. -/
structure NwI (W : World) (B g base : Nat) (bad : List Int) (p : Nat) (pre : List Int) (u v : Value) (pgl : List Nat) : Prop where
  len : pgl.length = pre.length
  box : Boxed W B 25 (.pointer (some ⟨g, 0, none⟩))
  chip : W.heap[g]? = some (.cells (newCells u p) 71 (0, 0))
  row : W.ownsRow base 36 4 v pre.length (rowsN bad p pre pgl)
  pgs : ∀ i (hi : i < pgl.length), base ≤ pgl[i] ∧ W.heap[pgl[i]]? = some (.cells (madeCells #[.slice none 0 0] p) 22 (0, 0))
  nodup : pgl.Nodup
def Nw (B g base : Nat) (bad : List Int) (p : Nat) (pre : List Int) (W : World) : Prop := ∃ v pgl, NwI W B g base bad p pre v v pgl
theorem cells_kept {X Y : World} {row : Option Nat} {k t : Nat} {cs : Array Value} (h : X.heap[k]? = some (.cells cs t (0, 0))) (hg : X.grownBy Y row) (hrow : ∀ r, row = some r → ∃ o : Obj, X.heap[r]? = some o ∧ o.isCells = false) : Y.heap[k]? = some (.cells cs t (0, 0)) := by
  refine (hg.block k (Array.getElem?_eq_some_iff.1 h).1 (fun e => ?_)).trans h
  obtain ⟨o, ho, hc⟩ := hrow k e.symm
  rw [h] at ho
  cases ho
  cases hc
theorem nw_own (B g base : Nat) (bad : List Int) (p : Nat) : Own (fun s W => Nw B g base bad p s W) := by
  rintro s X Y row ⟨v, pgl, h⟩ hg hrow
  refine ⟨v, pgl, h.len, cells_kept h.box hg hrow, cells_kept h.chip hg hrow, h.row.kept hg ?_, fun i hi => ⟨(h.pgs i hi).1, cells_kept (h.pgs i hi).2 hg hrow⟩, h.nodup⟩
  rcases h.row.2 with ⟨rfl, _⟩ | ⟨q, cap, cur, rfl, _, hgb, _⟩
  · exact .inl rfl
  · refine .inr fun e' => ?_
    obtain ⟨o, ho, hc⟩ := hrow q (by simpa [Value.ownBlock] using e'.symm)
    rw [hgb] at ho
    cases ho
    cases hc
theorem keepT {X Y : World} {base n k t : Nat} {v : Value} {xs : List Value} {cs : Array Value} (hr : X.ownsRow base 36 4 v n xs) (hg : X.grownBy Y v.ownBlock) (h : X.heap[k]? = some (.cells cs t (0, 0))) (ht : t ≠ 36) : Y.heap[k]? = some (.cells cs t (0, 0)) := by
  refine (hg.block k (Array.getElem?_eq_some_iff.1 h).1 (fun e => ?_)).trans h
  rcases hr.2 with ⟨rfl, _⟩ | ⟨q, cap, cur, rfl, _, hgb, _⟩
  · cases e
  · obtain rfl : k = q := by simpa [Value.ownBlock] using e
    rw [h] at hgb
    injection hgb with hgb
    injection hgb with _ hgb
    exact ht hgb
section
variable {X Y W w5 : World} {B g base p : Nat} {bad pre : List Int} {u v : Value} {pgl : List Nat}
theorem NwI.alloc (h : NwI X B g base bad p pre u v pgl) (o : Obj) : NwI (X.alloc o) B g base bad p pre u v pgl :=
  ⟨h.len, h.box.alloc _, blk_alloc h.chip _, h.row.alloc _, fun i hi => ⟨(h.pgs i hi).1, blk_alloc (h.pgs i hi).2 _⟩, h.nodup⟩
theorem NwI.app (h : NwI X B g base bad p pre u v pgl) (x : Int) {q : Nat} (hq : X.heap[q]? = some (.cells (madeCells #[.slice none 0 0] p) 22 (0, 0))) (hqb : base ≤ q) (hqn : q ∉ pgl) (hg : X.grownBy Y v.ownBlock) {v' : Value}
    (ho : Y.ownsRow base 36 4 v' (pre.length + 1) (rowsN bad p pre pgl ++ rowN bad p x q)) : NwI Y B g base bad p (pre ++ [x]) u v' (pgl ++ [q]) := by
  refine ⟨by simp [h.len], keepT h.row hg h.box (by decide), keepT h.row hg h.chip (by decide), ?_, fun i hi => ?_, ?_⟩
  · rw [rowsN_snoc _ _ _ _ _ _ h.len.symm, List.length_append]
    exact ho
  · by_cases e : i < pgl.length
    · rw [List.getElem_append_left e]
      exact ⟨(h.pgs i e).1, keepT h.row hg (h.pgs i e).2 (by decide)⟩
    · have : i = pgl.length := by simp at hi; omega
      subst this
      rw [List.getElem_append_right (Nat.le_refl _)]
      simp only [Nat.sub_self, List.getElem_cons_zero]
      exact ⟨hqb, keepT h.row hg hq (by decide)⟩
  · rw [List.nodup_append]
    exact ⟨h.nodup, by simp, fun a ha b hb => by simp at hb; rintro rfl; exact hqn (hb ▸ ha)⟩
theorem NwI.store (h : NwI X B g base bad p pre u v pgl) (hgb : g < base) : NwI (X.setCell ⟨g, 0, none⟩ v) B g base bad p pre v v pgl := by
  refine ⟨h.len, blk_far h.box (p := ⟨g, 0, none⟩) (type_ne h.box h.chip (by decide)) _, blk_put h.chip 0 _ rfl, h.row.kept (grownBy_setCell' X g v) ?_, fun i hi => ⟨(h.pgs i hi).1, blk_far (h.pgs i hi).2 (p := ⟨g, 0, none⟩) (type_ne (h.pgs i hi).2 h.chip (by decide)) _⟩, h.nodup⟩
  cases e : v.ownBlock with
  | none => exact .inl rfl
  | some k => exact .inr fun e' => by have := own_base h.row k e; cases e'; omega
/-- In the midst of a round. -/
structure Gd (Sx : Nat → Prop) (W w5 : World) (B g base : Nat) (bad : List Int) (p : Nat) (pre : List Int) (u v : Value) (pgl : List Nat) (X : World) : Prop where
  nw : NwI X B g base bad p pre u v pgl
  below : Below g w5 X
  keeps : KeepsOthers W X
  kp : KpS Sx W X
  size : base ≤ X.heap.size
  far : ∀ k, Sx k → B < k ∧ k < base
  gb : g < B ∧ B < base
variable {Sx : Nat → Prop}
theorem Gd.alloc (h : Gd Sx W w5 B g base bad p pre u v pgl X) (o : Obj) : Gd Sx W w5 B g base bad p pre u v pgl (X.alloc o) :=
  ⟨h.nw.alloc o, h.below.alloc (by have := h.gb; have := h.size; omega) _, h.keeps.trans (KeepsOthers.alloc _ _), h.kp.trans (KpS.alloc _ _), by have := h.size; simp; omega, h.far, h.gb⟩
theorem Gd.app (h : Gd Sx W w5 B g base bad p pre u v pgl X) (x : Int) {q : Nat} (hq : X.heap[q]? = some (.cells (madeCells #[.slice none 0 0] p) 22 (0, 0))) (hqb : base ≤ q) (hqn : q ∉ pgl) (hg : X.grownBy Y v.ownBlock) {v' : Value}
    (ho : Y.ownsRow base 36 4 v' (pre.length + 1) (rowsN bad p pre pgl ++ rowN bad p x q)) (hs : X.heap.size ≤ Y.heap.size) : Gd Sx W w5 B g base bad p (pre ++ [x]) u v' (pgl ++ [q]) Y := by
  have hb : ∀ k, v.ownBlock = some k → base ≤ k := own_base h.nw.row
  refine ⟨h.nw.app x hq hqb hqn hg ho, h.below.grown hg (by have := h.gb; have := h.size; omega) (fun k hk => by have := hb k hk; have := h.gb; omega), h.keeps.trans (KeepsOthers.of_grownBy hg fun j o ej hj => ?_), h.kp.trans (KpS.of_grownBy hg fun k hk hs => by have := hb k hk; have := h.far k hs; omega), Nat.le_trans h.size hs, h.far, h.gb⟩
  rcases h.nw.row.2 with ⟨rfl, _⟩ | ⟨q', cap, cur, rfl, _, hgb, _⟩
  · simp [Value.ownBlock] at ej
  · obtain rfl : q' = j := by simpa [Value.ownBlock] using ej
    rw [hgb] at hj; cases hj; rfl
theorem Gd.store (h : Gd Sx W w5 B g base bad p pre u v pgl X) : Gd Sx W w5 B g base bad p pre v v pgl (X.setCell ⟨g, 0, none⟩ v) :=
  ⟨h.nw.store (by have := h.gb; omega), h.below.setCell (p := ⟨g, 0, none⟩) (Nat.le_refl _) _, h.keeps.trans (KeepsOthers.setCell _ _ _), h.kp.trans (KpS.setCell _ _ _ (fun hk => by have := h.far _ hk; have := h.gb; omega)), by simpa [World.setCell] using h.size, h.far, h.gb⟩
end
theorem row_at {W : World} {b t : Nat} {cs : Array Value} (h : W.heap[b]? = some (.cells cs t (0, 0))) : ∀ j u, cs.toList[j]? = some u → W.cell? ((⟨b, 0, none⟩ : Addr).add j) = some u := fun j u hj => by
  rw [add_plain, blk_cell h]
  simpa using hj
theorem enters1 : ∀ args w, (callFunc 54 args).run Try.prog w = .ok (.enter 54 args) w := enters_of Try.func54 (by kernel_rfl) rfl
theorem infoB : (Try.prog.info? 36).map (fun i => (i.zero, i.size, i.bytes)) = some (some (.agg #[.bool false, .int .i64 0, .int .i64 0, .slice none 0 0]), 4, 48) := by kernel_rfl
set_option maxHeartbeats 4000000 in
set_option maxRecDepth 100000 in
theorem newIn (w : World) (n p : Nat) (A : Option Addr) (c : Nat) (bad : List Int) (hC : Kd.C (Kd.int .i64) w A bad.length bad) (hc : bad.length ≤ c) (hl : bad.length ≤ 100000) (hn1 : 1 ≤ n) (hn2 : n ≤ 64) (hp1 : 1 ≤ p) (hp2 : p ≤ 32) :
    CallsIn Fence.wide 9 Try.prog 12 #[.int .i64 (n : Int), .int .i64 (p : Int), .slice A bad.length c] w fun e w' => ∃ g v pgl, e = .returned (.pointer (some ⟨g, 0, none⟩)) ∧ w.heap.size ≤ g ∧ Below w.heap.size w w' ∧
      w'.heap[g]? = some (.cells (newCells v p) 71 (0, 0)) ∧ w'.ownsRow w.heap.size 36 4 v n (rowsN bad p (turnList n 0) pgl) ∧ pgl.length = n ∧ (∀ i (hi : i < pgl.length), w.heap.size ≤ pgl[i] ∧ w'.heap[pgl[i]]? = some (.cells (madeCells #[.slice none 0 0] p) 22 (0, 0))) ∧ pgl.Nodup := by
  have HC := Lib.hid hC
  have HCC := Lib.hid hc
  have HL := Lib.hid hl
  clear hC hc hl
  obtain ⟨iB, hiB, hzB, hsB, hbB⟩ := info_parts infoB
  refine callsIn_of_wp_marks Try.func12 rfl trivial ?_ rfl
  simp only [Try.ntmps12, List.size_toArray, List.length_cons, List.length_nil, Nat.reduceAdd, Nat.reduceSub, Array.replicate_succ, Array.replicate_zero, List.push_toArray, List.append_toArray, List.nil_append, List.cons_append]
  have t1 : ¬ ((n : Int) < 1) := by omega
  have t2 : ¬ ((n : Int) > 64) := by omega
  have t3 : ¬ ((p : Int) < 1) := by omega
  have t4 : ¬ ((p : Int) > 32) := by omega
  gi_wp2_with fail
  refine ⟨trivial, ?_⟩
  obtain ⟨w4, hw4⟩ : ∃ w4, (((w.alloc (.cells #[.int .i64 (p : Int)] 3)).alloc (.cells #[.slice A bad.length c] 42)).alloc (.cells (newCells (.slice none 0 0) p) 71)).alloc (.cells #[.pointer (some ⟨w.heap.size + 1 + 1, 0, none⟩)] 25) = w4 := ⟨_, rfl⟩
  have q0 : Boxed w4 w.heap.size 3 (.int .i64 (p : Int)) := by rw [← hw4]; exact (((Boxed.new w _ _).alloc _).alloc _).alloc _
  have q1 : Boxed w4 (w.heap.size + 1) 42 (.slice A bad.length c) := by rw [← hw4]; have := ((Boxed.new (w.alloc (.cells #[.int .i64 (p : Int)] 3)) 42 (.slice A bad.length c)).alloc (.cells (newCells (.slice none 0 0) p) 71)).alloc (.cells #[.pointer (some ⟨w.heap.size + 1 + 1, 0, none⟩)] 25); simpa using this
  have q2 : w4.heap[w.heap.size + 1 + 1]? = some (.cells (newCells (.slice none 0 0) p) 71 (0, 0)) := by rw [← hw4]; have := heap_alloc_new ((w.alloc (.cells #[.int .i64 (p : Int)] 3)).alloc (.cells #[.slice A bad.length c] 42)) (.cells (newCells (.slice none 0 0) p) 71); simpa using blk_alloc this (.cells #[.pointer (some ⟨w.heap.size + 1 + 1, 0, none⟩)] 25)
  have q3 : Boxed w4 (w.heap.size + 1 + 1 + 1) 25 (.pointer (some ⟨w.heap.size + 1 + 1, 0, none⟩)) := by rw [← hw4]; have := Boxed.new (((w.alloc (.cells #[.int .i64 (p : Int)] 3)).alloc (.cells #[.slice A bad.length c] 42)).alloc (.cells (newCells (.slice none 0 0) p) 71)) 25 (.pointer (some ⟨w.heap.size + 1 + 1, 0, none⟩)); simpa using this
  have hz4 : w4.heap.size = w.heap.size + 4 := by rw [← hw4]; simp
  have hB4 : Below w.heap.size w w4 := by rw [← hw4]; exact below_alloc (below_alloc (below_alloc (below_alloc (Below.refl _ _) _) _) _) _
  have HZ4 := Lib.hid hz4
  have HB4 := Lib.hid hB4
  have Q0 := Lib.hid q0
  have Q1 := Lib.hid q1
  have Q2 := Lib.hid q2
  have Q3 := Lib.hid q3
  unfold newCells at hw4
  rw [hw4]
  clear hw4 q0 q1 q2 q3 hz4 hB4 t1 t2 t3 t4
  refine (callsIn_wide.2 (turn_calls (n : Int) 0 w4)).mono ?_
  rintro ev w5 ⟨rfl, hw5⟩
  have hz5 : w5.heap.size = w4.heap.size + 2 := by rw [hw5]; simp
  have hB5 : Below w4.heap.size w4 w5 := by rw [hw5]; exact below_alloc (below_alloc (Below.refl _ _) _) _
  have hN1 : w5.heap[w4.heap.size]? = some (.cells #[.int .i64 (n : Int)] 3 (0, 0)) := by rw [hw5]; exact blk_alloc (blk_new w4 _) _
  have hN2 : w5.heap[w4.heap.size + 1]? = some (.cells #[.int .i64 0] 3 (0, 0)) := by rw [hw5]; have := blk_new (w4.alloc (.cells #[.int .i64 (n : Int)] 3)) (.cells #[.int .i64 0] 3); simpa using this
  have P0 := Lib.hid (show Boxed w5 w.heap.size 3 (.int .i64 (p : Int)) from blk_below Q0.out hB5)
  have P1 := Lib.hid (show Boxed w5 (w.heap.size + 1) 42 (.slice A bad.length c) from blk_below Q1.out hB5)
  have P2 := Lib.hid (blk_below Q2.out hB5)
  have P3 := Lib.hid (show Boxed w5 (w.heap.size + 1 + 1 + 1) 25 (.pointer (some ⟨w.heap.size + 1 + 1, 0, none⟩)) from blk_below Q3.out hB5)
  have HSEQ := fun m => Lib.hid (turn_stops m w4.heap.size (w4.heap.size + 1) (n : Int) 0 (by omega) w5 hN1 hN2)
  have HZ5 := Lib.hid hz5
  have HB5 := Lib.hid (below_step HB4.out hB5)
  clear hw5 hz5 hB5 hN1 hN2 Q0 Q1 Q2 Q3
  gi_wp2_with fail
  refine' wpIn_rangeFunc_ownG rfl (by omega) (gf := 54) (lb := #[.pointer (some ⟨w4.heap.size, 0, none⟩), .pointer (some ⟨w4.heap.size + 1, 0, none⟩)]) rfl trivial enters1
    (HSEQ 8).out KpS.t (KpS.b (B := w5.heap.size)) (Below.refl _ _) (fun _ => rfl)
    (fun pre W => Nw (w.heap.size + 1 + 1 + 1) (w.heap.size + 1 + 1) w5.heap.size bad p pre W ∧ Below (w.heap.size + 1 + 1) w5 W ∧ pre.length ≤ n)
    (fun c pre W => False)
    (OwnFrom.and (Own.from (nw_own _ _ _ _ _) _) (OwnFrom.and (ownFrom_below (by have := HZ4.out; have := HZ5.out; omega) (by have := HZ4.out; have := HZ5.out; omega)) (ownFrom_pure _ _)))
    (fun c => ownFrom_pure _ (fun pre => False))
    ⟨⟨.slice none 0 0, [], ⟨rfl, P3.out, P2.out, World.ownsRow_nil _ _ _ _, fun i hi => absurd hi (Nat.not_lt_zero _), List.nodup_nil⟩⟩, Below.refl _ _, Nat.zero_le _⟩
    _ ?assign ?body ?done ?stop
  case assign =>
    intro l x W K hK
    gi_wp2
    exact hK
  case body =>
    rintro l pre x W ⟨⟨v, pgl, hN⟩, hB, hle⟩ hpl
    have hpl' : pre.length < n := by rw [turnList_length] at hpl; omega
    have cB := hN.box.cell
    have cG := (blk_cell hN.chip 0).trans (show (newCells v p)[0]? = some v from rfl)
    have c1 : W.cell? ⟨w.heap.size + 1, 0, none⟩ = some (.slice A bad.length c) := (show Boxed W (w.heap.size + 1) 42 (.slice A bad.length c) from (hB.block _ (by omega)).trans P1.out).cell
    have c0 : W.cell? ⟨w.heap.size, 0, none⟩ = some (.int .i64 (p : Int)) := (show Boxed W w.heap.size 3 (.int .i64 (p : Int)) from (hB.block _ (by omega)).trans P0.out).cell
    gi_wp2_with fail
    refine HeldRound.region_round (fun j => j == 15) (fun w' : World => w'.cell? ⟨w.heap.size + 1 + 1 + 1, 0, none⟩ = some (.pointer (some ⟨w.heap.size + 1 + 1, 0, none⟩)) ∧ w'.cell? ⟨w.heap.size + 1 + 1, 0, none⟩ = some v ∧ w'.cell? ⟨w.heap.size + 1, 0, none⟩ = some (.slice A bad.length c) ∧ w'.cell? ⟨w.heap.size, 0, none⟩ = some (.int .i64 (p : Int))) (by kernel_rfl) (by kernel_rfl) ?_
    have G0 : Gd (fun k => k = w4.heap.size ∨ k = w4.heap.size + 1) W w5 (w.heap.size + 1 + 1 + 1) (w.heap.size + 1 + 1) w5.heap.size bad p pre v v pgl W.drew :=
      ⟨⟨hN.len, hN.box, hN.chip, hN.row, hN.pgs, hN.nodup⟩, pw_below_drewN hB 1, KeepsOthers.drew W, KpS.refl _ _, by have := hB.size; simpa using this, fun k hk => by have := HZ4.out; have := HZ5.out; omega, by have := HZ4.out; have := HZ5.out; omega⟩
    have SG : ∀ {v' : Value} {pre' : List Int} {pgl' : List Nat} {w' : World}, Gd (fun k => k = w4.heap.size ∨ k = w4.heap.size + 1) W w5 (w.heap.size + 1 + 1 + 1) (w.heap.size + 1 + 1) w5.heap.size bad p pre' v v' pgl' w' → w'.cell? ⟨w.heap.size + 1 + 1 + 1, 0, none⟩ = some (.pointer (some ⟨w.heap.size + 1 + 1, 0, none⟩)) ∧ w'.cell? ⟨w.heap.size + 1 + 1, 0, none⟩ = some v ∧ w'.cell? ⟨w.heap.size + 1, 0, none⟩ = some (.slice A bad.length c) ∧ w'.cell? ⟨w.heap.size, 0, none⟩ = some (.int .i64 (p : Int)) := fun h =>
      ⟨h.nw.box.cell, (blk_cell h.nw.chip 0).trans (show (newCells v p)[0]? = some v from rfl), (show Boxed _ (w.heap.size + 1) 42 (.slice A bad.length c) from (h.below.block _ (by omega)).trans P1.out).cell, (show Boxed _ w.heap.size 3 (.int .i64 (p : Int)) from (h.below.block _ (by omega)).trans P0.out).cell⟩
    obtain ⟨X0, hX0⟩ : ∃ X, X = W.drew := ⟨_, rfl⟩
    rw [← hX0] at G0 ⊢
    have hS0 := SG G0
    clear hX0 cB cG c0 c1 hN hB
    obtain ⟨bb, hbb⟩ : ∃ b, bad.contains x = b := ⟨_, rfl⟩
    have HBB := Lib.hid hbb
    clear hbb
    refine HeldRound.take_anyT (i := 0) (v := .pointer (some ⟨w.heap.size + 1 + 1, 0, none⟩)) rfl (by kernel_rfl) (by kernel_rfl) (by kernel_rfl) (by kernel_rfl) (by kernel_rfl) (fun c a w h => by cases h.1) (.inl ⟨by rfl, fun w' hw' => by obtain ⟨k1, k2, k3, k4⟩ := hw'; go_simp⟩) hS0 ?_
    simp only [Act.put, List.setIfInBounds_toArray, List.set_cons_zero, List.set_cons_succ]
    refine HeldRound.take_anyT (i := 1) (v := .pointer (some ⟨w.heap.size + 1 + 1, 0, none⟩)) rfl (by kernel_rfl) (by kernel_rfl) (by kernel_rfl) (by kernel_rfl) (by kernel_rfl) (fun c a w h => by cases h.1) (.inl ⟨by rfl, fun w' hw' => by obtain ⟨k1, k2, k3, k4⟩ := hw'; go_simp⟩) hS0 ?_
    simp only [Act.put, List.setIfInBounds_toArray, List.set_cons_zero, List.set_cons_succ]
    refine HeldRound.take_anyT (i := 2) (v := .pointer (some ⟨w.heap.size + 1 + 1, 0, none⟩)) rfl (by kernel_rfl) (by kernel_rfl) (by kernel_rfl) (by kernel_rfl) (by kernel_rfl) (fun c a w h => by cases h.1) (.inl ⟨by rfl, fun w' hw' => by obtain ⟨k1, k2, k3, k4⟩ := hw'; go_simp⟩) hS0 ?_
    simp only [Act.put, List.setIfInBounds_toArray, List.set_cons_zero, List.set_cons_succ]
    refine HeldRound.take_anyT (i := 3) (v := .pointer (some ⟨w.heap.size + 1 + 1, 0, none⟩)) rfl (by kernel_rfl) (by kernel_rfl) (by kernel_rfl) (by kernel_rfl) (by kernel_rfl) (fun c a w h => by cases h.1) (.inl ⟨by rfl, fun w' hw' => by obtain ⟨k1, k2, k3, k4⟩ := hw'; go_simp⟩) hS0 ?_
    simp only [Act.put, List.setIfInBounds_toArray, List.set_cons_zero, List.set_cons_succ]
    refine HeldRound.take_anyT (i := 4) (v := v) rfl (by kernel_rfl) (by kernel_rfl) (by kernel_rfl) (by kernel_rfl) (by kernel_rfl) (fun c a w h => by cases h.1) (.inl ⟨by rfl, fun w' hw' => by obtain ⟨k1, k2, k3, k4⟩ := hw'; go_simp⟩) hS0 ?_
    simp only [Act.put, List.setIfInBounds_toArray, List.set_cons_zero, List.set_cons_succ]
    refine HeldRound.take_anyT (i := 5) (v := .slice A bad.length c) rfl (by kernel_rfl) (by kernel_rfl) (by kernel_rfl) (by kernel_rfl) (by kernel_rfl) (fun c a w h => by cases h.1) (.inl ⟨by rfl, fun w' hw' => by obtain ⟨k1, k2, k3, k4⟩ := hw'; go_simp⟩) hS0 ?_
    simp only [Act.put, List.setIfInBounds_toArray, List.set_cons_zero, List.set_cons_succ]
    refine HeldRound.take_anyT (i := 6) (v := .int .i64 x) rfl (by kernel_rfl) (by kernel_rfl) (by kernel_rfl) (by kernel_rfl) (by kernel_rfl) (fun c a w h => by cases h.1) (.inl ⟨by rfl, fun w' hw' => by obtain ⟨k1, k2, k3, k4⟩ := hw'; go_simp⟩) hS0 ?_
    simp only [Act.put, List.setIfInBounds_toArray, List.set_cons_zero, List.set_cons_succ]
    refine HeldRound.take_anyT (i := 8) (v := .int .i64 (p : Int)) rfl (by kernel_rfl) (by kernel_rfl) (by kernel_rfl) (by kernel_rfl) (by kernel_rfl) (fun c a w h => by cases h.1) (.inl ⟨by rfl, fun w' hw' => by obtain ⟨k1, k2, k3, k4⟩ := hw'; go_simp⟩) hS0 ?_
    simp only [Act.put, List.setIfInBounds_toArray, List.set_cons_zero, List.set_cons_succ]
    refine HeldRound.all_anyT (rs := [7, 9]) (by kernel_rfl) (by simp) ?_
    simp only [List.forall_mem_cons]
    refine ⟨?_, ?_, fun _ h => by cases h⟩
    · refine HeldRound.op_anyT rfl (by rfl) (fun K hK => ?_)
      go_simp
      refine (containsI X0 A c bad x (Kd.C_below HC.out (HB5.out.trans (G0.below.mono (by omega)))) HCC.out HL.out).mono ?_
      rintro ev w' ⟨rfl, hw'⟩
      rw [hw', HBB.out]
      clear hw' w'
      refine hK _ _ ⟨fun _ => SG G0, ?_⟩
      clear hK K
      refine HeldRound.all_anyT (rs := [9]) (by kernel_rfl) (by simp) ?_
      simp only [List.forall_mem_cons]
      refine ⟨?_, fun _ h => by cases h⟩
      refine HeldRound.op_anyT rfl (by rfl) (fun K hK => ?_)
      have hmk := print_make_of 34 22 (.slice none 0 0) 24 Try.underlying34 infoY rfl (by decide) p (by omega)
      have G1 := G0.alloc (.cells (madeCells #[.slice none 0 0] p) 22)
      have N1 : (X0.alloc (.cells (madeCells #[.slice none 0 0] p) 22)).heap[X0.heap.size]? = some (.cells (madeCells #[.slice none 0 0] p) 22 (0, 0)) := blk_new X0 _
      have L1 : X0.heap.size ∉ pgl := fun hm => by
        obtain ⟨i, hi, he⟩ := List.getElem_of_mem hm
        have := (Array.getElem?_eq_some_iff.1 (G0.nw.pgs i hi).2).1
        omega
      have L2 : w5.heap.size ≤ X0.heap.size := G0.size
      go_simp
      refine hK _ _ ⟨fun _ => SG G1, ?_⟩
      clear hK K hmk
      obtain ⟨q, hq⟩ : ∃ B, X0.heap.size = B := ⟨_, rfl⟩
      obtain ⟨X1, hX1⟩ : ∃ Y, X0.alloc (.cells (madeCells #[.slice none 0 0] p) 22) = Y := ⟨_, rfl⟩
      simp only [hX1, hq] at N1 G1 L1 L2 ⊢
      refine HeldRound.take_anyT (i := 10) (v := .agg #[.bool bb, .int .i64 0, .int .i64 0, .slice (some ⟨q, 0, none⟩) p p]) rfl (by kernel_rfl) (by kernel_rfl) (by kernel_rfl) (by kernel_rfl) (by kernel_rfl) (fun c a w h => by cases h.1) (.inl ⟨by rfl, fun w' hw' => by obtain ⟨k1, k2, k3, k4⟩ := hw'; go_simp⟩) (SG G1) ?_
      simp only [Act.put, List.setIfInBounds_toArray, List.set_cons_zero, List.set_cons_succ]
      refine HeldRound.all_anyT (rs := [11]) (by kernel_rfl) (by simp) ?_
      simp only [List.forall_mem_cons]
      refine ⟨?_, fun _ h => by cases h⟩
      refine HeldRound.op_anyT rfl (by rfl) (fun K hK => ?_)
      have G2 := G1.alloc (.cells #[.bool bb, .int .i64 0, .int .i64 0, .slice (some ⟨q, 0, none⟩) p p] 36)
      have N2 : (X1.alloc (.cells #[.bool bb, .int .i64 0, .int .i64 0, .slice (some ⟨q, 0, none⟩) p p] 36)).heap[X1.heap.size]? = some (.cells #[.bool bb, .int .i64 0, .int .i64 0, .slice (some ⟨q, 0, none⟩) p p] 36 (0, 0)) := blk_new X1 _
      have N12 := blk_alloc N1 (.cells #[.bool bb, .int .i64 0, .int .i64 0, .slice (some ⟨q, 0, none⟩) p p] 36)
      go_simp
      refine hK _ _ ⟨fun _ => SG G2, ?_⟩
      clear hK K
      obtain ⟨b2, hb2⟩ : ∃ B, X1.heap.size = B := ⟨_, rfl⟩
      obtain ⟨X2, hX2⟩ : ∃ Y, X1.alloc (.cells #[.bool bb, .int .i64 0, .int .i64 0, .slice (some ⟨q, 0, none⟩) p p] 36) = Y := ⟨_, rfl⟩
      simp only [hX2, hb2] at N2 G2 N12 ⊢
      refine HeldRound.all_anyT (rs := [12]) (by kernel_rfl) (by simp) ?_
      simp only [List.forall_mem_cons]
      refine ⟨?_, fun _ h => by cases h⟩
      refine HeldRound.op_anyT rfl (by rfl) (fun K hK => ?_)
      refine wp_append_lies _ _ _ 56 (by rfl) w5.heap.size 36 iB (.agg #[.bool false, .int .i64 0, .int .i64 0, .slice none 0 0]) 4 48 Try.underlying56 hiB hzB hsB hbB rfl (by decide) v _ _ (by rfl) G2.nw.row ⟨b2, 0, none⟩ 1 1 [.bool bb, .int .i64 0, .int .i64 0, .slice (some ⟨q, 0, none⟩) p p] (by rfl) rfl (row_at N2) (by simp [Value.oneCell']) (by decide) (by unfold maxLen; omega) (by omega) G2.size _ rfl ?_
      intro g3 cap3 X3 hown3 hgrow3 hat3 hlt3
      have G3 := G2.app x N12 L2 L1 hgrow3 (by unfold rowN; rw [HBB.out]; exact hown3) hgrow3.size
      refine hK _ _ ⟨fun _ => SG G3, ?_⟩
      clear hK K
      simp only [Act.put, List.setIfInBounds_toArray, List.set_cons_zero, List.set_cons_succ]
      refine HeldRound.take_anyT (i := 13) (v := .pointer (some ⟨w.heap.size + 1 + 1, 0, none⟩)) rfl (by kernel_rfl) (by kernel_rfl) (by kernel_rfl) (by kernel_rfl) (by kernel_rfl) (fun c a w h => by cases h.1) (.inl ⟨by rfl, fun w' hw' => by obtain ⟨k1, k2, k3, k4⟩ := hw'; go_simp⟩) (SG G3) ?_
      simp only [Act.put, List.setIfInBounds_toArray, List.set_cons_zero, List.set_cons_succ]
      refine HeldRound.take_anyT (i := 14) (v := .pointer (some ⟨w.heap.size + 1 + 1, 0, none⟩)) rfl (by kernel_rfl) (by kernel_rfl) (by kernel_rfl) (by kernel_rfl) (by kernel_rfl) (fun c a w h => by cases h.1) (.inl ⟨by rfl, fun w' hw' => by obtain ⟨k1, k2, k3, k4⟩ := hw'; go_simp⟩) (SG G3) ?_
      simp only [Act.put, List.setIfInBounds_toArray, List.set_cons_zero, List.set_cons_succ]
      refine HeldRound.all_anyT (rs := [15]) (by kernel_rfl) (by simp) ?_
      simp only [List.forall_mem_cons]
      refine ⟨?_, fun _ h => by cases h⟩
      refine HeldRound.op_anyT rfl (by rfl) (fun K hK => ?_)
      have cG := (blk_cell G3.nw.chip 0).trans (show (newCells v p)[0]? = some v from rfl)
      have fG : X3.frozen? ⟨w.heap.size + 1 + 1, 0, none⟩ = false := blk_frozen G3.nw.chip 0
      have G4 := G3.store
      go_simp
      refine hK _ _ ⟨fun h => absurd h (by decide), ?_⟩
      clear hK K cG fG
      try simp only [Act.put, List.setIfInBounds_toArray, List.set_cons_zero, List.set_cons_succ]
      obtain ⟨X4, hX4⟩ : ∃ Y, X3.setCell ⟨w.heap.size + 1 + 1, 0, none⟩ (.slice (some ⟨g3, 0, none⟩) (pre.length + 1) cap3) = Y := ⟨_, rfl⟩
      rw [hX4] at G4 ⊢
      clear hX4
      refine HeldRound.done_anyT (by kernel_rfl) ⟨rfl, ?_⟩ _
      gi_wp2_with fail
      exact ⟨G4.keeps.from _, G4.kp, ⟨_, _, G4.nw⟩, G4.below, by simp; omega⟩
    · refine HeldRound.op_anyT rfl (by rfl) (fun K hK => ?_)
      have hmk := print_make_of 34 22 (.slice none 0 0) 24 Try.underlying34 infoY rfl (by decide) p (by omega)
      have G1 := G0.alloc (.cells (madeCells #[.slice none 0 0] p) 22)
      have N1 : (X0.alloc (.cells (madeCells #[.slice none 0 0] p) 22)).heap[X0.heap.size]? = some (.cells (madeCells #[.slice none 0 0] p) 22 (0, 0)) := blk_new X0 _
      have L1 : X0.heap.size ∉ pgl := fun hm => by
        obtain ⟨i, hi, he⟩ := List.getElem_of_mem hm
        have := (Array.getElem?_eq_some_iff.1 (G0.nw.pgs i hi).2).1
        omega
      have L2 : w5.heap.size ≤ X0.heap.size := G0.size
      go_simp
      refine hK _ _ ⟨fun _ => SG G1, ?_⟩
      clear hK K hmk
      obtain ⟨q, hq⟩ : ∃ B, X0.heap.size = B := ⟨_, rfl⟩
      obtain ⟨X1, hX1⟩ : ∃ Y, X0.alloc (.cells (madeCells #[.slice none 0 0] p) 22) = Y := ⟨_, rfl⟩
      simp only [hX1, hq] at N1 G1 L1 L2 ⊢
      refine HeldRound.all_anyT (rs := [7]) (by kernel_rfl) (by simp) ?_
      simp only [List.forall_mem_cons]
      refine ⟨?_, fun _ h => by cases h⟩
      refine HeldRound.op_anyT rfl (by rfl) (fun K hK => ?_)
      go_simp
      refine (containsI X1 A c bad x (Kd.C_below HC.out (HB5.out.trans (G1.below.mono (by omega)))) HCC.out HL.out).mono ?_
      rintro ev w' ⟨rfl, hw'⟩
      rw [hw', HBB.out]
      clear hw' w'
      refine hK _ _ ⟨fun _ => SG G1, ?_⟩
      clear hK K
      refine HeldRound.take_anyT (i := 10) (v := .agg #[.bool bb, .int .i64 0, .int .i64 0, .slice (some ⟨q, 0, none⟩) p p]) rfl (by kernel_rfl) (by kernel_rfl) (by kernel_rfl) (by kernel_rfl) (by kernel_rfl) (fun c a w h => by cases h.1) (.inl ⟨by rfl, fun w' hw' => by obtain ⟨k1, k2, k3, k4⟩ := hw'; go_simp⟩) (SG G1) ?_
      simp only [Act.put, List.setIfInBounds_toArray, List.set_cons_zero, List.set_cons_succ]
      refine HeldRound.all_anyT (rs := [11]) (by kernel_rfl) (by simp) ?_
      simp only [List.forall_mem_cons]
      refine ⟨?_, fun _ h => by cases h⟩
      refine HeldRound.op_anyT rfl (by rfl) (fun K hK => ?_)
      have G2 := G1.alloc (.cells #[.bool bb, .int .i64 0, .int .i64 0, .slice (some ⟨q, 0, none⟩) p p] 36)
      have N2 : (X1.alloc (.cells #[.bool bb, .int .i64 0, .int .i64 0, .slice (some ⟨q, 0, none⟩) p p] 36)).heap[X1.heap.size]? = some (.cells #[.bool bb, .int .i64 0, .int .i64 0, .slice (some ⟨q, 0, none⟩) p p] 36 (0, 0)) := blk_new X1 _
      have N12 := blk_alloc N1 (.cells #[.bool bb, .int .i64 0, .int .i64 0, .slice (some ⟨q, 0, none⟩) p p] 36)
      go_simp
      refine hK _ _ ⟨fun _ => SG G2, ?_⟩
      clear hK K
      obtain ⟨b2, hb2⟩ : ∃ B, X1.heap.size = B := ⟨_, rfl⟩
      obtain ⟨X2, hX2⟩ : ∃ Y, X1.alloc (.cells #[.bool bb, .int .i64 0, .int .i64 0, .slice (some ⟨q, 0, none⟩) p p] 36) = Y := ⟨_, rfl⟩
      simp only [hX2, hb2] at N2 G2 N12 ⊢
      refine HeldRound.all_anyT (rs := [12]) (by kernel_rfl) (by simp) ?_
      simp only [List.forall_mem_cons]
      refine ⟨?_, fun _ h => by cases h⟩
      refine HeldRound.op_anyT rfl (by rfl) (fun K hK => ?_)
      refine wp_append_lies _ _ _ 56 (by rfl) w5.heap.size 36 iB (.agg #[.bool false, .int .i64 0, .int .i64 0, .slice none 0 0]) 4 48 Try.underlying56 hiB hzB hsB hbB rfl (by decide) v _ _ (by rfl) G2.nw.row ⟨b2, 0, none⟩ 1 1 [.bool bb, .int .i64 0, .int .i64 0, .slice (some ⟨q, 0, none⟩) p p] (by rfl) rfl (row_at N2) (by simp [Value.oneCell']) (by decide) (by unfold maxLen; omega) (by omega) G2.size _ rfl ?_
      intro g3 cap3 X3 hown3 hgrow3 hat3 hlt3
      have G3 := G2.app x N12 L2 L1 hgrow3 (by unfold rowN; rw [HBB.out]; exact hown3) hgrow3.size
      refine hK _ _ ⟨fun _ => SG G3, ?_⟩
      clear hK K
      simp only [Act.put, List.setIfInBounds_toArray, List.set_cons_zero, List.set_cons_succ]
      refine HeldRound.take_anyT (i := 13) (v := .pointer (some ⟨w.heap.size + 1 + 1, 0, none⟩)) rfl (by kernel_rfl) (by kernel_rfl) (by kernel_rfl) (by kernel_rfl) (by kernel_rfl) (fun c a w h => by cases h.1) (.inl ⟨by rfl, fun w' hw' => by obtain ⟨k1, k2, k3, k4⟩ := hw'; go_simp⟩) (SG G3) ?_
      simp only [Act.put, List.setIfInBounds_toArray, List.set_cons_zero, List.set_cons_succ]
      refine HeldRound.take_anyT (i := 14) (v := .pointer (some ⟨w.heap.size + 1 + 1, 0, none⟩)) rfl (by kernel_rfl) (by kernel_rfl) (by kernel_rfl) (by kernel_rfl) (by kernel_rfl) (fun c a w h => by cases h.1) (.inl ⟨by rfl, fun w' hw' => by obtain ⟨k1, k2, k3, k4⟩ := hw'; go_simp⟩) (SG G3) ?_
      simp only [Act.put, List.setIfInBounds_toArray, List.set_cons_zero, List.set_cons_succ]
      refine HeldRound.all_anyT (rs := [15]) (by kernel_rfl) (by simp) ?_
      simp only [List.forall_mem_cons]
      refine ⟨?_, fun _ h => by cases h⟩
      refine HeldRound.op_anyT rfl (by rfl) (fun K hK => ?_)
      have cG := (blk_cell G3.nw.chip 0).trans (show (newCells v p)[0]? = some v from rfl)
      have fG : X3.frozen? ⟨w.heap.size + 1 + 1, 0, none⟩ = false := blk_frozen G3.nw.chip 0
      have G4 := G3.store
      go_simp
      refine hK _ _ ⟨fun h => absurd h (by decide), ?_⟩
      clear hK K cG fG
      try simp only [Act.put, List.setIfInBounds_toArray, List.set_cons_zero, List.set_cons_succ]
      obtain ⟨X4, hX4⟩ : ∃ Y, X3.setCell ⟨w.heap.size + 1 + 1, 0, none⟩ (.slice (some ⟨g3, 0, none⟩) (pre.length + 1) cap3) = Y := ⟨_, rfl⟩
      rw [hX4] at G4 ⊢
      clear hX4
      refine HeldRound.done_anyT (by kernel_rfl) ⟨rfl, ?_⟩ _
      gi_wp2_with fail
      exact ⟨G4.keeps.from _, G4.kp, ⟨_, _, G4.nw⟩, G4.below, by simp; omega⟩
  case done =>
    rintro D ys W hD hys ⟨⟨v, pgl, hN⟩, hB, hle⟩ hK
    have cB := hN.box.cell
    have HNN := Lib.hid hN
    have HBw := Lib.hid (show Below w.heap.size w W from HB5.out.trans (hB.mono (by omega)))
    have HD0 := Lib.hid (show w5.heap.size ≤ D from hD)
    have HK := Lib.hid hK
    have HYS := Lib.hid hys
    clear hN hB hK hD hys hle
    gi_wp2_with fail
    have hfar : ∀ (o : Obj) (k t : Nat) (cs : Array Value), W.heap[k]? = some (.cells cs t (0, 0)) → (W.putObj D o).heap[k]? = some (.cells cs t (0, 0)) := fun o k t cs hk => by
      have hne : k ≠ D := by
        rintro rfl
        have := HK.out
        rw [hk] at this
        cases this
      rw [World.putObj_heap_other hne]
      exact hk
    refine ⟨by simp, .inl ⟨_, _, rfl, run_takeDeferred HK.out, ?_⟩⟩
    refine ⟨.pointer (some ⟨w.heap.size + 1 + 1, 0, none⟩), by simp [results, Try.results12, go_sem], _, v, pgl, rfl, by omega, HBw.out.trans (belowK_b (w := w) (Nat.le_refl _) _ D _ _ ?_ HK.out rfl rfl), hfar _ _ _ _ HNN.out.chip, ?_, ?_, fun i hi => ⟨?_, hfar _ _ _ _ (HNN.out.pgs i hi).2⟩, HNN.out.nodup⟩
    · have := HD0.out
      have := HZ4.out
      have := HZ5.out
      omega
    · have hr := HNN.out.row
      have hys := HYS.out
      have hlen : ys.length = n := by rw [hys, turnList_length]; omega
      rw [hlen, hys] at hr
      exact own_less (ownsRow_putObj (W := W) hr _ HK.out rfl) (by have := HZ4.out; have := HZ5.out; omega)
    · rw [HNN.out.len, HYS.out, turnList_length]
      omega
    · have := (HNN.out.pgs i hi).1
      have := HZ4.out
      have := HZ5.out
      omega
  case stop =>
    rintro D c pre W hD hp h hK
    exact h.elim
theorem turn0 (n i : Nat) (hi : i < (turnList (n : Int) 0).length) : (turnList (n : Int) 0)[i] = (i : Int) := by
  have hl : i < n := by rw [turnList_length] at hi; omega
  have h1 : turnList (n : Int) 0 = upList 0 n := by
    unfold turnList turnAt
    rw [if_neg (by omega)]
    simp [upList]
  have h2 : (turnList (n : Int) 0)[i]? = some (0 + (i : Int)) := by rw [h1]; exact upList_get 0 n i hl
  rw [List.getElem?_eq_getElem hi] at h2
  have := Option.some.inj h2
  omega
def newS (n p : Nat) (bad : List Int) : Chp := ⟨(List.range n).map (fun i : Nat => ⟨bad.contains (i : Int), 0, 0, List.replicate p []⟩), p, 0, 0, 0, -1, -1, -1, 0, false⟩
theorem newS_get (n p : Nat) (bad : List Int) (i : Nat) (B : Blk) (h : (newS n p bad).blocks[i]? = some B) : i < n ∧ B = ⟨bad.contains (i : Int), 0, 0, List.replicate p []⟩ := by
  simp only [newS, List.getElem?_map] at h
  obtain ⟨a, h1, rfl⟩ := Option.map_eq_some_iff.1 h
  have hi : i < n := by
    rcases Nat.lt_or_ge i n with hi | hi
    · exact hi
    · rw [List.getElem?_eq_none (by simpa using hi)] at h1
      cases h1
  rw [List.getElem?_range hi] at h1
  cases h1
  exact ⟨hi, rfl⟩
set_option maxHeartbeats 1000000 in
/-- New. -/
theorem new (w : World) (n p : Nat) (A : Option Addr) (c : Nat) (bad : List Int) (hC : Kd.C (Kd.int .i64) w A bad.length bad) (hc : bad.length ≤ c) (hl : bad.length ≤ 100000) (hn1 : 1 ≤ n) (hn2 : n ≤ 64) (hp1 : 1 ≤ p) (hp2 : p ≤ 32) :
    Calls Try.prog 12 #[.int .i64 (n : Int), .int .i64 (p : Int), .slice A bad.length c] w fun e w' => ∃ g, e = .returned (.pointer (some ⟨g, 0, none⟩)) ∧ IsChip w' w.heap.size (fun k => w.heap.size ≤ k) g (newS n p bad) ∧ Below w.heap.size w w' := by
  refine (callsIn_wide.1 (newIn w n p A c bad hC hc hl hn1 hn2 hp1 hp2)).mono ?_
  rintro ev w' ⟨g, v, pgl, rfl, hg, hb, hch, hrow, hpl, hpg, hnd⟩
  refine ⟨g, rfl, ?_, hb⟩
  obtain ⟨hlen, ⟨-, h0⟩ | ⟨h, cap, cur, rfl, hbh, hh, hnc, -, hsz, hx⟩⟩ := hrow
  · omega
  have hbl : (newS n p bad).blocks.length = n := by simp [newS]
  have hcell : ∀ i, i < n → ∀ j, j < 4 → ∀ (hi : i < pgl.length), cur[i * 4 + j]? = (rowN bad p (i : Int) pgl[i])[j]? := fun i hi j hj hi' => by
    have hti : i < (turnList (n : Int) 0).length := by rw [turnList_length]; omega
    have h1 := rowsN_get bad p (turnList (n : Int) 0) pgl i hi' hti j hj
    rw [turn0 n i hti, ← hx, List.getElem?_take, if_pos (by omega)] at h1
    rw [← h1]
    simp
  refine ⟨h, cap, cur, fun i => pgl.getD i 0, ?_⟩
  exact {
    okb := fun k hk => hk
    okg := hg
    okh := hbh
    okp := fun i hi => by
      rw [hbl, ← hpl] at hi
      show w.heap.size ≤ pgl.getD i 0
      rw [List.getD_eq_getElem?_getD, List.getElem?_eq_getElem hi]
      exact (hpg i hi).1
    hg := by rw [hch]; simp [Chp.cells, newCells, hbl]; simp [newS]
    hh := hh
    le := by rw [hbl]; exact hnc
    row := fun i B hB => by
      obtain ⟨hi, rfl⟩ := newS_get _ _ _ _ _ hB
      have hi' : i < pgl.length := by omega
      have e : pgl.getD i 0 = pgl[i] := by rw [List.getD_eq_getElem?_getD, List.getElem?_eq_getElem hi']; rfl
      refine ⟨?_, ?_, ?_, ?_⟩
      · have := hcell i hi 0 (by decide) hi'
        rw [Nat.add_zero] at this
        rw [this]
        rfl
      · rw [hcell i hi 1 (by decide) hi']
        rfl
      · rw [hcell i hi 2 (by decide) hi']
        rfl
      · rw [hcell i hi 3 (by decide) hi', e]
        simp [rowN]
    pgs := fun i B hB => by
      obtain ⟨hi, rfl⟩ := newS_get _ _ _ _ _ hB
      have hi' : i < pgl.length := by omega
      have e : pgl.getD i 0 = pgl[i] := by rw [List.getD_eq_getElem?_getD, List.getElem?_eq_getElem hi']; rfl
      refine ⟨madeCells #[.slice none 0 0] p, by rw [e]; exact (hpg i hi').2, fun j xs hj => ⟨.slice none 0 0, ?_, ?_⟩⟩
      · rw [List.getElem?_replicate] at hj
        split at hj
        · rename_i hjp
          have hm : (madeCells #[(.slice none 0 0 : Value)] p).toList[j]? = some (.slice none 0 0) := by rw [toList_madeCells_one, List.getElem?_replicate, if_pos hjp]
          simpa using hm
        · cases hj
      · rw [List.getElem?_replicate] at hj
        split at hj
        · cases hj
          exact Kd.R_nil _ _ _ _ _
        · cases hj
    inj := fun i j hi hj he => by
      rw [hbl, ← hpl] at hi hj
      simp only [List.getD_eq_getElem?_getD, List.getElem?_eq_getElem hi, List.getElem?_eq_getElem hj, Option.getD_some] at he
      rcases Nat.lt_trichotomy i j with hij | hij | hij
      · exact absurd he (List.pairwise_iff_getElem.1 hnd i j hi hj hij)
      · exact hij
      · exact absurd he.symm (List.pairwise_iff_getElem.1 hnd j i hj hi hij)
    inv := by
      refine ⟨?_, ?_, by rw [hbl]; exact hn2, ?_, ?_, ?_, ?_, ?_, ?_, ?_, ?_, fun B hB => ?_⟩
      all_goals first | (simp only [newS]; omega) | skip
      obtain ⟨i, hi⟩ := List.getElem?_of_mem hB
      obtain ⟨-, rfl⟩ := newS_get _ _ _ _ _ hi
      simp [newS] }
end Go.Proofs.Ytloldgiggnhemaa.Cm
