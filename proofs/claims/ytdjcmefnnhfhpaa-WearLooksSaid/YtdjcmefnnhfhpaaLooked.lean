import Derived.Test.YtdjcmefnnhfhpaaG0
import Derived.Test.YtdjcmefnnhfhpaaIterWhere
import Derived.Lib.Hide
import Derived.Maps.OwnIn
import Derived.OwnWalkIn
import Derived.RangeFuncNested
import Derived.BigQuiet
import Derived.Deep.AppendLies
import Derived.Test.YtdjcmefnnhfhpaaHeldRound
/-! wear.looked: which places are looked at, and their counts. -/
namespace Go.Proofs.Ytdjcmefnnhfhpaa.PAll
open Go.RowKit Go.Shelf Go.Proofs.YtdjcmefnnhfhpaaW.PrintWords Go.Proofs.YtdjcmefnnhfhpaaW.PrintLast Go.Proofs.YtdjcmefnnhfhpaaW.PrintMore Go.Proofs.Ytdjcmefnnhfhpaa.Iter
set_option linter.unusedVariables false
set_option linter.unusedSimpArgs false
attribute [local go_sem] max2_int min2_int
attribute [local go_sem] Oper.semAt_some

/-- The places that are looked at. -/
def places (l0 : List Int) (l1 : List Bool) : List Int := wl 0 (l1.take (min l1.length l0.length))
def wear_looked.f (k : Nat) (l0 : List Int) (l1 : List Bool) : Option (List Int × List Int) :=
  if l0.length ≤ 1000000 ∧ l1.length ≤ 1000000 then some (places l0 l1, (places l0 l1).map (fun i => rd l0 i)) else none
theorem wear_looked.mono : ∀ a0 a1 k, LeO (wear_looked.f k a0 a1) (wear_looked.f (k + 1) a0 a1) := fun _ _ _ => LeO.refl _

theorem enters30 : ∀ args w, (callFunc 30 args).run Try.prog w = .ok (.enter 30 args) w := enters_of Try.func30 (by kernel_rfl) rfl

theorem whereN (A : Option Addr) (c : Nat) (xs : List Bool) (n : Nat) (hn : xs.length = n) (w : World) (hr : Kd.C Kd.bool w A n xs) (hc : n ≤ c) (hl : n ≤ 1000000) :
    Calls Try.prog 28 #[.slice A n c] w fun e w' => ∃ g A1, e = .returned (.func (.func 30) #[] #[.pointer (some ⟨g, 0, none⟩)]) ∧
      (∀ k, WhereS g A1 k → w.heap.size ≤ k ∧ k < w'.heap.size) ∧ Below w.heap.size w w' ∧
      (∀ m, SeqStopsK Fence.wide m Try.prog 30 #[.pointer (some ⟨g, 0, none⟩)] (fun x : PlaceOf n => #[Value.int .i64 x.1]) (KpS (WhereS g A1)) (fun ys => ys.map (·.1) = wl 0 xs) (fun pre => pre.map (·.1) <+: wl 0 xs) (wl 0 xs).length w') := by
  subst hn
  refine (where_calls A c xs w hr hc (by omega)).mono ?_
  rintro e w' ⟨g, A1, c1, rfl, h1, h2, h3, h4, h5⟩
  exact ⟨g, A1, rfl, fun k hk => by rcases hk with rfl | ⟨ad, e, rfl⟩; exact ⟨h3, (Array.getElem?_eq_some_iff.1 h1).1⟩; exact h4 ad e, h5, fun m => where_places m g A1 c1 xs w' h1 h2 hl⟩

theorem int_at {w : World} {A : Option Addr} {n : Nat} {xs : List Int} (h : (Kd.int .i64).C w A n xs) (j : Nat) (hj : j < n) : ∃ ad, A = some ad ∧ w.cell? (ad.add j) = some (.int .i64 (xs.getD j 0)) := by
  obtain ⟨ad, c, e, _, hK, hc⟩ := Kd.C_get h 0 (j : Int) (by omega) (by omega)
  have hk : c = [.int .i64 (xs.getD j 0)] := hK
  refine ⟨ad, e, ?_⟩
  have hz := hc 0 (.int .i64 (xs.getD j 0)) (by rw [hk]; rfl)
  simpa [Kd.int, Kd.scalar] using hz
/-- The two slices that are filled, each in a box: apart, and each in memory of its own. -/
def Two (l0 : List Int) (B base : Nat) (pre : List Int) (W : World) : Prop :=
  ∃ v0 v1, Boxed W B 22 v0 ∧ Boxed W (B + 1) 22 v1 ∧ W.ownsRow base 3 1 v0 pre.length (pre.map (Value.int .i64)) ∧ W.ownsRow base 3 1 v1 pre.length (pre.map (fun i => Value.int .i64 (rd l0 i))) ∧ ∀ k, v0.ownBlock = some k → v1.ownBlock ≠ some k
theorem two_row {X Y : World} {row : Option Nat} {base e n : Nat} {v : Value} {xs : List Value} (hr : X.ownsRow base e 1 v n xs) (hg : X.grownBy Y row) (hrow : ∀ r, row = some r → ∃ o : Obj, X.heap[r]? = some o ∧ o.isCells = false) : Y.ownsRow base e 1 v n xs := by
  refine hr.kept hg ?_
  rcases hr.2 with ⟨rfl, _⟩ | ⟨g, cap, cur, rfl, _, hgb, _⟩
  · exact .inl rfl
  · refine .inr fun e' => ?_
    obtain ⟨o, ho, hc⟩ := hrow g (by simpa [Value.ownBlock] using e'.symm)
    rw [hgb] at ho; cases ho; cases hc
theorem two_box {X Y : World} {row : Option Nat} {B : Nat} {t : TypeId} {v : Value} (hv : Boxed X B t v) (hg : X.grownBy Y row) (hrow : ∀ r, row = some r → ∃ o : Obj, X.heap[r]? = some o ∧ o.isCells = false) : Boxed Y B t v := by
  refine hv.kept hg (fun e' => ?_)
  obtain ⟨o, ho, hc⟩ := hrow B e'.symm
  rw [show X.heap[B]? = _ from hv] at ho; cases ho; cases hc
theorem two_own {α : Type} (l0 : List Int) (B base : Nat) (f : α → List Int) : Own (fun s W => Two l0 B base (f s) W) := by
  rintro s X Y row ⟨v0, v1, h1, h2, h3, h4, h5⟩ hg hrow
  exact ⟨v0, v1, two_box h1 hg hrow, two_box h2 hg hrow, two_row h3 hg hrow, two_row h4 hg hrow, h5⟩

theorem one_at {w : World} {B : Nat} {x : Value} {t : TypeId} (h : w.heap[B]? = some (.cells #[x] t (0, 0))) : ∀ j u, [x][j]? = some u → w.cell? ((⟨B, 0, none⟩ : Addr).add j) = some u := by
  intro j u hj
  match j, hj with
  | 0, hj =>
    simp at hj
    subst hj
    simp [Addr.add, World.cell?, h]
/-- In the midst of a round: the two boxes hold u0, u1; v0 and v1 own rows, apart from one another. -/
structure Good (Sx : Nat → Prop) (W : World) (B base : Nat) (u0 u1 v0 v1 : Value) (n0 n1 : Nat) (xs0 xs1 : List Value) (X : World) : Prop where
  box0 : Boxed X B 22 u0
  box1 : Boxed X (B + 1) 22 u1
  row0 : X.ownsRow base 3 1 v0 n0 xs0
  row1 : X.ownsRow base 3 1 v1 n1 xs1
  apart : ∀ k, v0.ownBlock = some k → v1.ownBlock ≠ some k
  keeps : KeepsOthers W X
  below : Below B W X
  size : base ≤ X.heap.size
  kp : KpS Sx W X
  far : ∀ k, Sx k → B + 1 < k ∧ k < base
section
variable {Sx : Nat → Prop} {W X Y : World} {B base : Nat} {u0 u1 v0 v1 : Value} {n0 n1 : Nat} {xs0 xs1 : List Value}
theorem Good.alloc (h : Good Sx W B base u0 u1 v0 v1 n0 n1 xs0 xs1 X) (hB : B ≤ base) (o : Obj) : Good Sx W B base u0 u1 v0 v1 n0 n1 xs0 xs1 (X.alloc o) :=
  ⟨h.box0.alloc _, h.box1.alloc _, h.row0.alloc _, h.row1.alloc _, h.apart, h.keeps.trans (KeepsOthers.alloc _ _), h.below.alloc (Nat.le_trans hB h.size) _, by have := h.size; simp; omega, h.kp.trans (KpS.alloc _ _), h.far⟩
theorem keeps_row {e n : Nat} {v : Value} {xs : List Value} (hr : X.ownsRow base e 1 v n xs) (hg : X.grownBy Y v.ownBlock) : KeepsOthers X Y :=
  KeepsOthers.of_grownBy hg fun j o ej hj => by
    rcases hr.2 with ⟨rfl, _⟩ | ⟨g, cap, cur, rfl, _, hgb, _⟩
    · simp [Value.ownBlock] at ej
    · obtain rfl : g = j := by simpa [Value.ownBlock] using ej
      rw [hgb] at hj; cases hj; rfl
theorem Good.app0 (h : Good Sx W B base u0 u1 v0 v1 n0 n1 xs0 xs1 X) (hB : B ≤ base) {g c m : Nat} {xs' : List Value} (hg : X.grownBy Y v0.ownBlock) (ho : Y.ownsRow base 3 1 (.slice (some ⟨g, 0, none⟩) m c) m xs') (hat : v0.ownBlock = some g ∨ g = X.heap.size) :
    Good Sx W B base u0 u1 (.slice (some ⟨g, 0, none⟩) m c) v1 m n1 xs' xs1 Y := by
  have hne : v1.ownBlock = none ∨ v1.ownBlock ≠ v0.ownBlock := by
    cases e : v1.ownBlock with
    | none => exact .inl rfl
    | some k => exact .inr fun e' => h.apart k e'.symm e
  refine ⟨h.box0.kept hg (h.box0.not_row (by decide) h.row0), h.box1.kept hg (h.box1.not_row (by decide) h.row0), ho, h.row1.kept hg hne, fun k hk => ?_, h.keeps.trans (keeps_row h.row0 hg), h.below.grown hg (Nat.le_trans hB h.size) (fun k hk => Nat.le_trans hB (own_base h.row0 k hk)), Nat.le_trans h.size hg.size, h.kp.trans (KpS.of_grownBy hg (fun k e hk => by have := own_base h.row0 k e; have := h.far k hk; omega)), h.far⟩
  obtain rfl : g = k := by simpa [Value.ownBlock] using hk
  intro e
  rcases hat with h0 | h0
  · exact h.apart g h0 e
  · have := own_lt h.row1 g e; omega
theorem Good.app1 (h : Good Sx W B base u0 u1 v0 v1 n0 n1 xs0 xs1 X) (hB : B ≤ base) {g c m : Nat} {xs' : List Value} (hg : X.grownBy Y v1.ownBlock) (ho : Y.ownsRow base 3 1 (.slice (some ⟨g, 0, none⟩) m c) m xs') (hat : v1.ownBlock = some g ∨ g = X.heap.size) :
    Good Sx W B base u0 u1 v0 (.slice (some ⟨g, 0, none⟩) m c) n0 m xs0 xs' Y := by
  have hne : v0.ownBlock = none ∨ v0.ownBlock ≠ v1.ownBlock := by
    cases e : v0.ownBlock with
    | none => exact .inl rfl
    | some k => exact .inr fun e' => h.apart k e e'.symm
  refine ⟨h.box0.kept hg (h.box0.not_row (by decide) h.row1), h.box1.kept hg (h.box1.not_row (by decide) h.row1), h.row0.kept hg hne, ho, fun k hk e => ?_, h.keeps.trans (keeps_row h.row1 hg), h.below.grown hg (Nat.le_trans hB h.size) (fun k hk => Nat.le_trans hB (own_base h.row1 k hk)), Nat.le_trans h.size hg.size, h.kp.trans (KpS.of_grownBy hg (fun k e hk => by have := own_base h.row1 k e; have := h.far k hk; omega)), h.far⟩
  obtain rfl : g = k := by simpa [Value.ownBlock] using e
  rcases hat with h0 | h0
  · exact h.apart g hk h0
  · have := own_lt h.row0 g hk; omega
theorem row_set (hr : X.ownsRow base 3 1 v0 n0 xs0) {b : Nat} (hb : b < base) (u : Value) : (X.setCell ⟨b, 0, none⟩ u).ownsRow base 3 1 v0 n0 xs0 :=
  hr.kept (grownBy_setCell' X b u) (by
    cases e : v0.ownBlock with
    | none => exact .inl rfl
    | some k => exact .inr fun e' => by have := own_base hr k e; cases e'; omega)
theorem Good.set0 (h : Good Sx W B base u0 u1 v0 v1 n0 n1 xs0 xs1 X) (hB : B + 1 < base) (u : Value) : Good Sx W B base u u1 v0 v1 n0 n1 xs0 xs1 (X.setCell ⟨B, 0, none⟩ u) :=
  ⟨h.box0.set u, h.box1.other (by omega) u, row_set h.row0 (by omega) u, row_set h.row1 (by omega) u, h.apart, h.keeps.trans (KeepsOthers.setCell _ _ _), h.below.setCell (p := ⟨B, 0, none⟩) (Nat.le_refl _) _, by simpa [World.setCell] using h.size, h.kp.trans (KpS.setCell _ _ _ (fun hk => by have := h.far _ hk; omega)), h.far⟩
theorem Good.set1 (h : Good Sx W B base u0 u1 v0 v1 n0 n1 xs0 xs1 X) (hB : B + 1 < base) (u : Value) : Good Sx W B base u0 u v0 v1 n0 n1 xs0 xs1 (X.setCell ⟨B + 1, 0, none⟩ u) :=
  ⟨h.box0.other (by omega) u, h.box1.set u, row_set h.row0 (by omega) u, row_set h.row1 (by omega) u, h.apart, h.keeps.trans (KeepsOthers.setCell _ _ _), h.below.setCell (p := ⟨B + 1, 0, none⟩) (Nat.le_succ _) _, by simpa [World.setCell] using h.size, h.kp.trans (KpS.setCell _ _ _ (fun hk => by have := h.far _ hk; omega)), h.far⟩
end

set_option maxHeartbeats 4000000 in
set_option maxRecDepth 100000 in
theorem looked_lt (w : World) (A0 : Option Addr) (c0 : Nat) (l0 : List Int) (A1 : Option Addr) (c1 : Nat) (xs : List Bool) (n0 n1 m : Nat) (hr0 : Kd.C (Kd.int .i64) w A0 n0 l0) (hc0 : n0 ≤ c0) (hr1 : Kd.C Kd.bool w A1 m xs) (hc1 : n1 ≤ c1) (hl0 : n0 ≤ 1000000) (hl1 : n1 ≤ 1000000)
    (hlt : n0 < n1) (hm : n0 = m) (hxm : xs.length = m) :
    CallsIn Fence.wide 9 Try.prog 23 #[.slice A0 n0 c0, .slice A1 n1 c1] w fun e w' => ∃ v0 v1, e = .returned (.tuple #[v0, v1]) ∧ w'.ownsRow w.heap.size 3 1 v0 (wl 0 xs).length ((wl 0 xs).map (Value.int .i64)) ∧ w'.ownsRow w.heap.size 3 1 v1 (wl 0 xs).length ((wl 0 xs).map (fun i => Value.int .i64 (rd l0 i))) ∧ (∀ k, v0.ownBlock = some k → v1.ownBlock ≠ some k) ∧ Below w.heap.size w w' := by
  have HR0 := Lib.hid hr0
  have HR1 := Lib.hid hr1
  clear hr0 hr1
  obtain ⟨i0, hi, hz0, hz1, hz2⟩ := info_parts info3
  refine callsIn_of_wp_marks Try.func23 rfl trivial ?_ rfl
  simp only [Try.ntmps23, List.size_toArray, List.length_cons, List.length_nil, Nat.reduceAdd, Nat.reduceSub, Array.replicate_succ, Array.replicate_zero, List.push_toArray, List.append_toArray, List.nil_append, List.cons_append]
  have hmc : m ≤ c1 := by omega
  have hml : m ≤ 1000000 := by omega
  have hmn : m ≤ n0 := by omega
  subst hm
  gi_wp2_with fail
  refine ⟨trivial, ?_⟩
  obtain ⟨w3, hw3⟩ : ∃ w3, ((w.alloc (.cells #[.slice A0 n0 c0] 22)).alloc (.cells #[.slice none 0 0] 22)).alloc (.cells #[.slice none 0 0] 22) = w3 := ⟨_, rfl⟩
  rw [hw3]
  have q0 : Boxed w3 w.heap.size 22 (.slice A0 n0 c0) := by rw [← hw3]; exact ((Boxed.new w 22 _).alloc _).alloc _
  have q1 : Boxed w3 (w.heap.size + 1) 22 (.slice none 0 0) := by rw [← hw3]; have := (Boxed.new (w.alloc (.cells #[.slice A0 n0 c0] 22)) 22 (.slice none 0 0)).alloc (.cells #[.slice none 0 0] 22); rw [World.size_alloc] at this; exact this
  have q2 : Boxed w3 (w.heap.size + 1 + 1) 22 (.slice none 0 0) := by rw [← hw3]; have := Boxed.new ((w.alloc (.cells #[.slice A0 n0 c0] 22)).alloc (.cells #[.slice none 0 0] 22)) 22 (.slice none 0 0); rw [World.size_alloc, World.size_alloc] at this; exact this
  have hz3 : w3.heap.size = w.heap.size + 3 := by rw [← hw3]; simp
  have hB3 : Below w.heap.size w w3 := by rw [← hw3]; exact below_alloc (below_alloc (below_alloc (Below.refl _ _) _) _) _
  have HZ3 := Lib.hid hz3
  have HB3 := Lib.hid hB3
  have Q0 := Lib.hid q0
  have Q1 := Lib.hid q1
  have Q2 := Lib.hid q2
  clear hz3 hB3 hw3 q0 q1 q2
  refine (callsIn_wide.2 (whereN A1 c1 _ _ hxm w3 (Kd.C_below HR1.out HB3.out) hmc hml)).mono ?_
  rintro e w4 ⟨g, A5, rfl, hS, hb4, hseq⟩
  have HS := Lib.hid hS
  have HSEQ := Lib.hid (hseq 8)
  have HB4 := Lib.hid (below_step HB3.out hb4)
  have HZ4 := Lib.hid (show w3.heap.size ≤ w4.heap.size from hb4.size)
  have P0 := Lib.hid (blk_below Q0.out hb4)
  have P1 := Lib.hid (show Boxed w4 (w.heap.size + 1) 22 (.slice none 0 0) from blk_below Q1.out hb4)
  have P2 := Lib.hid (show Boxed w4 (w.heap.size + 1 + 1) 22 (.slice none 0 0) from blk_below Q2.out hb4)
  clear hS hb4 hseq Q0 Q1 Q2
  gi_wp2_with fail
  refine' wpIn_rangeFunc_ownG rfl (by omega) (gf := 30) (lb := #[.pointer (some ⟨g, 0, none⟩)]) rfl trivial enters30
    HSEQ.out KpS.t (KpS.b (B := w4.heap.size)) (Below.refl _ _) (fun _ => rfl)
    (fun pre W => Two l0 (w.heap.size + 1) w4.heap.size (pre.map (·.1)) W ∧ Below (w.heap.size + 1) w4 W ∧ pre.length ≤ (wl 0 xs).length)
    (fun c pre W => False)
    (OwnFrom.and (Own.from (two_own l0 _ _ _) _) (OwnFrom.and (ownFrom_below (by have := HZ3.out; have := HZ4.out; omega) (by have := HZ3.out; have := HZ4.out; omega)) (ownFrom_pure _ _)))
    (fun c => ownFrom_pure _ (fun pre => False))
    ⟨⟨_, _, P1.out, P2.out, World.ownsRow_nil _ _ _ _, World.ownsRow_nil _ _ _ _, fun k e => by cases e⟩, Below.refl _ _, Nat.zero_le _⟩
    _ ?assign ?body ?done ?stop
  case assign =>
    intro l x W K hK
    gi_wp2
    exact hK
  case body =>
    rintro l pre ⟨x, hx0, hx1⟩ W ⟨⟨v0, v1, hv0, hv1, ho0, ho1, hap⟩, hB, hle⟩ hpl
    obtain ⟨q, rfl⟩ := Int.eq_ofNat_of_zero_le hx0
    obtain ⟨ad, e, ha1⟩ := int_at HR0.out q (by omega)
    cases e
    have hadlt : (ad.add q).block < w.heap.size := World.block_lt_of_cell? w _ ha1
    replace ha1 := pw_cell_below (HB4.out.trans (hB.mono (by omega))) ha1
    have cC : W.cell? ⟨w.heap.size, 0, none⟩ = some (.slice (some ad) n0 c0) := (show Boxed W w.heap.size 22 (.slice (some ad) n0 c0) from (hB.block _ (by omega)).trans P0.out).cell
    have i0' : (0 : Int) ≤ (q : Int) := by omega
    have i1' : (q : Int) < (n0 : Int) := by omega
    have cP := hv0.cell
    have cL := hv1.cell
    gi_wp2_with fail
    obtain ⟨Z, hZ⟩ : ∃ Z, l0.getD q 0 = Z := ⟨_, rfl⟩
    rw [hZ] at ha1
    have HZZ := Lib.hid hZ
    clear hZ
    refine HeldRound.region_round (fun j => j == 11 || j == 12) (fun w' : World => w'.cell? ⟨w.heap.size, 0, none⟩ = some (.slice (some ad) n0 c0) ∧ w'.cell? ⟨w.heap.size + 1, 0, none⟩ = some v0 ∧ w'.cell? ⟨w.heap.size + 1 + 1, 0, none⟩ = some v1 ∧ w'.cell? (ad.add q) = some (.int .i64 Z)) (by kernel_rfl) (by kernel_rfl) ?_
    rw [List.length_map] at ho0 ho1
    have G0 : Good (WhereS g A5) W (w.heap.size + 1) w4.heap.size v0 v1 v0 v1 _ _ _ _ W.drew := ⟨hv0, hv1, ho0, ho1, hap, KeepsOthers.drew W, pw_below_drewN (Below.refl _ _) 1, by have := hB.size; simpa using this, KpS.refl _ _, fun k hk => by have := HS.out k hk; have := HZ3.out; omega⟩
    have SG : ∀ {u0 u1 : Value} {n0' n1' : Nat} {xs0 xs1 : List Value} {w' : World}, Good (WhereS g A5) W (w.heap.size + 1) w4.heap.size v0 v1 u0 u1 n0' n1' xs0 xs1 w' → w'.cell? ⟨w.heap.size, 0, none⟩ = some (.slice (some ad) n0 c0) ∧ w'.cell? ⟨w.heap.size + 1, 0, none⟩ = some v0 ∧ w'.cell? ⟨w.heap.size + 1 + 1, 0, none⟩ = some v1 ∧ w'.cell? (ad.add q) = some (.int .i64 Z) := fun h => ⟨(h.below.cell (Nat.lt_succ_self _)).trans cC, h.box0.cell, h.box1.cell, (h.below.cell (Nat.lt_succ_of_lt hadlt)).trans ha1⟩
    obtain ⟨X0, hX0⟩ : ∃ X, X = W.drew := ⟨_, rfl⟩
    rw [← hX0] at G0 ⊢
    have hS0 := SG G0
    have hpl1 : pre.length ≤ 1000000 := by have := wl_length_le xs 0; omega
    have hB0 : w.heap.size + 1 ≤ w4.heap.size := by have := HZ3.out; have := HZ4.out; omega
    have hB1 : w.heap.size + 1 + 1 < w4.heap.size := by have := HZ3.out; have := HZ4.out; omega
    have HBW := Lib.hid hB
    have HRD := Lib.hid (show rd l0 (q : Int) = Z by unfold rd; simpa using HZZ.out)
    clear hX0 hv0 hv1 ho0 ho1 hap cP cL cC ha1
    refine HeldRound.take_anyT (i := 1) (v := .int .i64 (q : Int)) rfl (by kernel_rfl) (by kernel_rfl) (by kernel_rfl) (by kernel_rfl) (by kernel_rfl) (fun c a w h => by cases h.1) (.inl ⟨by rfl, fun w' hw' => by obtain ⟨k1, k2, k3, k4⟩ := hw'; go_simp⟩) hS0 ?_
    simp only [Act.put, List.setIfInBounds_toArray, List.set_cons_zero, List.set_cons_succ]
    refine HeldRound.take_anyT (i := 6) (v := .int .i64 (q : Int)) rfl (by kernel_rfl) (by kernel_rfl) (by kernel_rfl) (by kernel_rfl) (by kernel_rfl) (fun c a w h => by cases h.1) (.inl ⟨by rfl, fun w' hw' => by obtain ⟨k1, k2, k3, k4⟩ := hw'; go_simp⟩) hS0 ?_
    simp only [Act.put, List.setIfInBounds_toArray, List.set_cons_zero, List.set_cons_succ]
    refine HeldRound.take_anyT (i := 0) (v := v0) rfl (by kernel_rfl) (by kernel_rfl) (by kernel_rfl) (by kernel_rfl) (by kernel_rfl) (fun c a w h => by cases h.1) (.inl ⟨by rfl, fun w' hw' => by obtain ⟨k1, k2, k3, k4⟩ := hw'; go_simp⟩) hS0 ?_
    simp only [Act.put, List.setIfInBounds_toArray, List.set_cons_zero, List.set_cons_succ]
    refine HeldRound.take_anyT (i := 4) (v := v1) rfl (by kernel_rfl) (by kernel_rfl) (by kernel_rfl) (by kernel_rfl) (by kernel_rfl) (fun c a w h => by cases h.1) (.inl ⟨by rfl, fun w' hw' => by obtain ⟨k1, k2, k3, k4⟩ := hw'; go_simp⟩) hS0 ?_
    simp only [Act.put, List.setIfInBounds_toArray, List.set_cons_zero, List.set_cons_succ]
    refine HeldRound.take_anyT (i := 5) (v := .slice (some ad) n0 c0) rfl (by kernel_rfl) (by kernel_rfl) (by kernel_rfl) (by kernel_rfl) (by kernel_rfl) (fun c a w h => by cases h.1) (.inl ⟨by rfl, fun w' hw' => by obtain ⟨k1, k2, k3, k4⟩ := hw'; go_simp⟩) hS0 ?_
    simp only [Act.put, List.setIfInBounds_toArray, List.set_cons_zero, List.set_cons_succ]
    refine HeldRound.take_anyT (i := 7) (v := .pointer (some (ad.add q))) rfl (by kernel_rfl) (by kernel_rfl) (by kernel_rfl) (by kernel_rfl) (by kernel_rfl) (fun c a w h => by cases h.1) (.inl ⟨by rfl, fun w' hw' => by obtain ⟨k1, k2, k3, k4⟩ := hw'; go_simp⟩) hS0 ?_
    simp only [Act.put, List.setIfInBounds_toArray, List.set_cons_zero, List.set_cons_succ]
    refine HeldRound.take_anyT (i := 8) (v := .int .i64 Z) rfl (by kernel_rfl) (by kernel_rfl) (by kernel_rfl) (by kernel_rfl) (by kernel_rfl) (fun c a w h => by cases h.1) (.inl ⟨by rfl, fun w' hw' => by obtain ⟨k1, k2, k3, k4⟩ := hw'; go_simp⟩) hS0 ?_
    simp only [Act.put, List.setIfInBounds_toArray, List.set_cons_zero, List.set_cons_succ]
    refine HeldRound.all_anyT (rs := [2, 9]) (by kernel_rfl) (by simp) ?_
    simp only [List.forall_mem_cons]
    refine ⟨?_, ?_, fun _ h => by cases h⟩
    · refine HeldRound.op_anyT rfl (by rfl) (fun K hK => ?_)
      have G1 := G0.alloc hB0 (.cells #[.int .i64 (q : Int)] 3)
      have N1 : (X0.alloc (.cells #[.int .i64 (q : Int)] 3)).heap[X0.heap.size]? = some (.cells #[.int .i64 (q : Int)] 3 (0, 0)) := blk_new X0 _
      have L1 : ∀ k, v0.ownBlock = some k → k < X0.heap.size := fun k hk => own_lt G0.row0 k hk
      go_simp
      refine hK _ _ ⟨fun _ => SG G1, ?_⟩
      clear hK K
      obtain ⟨B1, hB1e⟩ : ∃ B, X0.heap.size = B := ⟨_, rfl⟩
      obtain ⟨X1, hX1⟩ : ∃ Y, X0.alloc (.cells #[.int .i64 (q : Int)] 3) = Y := ⟨_, rfl⟩
      simp only [hX1, hB1e] at N1 G1 L1 ⊢
      refine HeldRound.all_anyT (rs := [3, 9]) (by kernel_rfl) (by simp) ?_
      simp only [List.forall_mem_cons]
      refine ⟨?_, ?_, fun _ h => by cases h⟩
      · refine HeldRound.op_anyT rfl (by rfl) (fun K hK => ?_)
        refine wp_append_lies _ _ _ 22 (by rfl) w4.heap.size 3 i0 (.int .i64 0) 1 8 Try.underlying22 hi hz0 hz1 hz2 rfl (by decide) v0 _ _ (by rfl) G1.row0 ⟨B1, 0, none⟩ 1 1 [.int .i64 (q : Int)] (by rfl) rfl (one_at N1) (by simp [Value.oneCell']) (by decide) (by unfold maxLen; omega) (by omega) G1.size _ rfl ?_
        intro g2 cap2 X2 hown2 hgrow2 hat2 hlt2
        have G2 := G1.app0 hB0 hgrow2 hown2 hat2
        refine hK _ _ ⟨fun _ => SG G2, ?_⟩
        clear hK K
        simp only [Act.put, List.setIfInBounds_toArray, List.set_cons_zero, List.set_cons_succ]
        refine HeldRound.all_anyT (rs := [9]) (by kernel_rfl) (by simp) ?_
        simp only [List.forall_mem_cons]
        refine ⟨?_, fun _ h => by cases h⟩
        · refine HeldRound.op_anyT rfl (by rfl) (fun K hK => ?_)
          have G3 := G2.alloc hB0 (.cells #[.int .i64 Z] 3)
          have N3 : (X2.alloc (.cells #[.int .i64 Z] 3)).heap[X2.heap.size]? = some (.cells #[.int .i64 Z] 3 (0, 0)) := blk_new X2 _
          have N3_2 := blk_alloc N1 (.cells #[.int .i64 Z] 3)
          go_simp
          refine hK _ _ ⟨fun _ => SG G3, ?_⟩
          clear hK K
          obtain ⟨B3, hB3e⟩ : ∃ B, X2.heap.size = B := ⟨_, rfl⟩
          obtain ⟨X3, hX3⟩ : ∃ Y, X2.alloc (.cells #[.int .i64 Z] 3) = Y := ⟨_, rfl⟩
          simp only [hX3, hB3e] at N3 G3 N3_2 ⊢
          refine HeldRound.all_anyT (rs := [10]) (by kernel_rfl) (by simp) ?_
          simp only [List.forall_mem_cons]
          refine ⟨?_, fun _ h => by cases h⟩
          · refine HeldRound.op_anyT rfl (by rfl) (fun K hK => ?_)
            refine wp_append_lies _ _ _ 22 (by rfl) w4.heap.size 3 i0 (.int .i64 0) 1 8 Try.underlying22 hi hz0 hz1 hz2 rfl (by decide) v1 _ _ (by rfl) G3.row1 ⟨B3, 0, none⟩ 1 1 [.int .i64 Z] (by rfl) rfl (one_at N3) (by simp [Value.oneCell']) (by decide) (by unfold maxLen; omega) (by omega) G3.size _ rfl ?_
            intro g4 cap4 X4 hown4 hgrow4 hat4 hlt4
            have G4 := G3.app1 hB0 hgrow4 hown4 hat4
            refine hK _ _ ⟨fun _ => SG G4, ?_⟩
            clear hK K
            simp only [Act.put, List.setIfInBounds_toArray, List.set_cons_zero, List.set_cons_succ]
            refine HeldRound.all_anyT (rs := [11]) (by kernel_rfl) (by simp) ?_
            simp only [List.forall_mem_cons]
            refine ⟨?_, fun _ h => by cases h⟩
            · refine HeldRound.op_anyT rfl (by rfl) (fun K hK => ?_)
              have cb := G4.box0.cell
              have fb := G4.box0.frozen
              have G5 := G4.set0 hB1 (.slice (some ⟨g2, 0, none⟩) (pre.length + 1) cap2)
              go_simp
              refine hK _ _ ⟨fun h => absurd h (by decide), ?_⟩
              clear hK K cb fb
              try simp only [Act.put, List.setIfInBounds_toArray, List.set_cons_zero, List.set_cons_succ]
              obtain ⟨X5, hX5⟩ : ∃ Y, X4.setCell ⟨w.heap.size + 1, 0, none⟩ (.slice (some ⟨g2, 0, none⟩) (pre.length + 1) cap2) = Y := ⟨_, rfl⟩
              rw [hX5] at G5 ⊢
              clear hX5
              refine HeldRound.all_anyT (rs := [12]) (by kernel_rfl) (by simp) ?_
              simp only [List.forall_mem_cons]
              refine ⟨?_, fun _ h => by cases h⟩
              · refine HeldRound.op_anyT rfl (by rfl) (fun K hK => ?_)
                have cb := G5.box1.cell
                have fb := G5.box1.frozen
                have G6 := G5.set1 hB1 (.slice (some ⟨g4, 0, none⟩) (pre.length + 1) cap4)
                go_simp
                refine hK _ _ ⟨fun h => absurd h (by decide), ?_⟩
                clear hK K cb fb
                try simp only [Act.put, List.setIfInBounds_toArray, List.set_cons_zero, List.set_cons_succ]
                obtain ⟨X6, hX6⟩ : ∃ Y, X5.setCell ⟨w.heap.size + 1 + 1, 0, none⟩ (.slice (some ⟨g4, 0, none⟩) (pre.length + 1) cap4) = Y := ⟨_, rfl⟩
                rw [hX6] at G6 ⊢
                clear hX6
                refine HeldRound.done_anyT (by kernel_rfl) ⟨rfl, ?_⟩ _
                gi_wp2_with fail
                exact ⟨G6.keeps.from _, G6.kp, ⟨_, _, G6.box0, G6.box1, by simpa using G6.row0, by simpa [HRD.out] using G6.row1, G6.apart⟩, HBW.out.trans G6.below, by simp; omega⟩
      · refine HeldRound.op_anyT rfl (by rfl) (fun K hK => ?_)
        have G7 := G1.alloc hB0 (.cells #[.int .i64 Z] 3)
        have N7 : (X1.alloc (.cells #[.int .i64 Z] 3)).heap[X1.heap.size]? = some (.cells #[.int .i64 Z] 3 (0, 0)) := blk_new X1 _
        have N7_2 := blk_alloc N1 (.cells #[.int .i64 Z] 3)
        have L7 : ∀ k, v0.ownBlock = some k → k < X1.heap.size := fun k hk => own_lt G1.row0 k hk
        go_simp
        refine hK _ _ ⟨fun _ => SG G7, ?_⟩
        clear hK K
        obtain ⟨B7, hB7e⟩ : ∃ B, X1.heap.size = B := ⟨_, rfl⟩
        obtain ⟨X7, hX7⟩ : ∃ Y, X1.alloc (.cells #[.int .i64 Z] 3) = Y := ⟨_, rfl⟩
        simp only [hX7, hB7e] at N7 G7 N7_2 L7 ⊢
        refine HeldRound.all_anyT (rs := [3]) (by kernel_rfl) (by simp) ?_
        simp only [List.forall_mem_cons]
        refine ⟨?_, fun _ h => by cases h⟩
        · refine HeldRound.op_anyT rfl (by rfl) (fun K hK => ?_)
          refine wp_append_lies _ _ _ 22 (by rfl) w4.heap.size 3 i0 (.int .i64 0) 1 8 Try.underlying22 hi hz0 hz1 hz2 rfl (by decide) v0 _ _ (by rfl) G7.row0 ⟨B1, 0, none⟩ 1 1 [.int .i64 (q : Int)] (by rfl) rfl (one_at N7_2) (by simp [Value.oneCell']) (by decide) (by unfold maxLen; omega) (by omega) G7.size _ rfl ?_
          intro g8 cap8 X8 hown8 hgrow8 hat8 hlt8
          have G8 := G7.app0 hB0 hgrow8 hown8 hat8
          have N8_9 := (hgrow8.block B7 (Array.getElem?_eq_some_iff.1 N7).1 (fun e => by have := L7 B7 e.symm; omega)).trans N7
          refine hK _ _ ⟨fun _ => SG G8, ?_⟩
          clear hK K
          simp only [Act.put, List.setIfInBounds_toArray, List.set_cons_zero, List.set_cons_succ]
          refine HeldRound.all_anyT (rs := [10]) (by kernel_rfl) (by simp) ?_
          simp only [List.forall_mem_cons]
          refine ⟨?_, fun _ h => by cases h⟩
          · refine HeldRound.op_anyT rfl (by rfl) (fun K hK => ?_)
            refine wp_append_lies _ _ _ 22 (by rfl) w4.heap.size 3 i0 (.int .i64 0) 1 8 Try.underlying22 hi hz0 hz1 hz2 rfl (by decide) v1 _ _ (by rfl) G8.row1 ⟨B7, 0, none⟩ 1 1 [.int .i64 Z] (by rfl) rfl (one_at N8_9) (by simp [Value.oneCell']) (by decide) (by unfold maxLen; omega) (by omega) G8.size _ rfl ?_
            intro g9 cap9 X9 hown9 hgrow9 hat9 hlt9
            have G9 := G8.app1 hB0 hgrow9 hown9 hat9
            refine hK _ _ ⟨fun _ => SG G9, ?_⟩
            clear hK K
            simp only [Act.put, List.setIfInBounds_toArray, List.set_cons_zero, List.set_cons_succ]
            refine HeldRound.all_anyT (rs := [11]) (by kernel_rfl) (by simp) ?_
            simp only [List.forall_mem_cons]
            refine ⟨?_, fun _ h => by cases h⟩
            · refine HeldRound.op_anyT rfl (by rfl) (fun K hK => ?_)
              have cb := G9.box0.cell
              have fb := G9.box0.frozen
              have G10 := G9.set0 hB1 (.slice (some ⟨g8, 0, none⟩) (pre.length + 1) cap8)
              go_simp
              refine hK _ _ ⟨fun h => absurd h (by decide), ?_⟩
              clear hK K cb fb
              try simp only [Act.put, List.setIfInBounds_toArray, List.set_cons_zero, List.set_cons_succ]
              obtain ⟨X10, hX10⟩ : ∃ Y, X9.setCell ⟨w.heap.size + 1, 0, none⟩ (.slice (some ⟨g8, 0, none⟩) (pre.length + 1) cap8) = Y := ⟨_, rfl⟩
              rw [hX10] at G10 ⊢
              clear hX10
              refine HeldRound.all_anyT (rs := [12]) (by kernel_rfl) (by simp) ?_
              simp only [List.forall_mem_cons]
              refine ⟨?_, fun _ h => by cases h⟩
              · refine HeldRound.op_anyT rfl (by rfl) (fun K hK => ?_)
                have cb := G10.box1.cell
                have fb := G10.box1.frozen
                have G11 := G10.set1 hB1 (.slice (some ⟨g9, 0, none⟩) (pre.length + 1) cap9)
                go_simp
                refine hK _ _ ⟨fun h => absurd h (by decide), ?_⟩
                clear hK K cb fb
                try simp only [Act.put, List.setIfInBounds_toArray, List.set_cons_zero, List.set_cons_succ]
                obtain ⟨X11, hX11⟩ : ∃ Y, X10.setCell ⟨w.heap.size + 1 + 1, 0, none⟩ (.slice (some ⟨g9, 0, none⟩) (pre.length + 1) cap9) = Y := ⟨_, rfl⟩
                rw [hX11] at G11 ⊢
                clear hX11
                refine HeldRound.done_anyT (by kernel_rfl) ⟨rfl, ?_⟩ _
                gi_wp2_with fail
                exact ⟨G11.keeps.from _, G11.kp, ⟨_, _, G11.box0, G11.box1, by simpa using G11.row0, by simpa [HRD.out] using G11.row1, G11.apart⟩, HBW.out.trans G11.below, by simp; omega⟩
    · refine HeldRound.op_anyT rfl (by rfl) (fun K hK => ?_)
      have G12 := G0.alloc hB0 (.cells #[.int .i64 Z] 3)
      have N12 : (X0.alloc (.cells #[.int .i64 Z] 3)).heap[X0.heap.size]? = some (.cells #[.int .i64 Z] 3 (0, 0)) := blk_new X0 _
      have L12 : ∀ k, v0.ownBlock = some k → k < X0.heap.size := fun k hk => own_lt G0.row0 k hk
      go_simp
      refine hK _ _ ⟨fun _ => SG G12, ?_⟩
      clear hK K
      obtain ⟨B12, hB12e⟩ : ∃ B, X0.heap.size = B := ⟨_, rfl⟩
      obtain ⟨X12, hX12⟩ : ∃ Y, X0.alloc (.cells #[.int .i64 Z] 3) = Y := ⟨_, rfl⟩
      simp only [hX12, hB12e] at N12 G12 L12 ⊢
      refine HeldRound.all_anyT (rs := [2]) (by kernel_rfl) (by simp) ?_
      simp only [List.forall_mem_cons]
      refine ⟨?_, fun _ h => by cases h⟩
      · refine HeldRound.op_anyT rfl (by rfl) (fun K hK => ?_)
        have G13 := G12.alloc hB0 (.cells #[.int .i64 (q : Int)] 3)
        have N13 : (X12.alloc (.cells #[.int .i64 (q : Int)] 3)).heap[X12.heap.size]? = some (.cells #[.int .i64 (q : Int)] 3 (0, 0)) := blk_new X12 _
        have N13_9 := blk_alloc N12 (.cells #[.int .i64 (q : Int)] 3)
        have L13 : ∀ k, v0.ownBlock = some k → k < X12.heap.size := fun k hk => own_lt G12.row0 k hk
        go_simp
        refine hK _ _ ⟨fun _ => SG G13, ?_⟩
        clear hK K
        obtain ⟨B13, hB13e⟩ : ∃ B, X12.heap.size = B := ⟨_, rfl⟩
        obtain ⟨X13, hX13⟩ : ∃ Y, X12.alloc (.cells #[.int .i64 (q : Int)] 3) = Y := ⟨_, rfl⟩
        simp only [hX13, hB13e] at N13 G13 N13_9 L13 ⊢
        refine HeldRound.all_anyT (rs := [3]) (by kernel_rfl) (by simp) ?_
        simp only [List.forall_mem_cons]
        refine ⟨?_, fun _ h => by cases h⟩
        · refine HeldRound.op_anyT rfl (by rfl) (fun K hK => ?_)
          refine wp_append_lies _ _ _ 22 (by rfl) w4.heap.size 3 i0 (.int .i64 0) 1 8 Try.underlying22 hi hz0 hz1 hz2 rfl (by decide) v0 _ _ (by rfl) G13.row0 ⟨B13, 0, none⟩ 1 1 [.int .i64 (q : Int)] (by rfl) rfl (one_at N13) (by simp [Value.oneCell']) (by decide) (by unfold maxLen; omega) (by omega) G13.size _ rfl ?_
          intro g14 cap14 X14 hown14 hgrow14 hat14 hlt14
          have G14 := G13.app0 hB0 hgrow14 hown14 hat14
          have N14_9 := (hgrow14.block B12 (Array.getElem?_eq_some_iff.1 N13_9).1 (fun e => by have := L12 B12 e.symm; omega)).trans N13_9
          refine hK _ _ ⟨fun _ => SG G14, ?_⟩
          clear hK K
          simp only [Act.put, List.setIfInBounds_toArray, List.set_cons_zero, List.set_cons_succ]
          refine HeldRound.all_anyT (rs := [10]) (by kernel_rfl) (by simp) ?_
          simp only [List.forall_mem_cons]
          refine ⟨?_, fun _ h => by cases h⟩
          · refine HeldRound.op_anyT rfl (by rfl) (fun K hK => ?_)
            refine wp_append_lies _ _ _ 22 (by rfl) w4.heap.size 3 i0 (.int .i64 0) 1 8 Try.underlying22 hi hz0 hz1 hz2 rfl (by decide) v1 _ _ (by rfl) G14.row1 ⟨B12, 0, none⟩ 1 1 [.int .i64 Z] (by rfl) rfl (one_at N14_9) (by simp [Value.oneCell']) (by decide) (by unfold maxLen; omega) (by omega) G14.size _ rfl ?_
            intro g15 cap15 X15 hown15 hgrow15 hat15 hlt15
            have G15 := G14.app1 hB0 hgrow15 hown15 hat15
            refine hK _ _ ⟨fun _ => SG G15, ?_⟩
            clear hK K
            simp only [Act.put, List.setIfInBounds_toArray, List.set_cons_zero, List.set_cons_succ]
            refine HeldRound.all_anyT (rs := [11]) (by kernel_rfl) (by simp) ?_
            simp only [List.forall_mem_cons]
            refine ⟨?_, fun _ h => by cases h⟩
            · refine HeldRound.op_anyT rfl (by rfl) (fun K hK => ?_)
              have cb := G15.box0.cell
              have fb := G15.box0.frozen
              have G16 := G15.set0 hB1 (.slice (some ⟨g14, 0, none⟩) (pre.length + 1) cap14)
              go_simp
              refine hK _ _ ⟨fun h => absurd h (by decide), ?_⟩
              clear hK K cb fb
              try simp only [Act.put, List.setIfInBounds_toArray, List.set_cons_zero, List.set_cons_succ]
              obtain ⟨X16, hX16⟩ : ∃ Y, X15.setCell ⟨w.heap.size + 1, 0, none⟩ (.slice (some ⟨g14, 0, none⟩) (pre.length + 1) cap14) = Y := ⟨_, rfl⟩
              rw [hX16] at G16 ⊢
              clear hX16
              refine HeldRound.all_anyT (rs := [12]) (by kernel_rfl) (by simp) ?_
              simp only [List.forall_mem_cons]
              refine ⟨?_, fun _ h => by cases h⟩
              · refine HeldRound.op_anyT rfl (by rfl) (fun K hK => ?_)
                have cb := G16.box1.cell
                have fb := G16.box1.frozen
                have G17 := G16.set1 hB1 (.slice (some ⟨g15, 0, none⟩) (pre.length + 1) cap15)
                go_simp
                refine hK _ _ ⟨fun h => absurd h (by decide), ?_⟩
                clear hK K cb fb
                try simp only [Act.put, List.setIfInBounds_toArray, List.set_cons_zero, List.set_cons_succ]
                obtain ⟨X17, hX17⟩ : ∃ Y, X16.setCell ⟨w.heap.size + 1 + 1, 0, none⟩ (.slice (some ⟨g15, 0, none⟩) (pre.length + 1) cap15) = Y := ⟨_, rfl⟩
                rw [hX17] at G17 ⊢
                clear hX17
                refine HeldRound.done_anyT (by kernel_rfl) ⟨rfl, ?_⟩ _
                gi_wp2_with fail
                exact ⟨G17.keeps.from _, G17.kp, ⟨_, _, G17.box0, G17.box1, by simpa using G17.row0, by simpa [HRD.out] using G17.row1, G17.apart⟩, HBW.out.trans G17.below, by simp; omega⟩
  case done =>
    rintro D ys W hD hys ⟨⟨v0, v1, hv0, hv1, ho0, ho1, hap⟩, hB, hle⟩ hK
    have cP := hv0.cell
    have cL := hv1.cell
    rw [hys] at ho0 ho1
    have HO0 := Lib.hid ho0
    have HO1 := Lib.hid ho1
    have HAP := Lib.hid hap
    have HBw := Lib.hid (show Below w.heap.size w W from HB4.out.trans (hB.mono (by omega)))
    have HD0 := Lib.hid (show w4.heap.size ≤ D from hD)
    have HK := Lib.hid hK
    clear hv0 hv1 ho0 ho1 hap hB hD hK
    gi_wp2_with fail
    refine wpIn_wide.2 ?_
    go_quiet (fail)
    go_wp2_with fail
    gi_wp2_with fail
    have HKD : (W.drewN nq).heap[D]? = _ := HK.out
    refine ⟨by simp, .inl ⟨_, _, rfl, run_takeDeferred HKD, ?_⟩⟩
    refine ⟨.tuple #[v0, v1], by simp [results, Try.results23, go_sem], v0, v1, rfl, own_less (ownsRow_putObj (W := W.drewN nq) HO0.out _ HKD rfl) ?_, own_less (ownsRow_putObj (W := W.drewN nq) HO1.out _ HKD rfl) ?_, HAP.out, (pw_below_drewN HBw.out nq).trans (belowK_b (w := w) (Nat.le_refl _) _ D _ _ (by have := HD0.out; have := HZ3.out; have := HZ4.out; omega) HKD rfl rfl)⟩
    all_goals (have := HZ3.out; have := HZ4.out; omega)
  case stop =>
    rintro D c pre W hD hp h hK
    exact h.elim
set_option maxHeartbeats 4000000 in
set_option maxRecDepth 100000 in
theorem looked_ge (w : World) (A0 : Option Addr) (c0 : Nat) (l0 : List Int) (A1 : Option Addr) (c1 : Nat) (xs : List Bool) (n0 n1 m : Nat) (hr0 : Kd.C (Kd.int .i64) w A0 n0 l0) (hc0 : n0 ≤ c0) (hr1 : Kd.C Kd.bool w A1 m xs) (hc1 : n1 ≤ c1) (hl0 : n0 ≤ 1000000) (hl1 : n1 ≤ 1000000)
    (hlt : ¬ n0 < n1) (hm : n1 = m) (hxm : xs.length = m) :
    CallsIn Fence.wide 9 Try.prog 23 #[.slice A0 n0 c0, .slice A1 n1 c1] w fun e w' => ∃ v0 v1, e = .returned (.tuple #[v0, v1]) ∧ w'.ownsRow w.heap.size 3 1 v0 (wl 0 xs).length ((wl 0 xs).map (Value.int .i64)) ∧ w'.ownsRow w.heap.size 3 1 v1 (wl 0 xs).length ((wl 0 xs).map (fun i => Value.int .i64 (rd l0 i))) ∧ (∀ k, v0.ownBlock = some k → v1.ownBlock ≠ some k) ∧ Below w.heap.size w w' := by
  have HR0 := Lib.hid hr0
  have HR1 := Lib.hid hr1
  clear hr0 hr1
  obtain ⟨i0, hi, hz0, hz1, hz2⟩ := info_parts info3
  refine callsIn_of_wp_marks Try.func23 rfl trivial ?_ rfl
  simp only [Try.ntmps23, List.size_toArray, List.length_cons, List.length_nil, Nat.reduceAdd, Nat.reduceSub, Array.replicate_succ, Array.replicate_zero, List.push_toArray, List.append_toArray, List.nil_append, List.cons_append]
  have hmc : m ≤ c1 := by omega
  have hml : m ≤ 1000000 := by omega
  have hmn : m ≤ n0 := by omega
  subst hm
  gi_wp2_with fail
  refine ⟨trivial, ?_⟩
  obtain ⟨w3, hw3⟩ : ∃ w3, ((w.alloc (.cells #[.slice A0 n0 c0] 22)).alloc (.cells #[.slice none 0 0] 22)).alloc (.cells #[.slice none 0 0] 22) = w3 := ⟨_, rfl⟩
  rw [hw3]
  have q0 : Boxed w3 w.heap.size 22 (.slice A0 n0 c0) := by rw [← hw3]; exact ((Boxed.new w 22 _).alloc _).alloc _
  have q1 : Boxed w3 (w.heap.size + 1) 22 (.slice none 0 0) := by rw [← hw3]; have := (Boxed.new (w.alloc (.cells #[.slice A0 n0 c0] 22)) 22 (.slice none 0 0)).alloc (.cells #[.slice none 0 0] 22); rw [World.size_alloc] at this; exact this
  have q2 : Boxed w3 (w.heap.size + 1 + 1) 22 (.slice none 0 0) := by rw [← hw3]; have := Boxed.new ((w.alloc (.cells #[.slice A0 n0 c0] 22)).alloc (.cells #[.slice none 0 0] 22)) 22 (.slice none 0 0); rw [World.size_alloc, World.size_alloc] at this; exact this
  have hz3 : w3.heap.size = w.heap.size + 3 := by rw [← hw3]; simp
  have hB3 : Below w.heap.size w w3 := by rw [← hw3]; exact below_alloc (below_alloc (below_alloc (Below.refl _ _) _) _) _
  have HZ3 := Lib.hid hz3
  have HB3 := Lib.hid hB3
  have Q0 := Lib.hid q0
  have Q1 := Lib.hid q1
  have Q2 := Lib.hid q2
  clear hz3 hB3 hw3 q0 q1 q2
  refine (callsIn_wide.2 (whereN A1 c1 _ _ hxm w3 (Kd.C_below HR1.out HB3.out) hmc hml)).mono ?_
  rintro e w4 ⟨g, A5, rfl, hS, hb4, hseq⟩
  have HS := Lib.hid hS
  have HSEQ := Lib.hid (hseq 8)
  have HB4 := Lib.hid (below_step HB3.out hb4)
  have HZ4 := Lib.hid (show w3.heap.size ≤ w4.heap.size from hb4.size)
  have P0 := Lib.hid (blk_below Q0.out hb4)
  have P1 := Lib.hid (show Boxed w4 (w.heap.size + 1) 22 (.slice none 0 0) from blk_below Q1.out hb4)
  have P2 := Lib.hid (show Boxed w4 (w.heap.size + 1 + 1) 22 (.slice none 0 0) from blk_below Q2.out hb4)
  clear hS hb4 hseq Q0 Q1 Q2
  gi_wp2_with fail
  refine' wpIn_rangeFunc_ownG rfl (by omega) (gf := 30) (lb := #[.pointer (some ⟨g, 0, none⟩)]) rfl trivial enters30
    HSEQ.out KpS.t (KpS.b (B := w4.heap.size)) (Below.refl _ _) (fun _ => rfl)
    (fun pre W => Two l0 (w.heap.size + 1) w4.heap.size (pre.map (·.1)) W ∧ Below (w.heap.size + 1) w4 W ∧ pre.length ≤ (wl 0 xs).length)
    (fun c pre W => False)
    (OwnFrom.and (Own.from (two_own l0 _ _ _) _) (OwnFrom.and (ownFrom_below (by have := HZ3.out; have := HZ4.out; omega) (by have := HZ3.out; have := HZ4.out; omega)) (ownFrom_pure _ _)))
    (fun c => ownFrom_pure _ (fun pre => False))
    ⟨⟨_, _, P1.out, P2.out, World.ownsRow_nil _ _ _ _, World.ownsRow_nil _ _ _ _, fun k e => by cases e⟩, Below.refl _ _, Nat.zero_le _⟩
    _ ?assign ?body ?done ?stop
  case assign =>
    intro l x W K hK
    gi_wp2
    exact hK
  case body =>
    rintro l pre ⟨x, hx0, hx1⟩ W ⟨⟨v0, v1, hv0, hv1, ho0, ho1, hap⟩, hB, hle⟩ hpl
    obtain ⟨q, rfl⟩ := Int.eq_ofNat_of_zero_le hx0
    obtain ⟨ad, e, ha1⟩ := int_at HR0.out q (by omega)
    cases e
    have hadlt : (ad.add q).block < w.heap.size := World.block_lt_of_cell? w _ ha1
    replace ha1 := pw_cell_below (HB4.out.trans (hB.mono (by omega))) ha1
    have cC : W.cell? ⟨w.heap.size, 0, none⟩ = some (.slice (some ad) n0 c0) := (show Boxed W w.heap.size 22 (.slice (some ad) n0 c0) from (hB.block _ (by omega)).trans P0.out).cell
    have i0' : (0 : Int) ≤ (q : Int) := by omega
    have i1' : (q : Int) < (n0 : Int) := by omega
    have cP := hv0.cell
    have cL := hv1.cell
    gi_wp2_with fail
    obtain ⟨Z, hZ⟩ : ∃ Z, l0.getD q 0 = Z := ⟨_, rfl⟩
    rw [hZ] at ha1
    have HZZ := Lib.hid hZ
    clear hZ
    refine HeldRound.region_round (fun j => j == 11 || j == 12) (fun w' : World => w'.cell? ⟨w.heap.size, 0, none⟩ = some (.slice (some ad) n0 c0) ∧ w'.cell? ⟨w.heap.size + 1, 0, none⟩ = some v0 ∧ w'.cell? ⟨w.heap.size + 1 + 1, 0, none⟩ = some v1 ∧ w'.cell? (ad.add q) = some (.int .i64 Z)) (by kernel_rfl) (by kernel_rfl) ?_
    rw [List.length_map] at ho0 ho1
    have G0 : Good (WhereS g A5) W (w.heap.size + 1) w4.heap.size v0 v1 v0 v1 _ _ _ _ W.drew := ⟨hv0, hv1, ho0, ho1, hap, KeepsOthers.drew W, pw_below_drewN (Below.refl _ _) 1, by have := hB.size; simpa using this, KpS.refl _ _, fun k hk => by have := HS.out k hk; have := HZ3.out; omega⟩
    have SG : ∀ {u0 u1 : Value} {n0' n1' : Nat} {xs0 xs1 : List Value} {w' : World}, Good (WhereS g A5) W (w.heap.size + 1) w4.heap.size v0 v1 u0 u1 n0' n1' xs0 xs1 w' → w'.cell? ⟨w.heap.size, 0, none⟩ = some (.slice (some ad) n0 c0) ∧ w'.cell? ⟨w.heap.size + 1, 0, none⟩ = some v0 ∧ w'.cell? ⟨w.heap.size + 1 + 1, 0, none⟩ = some v1 ∧ w'.cell? (ad.add q) = some (.int .i64 Z) := fun h => ⟨(h.below.cell (Nat.lt_succ_self _)).trans cC, h.box0.cell, h.box1.cell, (h.below.cell (Nat.lt_succ_of_lt hadlt)).trans ha1⟩
    obtain ⟨X0, hX0⟩ : ∃ X, X = W.drew := ⟨_, rfl⟩
    rw [← hX0] at G0 ⊢
    have hS0 := SG G0
    have hpl1 : pre.length ≤ 1000000 := by have := wl_length_le xs 0; omega
    have hB0 : w.heap.size + 1 ≤ w4.heap.size := by have := HZ3.out; have := HZ4.out; omega
    have hB1 : w.heap.size + 1 + 1 < w4.heap.size := by have := HZ3.out; have := HZ4.out; omega
    have HBW := Lib.hid hB
    have HRD := Lib.hid (show rd l0 (q : Int) = Z by unfold rd; simpa using HZZ.out)
    clear hX0 hv0 hv1 ho0 ho1 hap cP cL cC ha1
    refine HeldRound.take_anyT (i := 1) (v := .int .i64 (q : Int)) rfl (by kernel_rfl) (by kernel_rfl) (by kernel_rfl) (by kernel_rfl) (by kernel_rfl) (fun c a w h => by cases h.1) (.inl ⟨by rfl, fun w' hw' => by obtain ⟨k1, k2, k3, k4⟩ := hw'; go_simp⟩) hS0 ?_
    simp only [Act.put, List.setIfInBounds_toArray, List.set_cons_zero, List.set_cons_succ]
    refine HeldRound.take_anyT (i := 6) (v := .int .i64 (q : Int)) rfl (by kernel_rfl) (by kernel_rfl) (by kernel_rfl) (by kernel_rfl) (by kernel_rfl) (fun c a w h => by cases h.1) (.inl ⟨by rfl, fun w' hw' => by obtain ⟨k1, k2, k3, k4⟩ := hw'; go_simp⟩) hS0 ?_
    simp only [Act.put, List.setIfInBounds_toArray, List.set_cons_zero, List.set_cons_succ]
    refine HeldRound.take_anyT (i := 0) (v := v0) rfl (by kernel_rfl) (by kernel_rfl) (by kernel_rfl) (by kernel_rfl) (by kernel_rfl) (fun c a w h => by cases h.1) (.inl ⟨by rfl, fun w' hw' => by obtain ⟨k1, k2, k3, k4⟩ := hw'; go_simp⟩) hS0 ?_
    simp only [Act.put, List.setIfInBounds_toArray, List.set_cons_zero, List.set_cons_succ]
    refine HeldRound.take_anyT (i := 4) (v := v1) rfl (by kernel_rfl) (by kernel_rfl) (by kernel_rfl) (by kernel_rfl) (by kernel_rfl) (fun c a w h => by cases h.1) (.inl ⟨by rfl, fun w' hw' => by obtain ⟨k1, k2, k3, k4⟩ := hw'; go_simp⟩) hS0 ?_
    simp only [Act.put, List.setIfInBounds_toArray, List.set_cons_zero, List.set_cons_succ]
    refine HeldRound.take_anyT (i := 5) (v := .slice (some ad) n0 c0) rfl (by kernel_rfl) (by kernel_rfl) (by kernel_rfl) (by kernel_rfl) (by kernel_rfl) (fun c a w h => by cases h.1) (.inl ⟨by rfl, fun w' hw' => by obtain ⟨k1, k2, k3, k4⟩ := hw'; go_simp⟩) hS0 ?_
    simp only [Act.put, List.setIfInBounds_toArray, List.set_cons_zero, List.set_cons_succ]
    refine HeldRound.take_anyT (i := 7) (v := .pointer (some (ad.add q))) rfl (by kernel_rfl) (by kernel_rfl) (by kernel_rfl) (by kernel_rfl) (by kernel_rfl) (fun c a w h => by cases h.1) (.inl ⟨by rfl, fun w' hw' => by obtain ⟨k1, k2, k3, k4⟩ := hw'; go_simp⟩) hS0 ?_
    simp only [Act.put, List.setIfInBounds_toArray, List.set_cons_zero, List.set_cons_succ]
    refine HeldRound.take_anyT (i := 8) (v := .int .i64 Z) rfl (by kernel_rfl) (by kernel_rfl) (by kernel_rfl) (by kernel_rfl) (by kernel_rfl) (fun c a w h => by cases h.1) (.inl ⟨by rfl, fun w' hw' => by obtain ⟨k1, k2, k3, k4⟩ := hw'; go_simp⟩) hS0 ?_
    simp only [Act.put, List.setIfInBounds_toArray, List.set_cons_zero, List.set_cons_succ]
    refine HeldRound.all_anyT (rs := [2, 9]) (by kernel_rfl) (by simp) ?_
    simp only [List.forall_mem_cons]
    refine ⟨?_, ?_, fun _ h => by cases h⟩
    · refine HeldRound.op_anyT rfl (by rfl) (fun K hK => ?_)
      have G1 := G0.alloc hB0 (.cells #[.int .i64 (q : Int)] 3)
      have N1 : (X0.alloc (.cells #[.int .i64 (q : Int)] 3)).heap[X0.heap.size]? = some (.cells #[.int .i64 (q : Int)] 3 (0, 0)) := blk_new X0 _
      have L1 : ∀ k, v0.ownBlock = some k → k < X0.heap.size := fun k hk => own_lt G0.row0 k hk
      go_simp
      refine hK _ _ ⟨fun _ => SG G1, ?_⟩
      clear hK K
      obtain ⟨B1, hB1e⟩ : ∃ B, X0.heap.size = B := ⟨_, rfl⟩
      obtain ⟨X1, hX1⟩ : ∃ Y, X0.alloc (.cells #[.int .i64 (q : Int)] 3) = Y := ⟨_, rfl⟩
      simp only [hX1, hB1e] at N1 G1 L1 ⊢
      refine HeldRound.all_anyT (rs := [3, 9]) (by kernel_rfl) (by simp) ?_
      simp only [List.forall_mem_cons]
      refine ⟨?_, ?_, fun _ h => by cases h⟩
      · refine HeldRound.op_anyT rfl (by rfl) (fun K hK => ?_)
        refine wp_append_lies _ _ _ 22 (by rfl) w4.heap.size 3 i0 (.int .i64 0) 1 8 Try.underlying22 hi hz0 hz1 hz2 rfl (by decide) v0 _ _ (by rfl) G1.row0 ⟨B1, 0, none⟩ 1 1 [.int .i64 (q : Int)] (by rfl) rfl (one_at N1) (by simp [Value.oneCell']) (by decide) (by unfold maxLen; omega) (by omega) G1.size _ rfl ?_
        intro g2 cap2 X2 hown2 hgrow2 hat2 hlt2
        have G2 := G1.app0 hB0 hgrow2 hown2 hat2
        refine hK _ _ ⟨fun _ => SG G2, ?_⟩
        clear hK K
        simp only [Act.put, List.setIfInBounds_toArray, List.set_cons_zero, List.set_cons_succ]
        refine HeldRound.all_anyT (rs := [9]) (by kernel_rfl) (by simp) ?_
        simp only [List.forall_mem_cons]
        refine ⟨?_, fun _ h => by cases h⟩
        · refine HeldRound.op_anyT rfl (by rfl) (fun K hK => ?_)
          have G3 := G2.alloc hB0 (.cells #[.int .i64 Z] 3)
          have N3 : (X2.alloc (.cells #[.int .i64 Z] 3)).heap[X2.heap.size]? = some (.cells #[.int .i64 Z] 3 (0, 0)) := blk_new X2 _
          have N3_2 := blk_alloc N1 (.cells #[.int .i64 Z] 3)
          go_simp
          refine hK _ _ ⟨fun _ => SG G3, ?_⟩
          clear hK K
          obtain ⟨B3, hB3e⟩ : ∃ B, X2.heap.size = B := ⟨_, rfl⟩
          obtain ⟨X3, hX3⟩ : ∃ Y, X2.alloc (.cells #[.int .i64 Z] 3) = Y := ⟨_, rfl⟩
          simp only [hX3, hB3e] at N3 G3 N3_2 ⊢
          refine HeldRound.all_anyT (rs := [10]) (by kernel_rfl) (by simp) ?_
          simp only [List.forall_mem_cons]
          refine ⟨?_, fun _ h => by cases h⟩
          · refine HeldRound.op_anyT rfl (by rfl) (fun K hK => ?_)
            refine wp_append_lies _ _ _ 22 (by rfl) w4.heap.size 3 i0 (.int .i64 0) 1 8 Try.underlying22 hi hz0 hz1 hz2 rfl (by decide) v1 _ _ (by rfl) G3.row1 ⟨B3, 0, none⟩ 1 1 [.int .i64 Z] (by rfl) rfl (one_at N3) (by simp [Value.oneCell']) (by decide) (by unfold maxLen; omega) (by omega) G3.size _ rfl ?_
            intro g4 cap4 X4 hown4 hgrow4 hat4 hlt4
            have G4 := G3.app1 hB0 hgrow4 hown4 hat4
            refine hK _ _ ⟨fun _ => SG G4, ?_⟩
            clear hK K
            simp only [Act.put, List.setIfInBounds_toArray, List.set_cons_zero, List.set_cons_succ]
            refine HeldRound.all_anyT (rs := [11]) (by kernel_rfl) (by simp) ?_
            simp only [List.forall_mem_cons]
            refine ⟨?_, fun _ h => by cases h⟩
            · refine HeldRound.op_anyT rfl (by rfl) (fun K hK => ?_)
              have cb := G4.box0.cell
              have fb := G4.box0.frozen
              have G5 := G4.set0 hB1 (.slice (some ⟨g2, 0, none⟩) (pre.length + 1) cap2)
              go_simp
              refine hK _ _ ⟨fun h => absurd h (by decide), ?_⟩
              clear hK K cb fb
              try simp only [Act.put, List.setIfInBounds_toArray, List.set_cons_zero, List.set_cons_succ]
              obtain ⟨X5, hX5⟩ : ∃ Y, X4.setCell ⟨w.heap.size + 1, 0, none⟩ (.slice (some ⟨g2, 0, none⟩) (pre.length + 1) cap2) = Y := ⟨_, rfl⟩
              rw [hX5] at G5 ⊢
              clear hX5
              refine HeldRound.all_anyT (rs := [12]) (by kernel_rfl) (by simp) ?_
              simp only [List.forall_mem_cons]
              refine ⟨?_, fun _ h => by cases h⟩
              · refine HeldRound.op_anyT rfl (by rfl) (fun K hK => ?_)
                have cb := G5.box1.cell
                have fb := G5.box1.frozen
                have G6 := G5.set1 hB1 (.slice (some ⟨g4, 0, none⟩) (pre.length + 1) cap4)
                go_simp
                refine hK _ _ ⟨fun h => absurd h (by decide), ?_⟩
                clear hK K cb fb
                try simp only [Act.put, List.setIfInBounds_toArray, List.set_cons_zero, List.set_cons_succ]
                obtain ⟨X6, hX6⟩ : ∃ Y, X5.setCell ⟨w.heap.size + 1 + 1, 0, none⟩ (.slice (some ⟨g4, 0, none⟩) (pre.length + 1) cap4) = Y := ⟨_, rfl⟩
                rw [hX6] at G6 ⊢
                clear hX6
                refine HeldRound.done_anyT (by kernel_rfl) ⟨rfl, ?_⟩ _
                gi_wp2_with fail
                exact ⟨G6.keeps.from _, G6.kp, ⟨_, _, G6.box0, G6.box1, by simpa using G6.row0, by simpa [HRD.out] using G6.row1, G6.apart⟩, HBW.out.trans G6.below, by simp; omega⟩
      · refine HeldRound.op_anyT rfl (by rfl) (fun K hK => ?_)
        have G7 := G1.alloc hB0 (.cells #[.int .i64 Z] 3)
        have N7 : (X1.alloc (.cells #[.int .i64 Z] 3)).heap[X1.heap.size]? = some (.cells #[.int .i64 Z] 3 (0, 0)) := blk_new X1 _
        have N7_2 := blk_alloc N1 (.cells #[.int .i64 Z] 3)
        have L7 : ∀ k, v0.ownBlock = some k → k < X1.heap.size := fun k hk => own_lt G1.row0 k hk
        go_simp
        refine hK _ _ ⟨fun _ => SG G7, ?_⟩
        clear hK K
        obtain ⟨B7, hB7e⟩ : ∃ B, X1.heap.size = B := ⟨_, rfl⟩
        obtain ⟨X7, hX7⟩ : ∃ Y, X1.alloc (.cells #[.int .i64 Z] 3) = Y := ⟨_, rfl⟩
        simp only [hX7, hB7e] at N7 G7 N7_2 L7 ⊢
        refine HeldRound.all_anyT (rs := [3]) (by kernel_rfl) (by simp) ?_
        simp only [List.forall_mem_cons]
        refine ⟨?_, fun _ h => by cases h⟩
        · refine HeldRound.op_anyT rfl (by rfl) (fun K hK => ?_)
          refine wp_append_lies _ _ _ 22 (by rfl) w4.heap.size 3 i0 (.int .i64 0) 1 8 Try.underlying22 hi hz0 hz1 hz2 rfl (by decide) v0 _ _ (by rfl) G7.row0 ⟨B1, 0, none⟩ 1 1 [.int .i64 (q : Int)] (by rfl) rfl (one_at N7_2) (by simp [Value.oneCell']) (by decide) (by unfold maxLen; omega) (by omega) G7.size _ rfl ?_
          intro g8 cap8 X8 hown8 hgrow8 hat8 hlt8
          have G8 := G7.app0 hB0 hgrow8 hown8 hat8
          have N8_9 := (hgrow8.block B7 (Array.getElem?_eq_some_iff.1 N7).1 (fun e => by have := L7 B7 e.symm; omega)).trans N7
          refine hK _ _ ⟨fun _ => SG G8, ?_⟩
          clear hK K
          simp only [Act.put, List.setIfInBounds_toArray, List.set_cons_zero, List.set_cons_succ]
          refine HeldRound.all_anyT (rs := [10]) (by kernel_rfl) (by simp) ?_
          simp only [List.forall_mem_cons]
          refine ⟨?_, fun _ h => by cases h⟩
          · refine HeldRound.op_anyT rfl (by rfl) (fun K hK => ?_)
            refine wp_append_lies _ _ _ 22 (by rfl) w4.heap.size 3 i0 (.int .i64 0) 1 8 Try.underlying22 hi hz0 hz1 hz2 rfl (by decide) v1 _ _ (by rfl) G8.row1 ⟨B7, 0, none⟩ 1 1 [.int .i64 Z] (by rfl) rfl (one_at N8_9) (by simp [Value.oneCell']) (by decide) (by unfold maxLen; omega) (by omega) G8.size _ rfl ?_
            intro g9 cap9 X9 hown9 hgrow9 hat9 hlt9
            have G9 := G8.app1 hB0 hgrow9 hown9 hat9
            refine hK _ _ ⟨fun _ => SG G9, ?_⟩
            clear hK K
            simp only [Act.put, List.setIfInBounds_toArray, List.set_cons_zero, List.set_cons_succ]
            refine HeldRound.all_anyT (rs := [11]) (by kernel_rfl) (by simp) ?_
            simp only [List.forall_mem_cons]
            refine ⟨?_, fun _ h => by cases h⟩
            · refine HeldRound.op_anyT rfl (by rfl) (fun K hK => ?_)
              have cb := G9.box0.cell
              have fb := G9.box0.frozen
              have G10 := G9.set0 hB1 (.slice (some ⟨g8, 0, none⟩) (pre.length + 1) cap8)
              go_simp
              refine hK _ _ ⟨fun h => absurd h (by decide), ?_⟩
              clear hK K cb fb
              try simp only [Act.put, List.setIfInBounds_toArray, List.set_cons_zero, List.set_cons_succ]
              obtain ⟨X10, hX10⟩ : ∃ Y, X9.setCell ⟨w.heap.size + 1, 0, none⟩ (.slice (some ⟨g8, 0, none⟩) (pre.length + 1) cap8) = Y := ⟨_, rfl⟩
              rw [hX10] at G10 ⊢
              clear hX10
              refine HeldRound.all_anyT (rs := [12]) (by kernel_rfl) (by simp) ?_
              simp only [List.forall_mem_cons]
              refine ⟨?_, fun _ h => by cases h⟩
              · refine HeldRound.op_anyT rfl (by rfl) (fun K hK => ?_)
                have cb := G10.box1.cell
                have fb := G10.box1.frozen
                have G11 := G10.set1 hB1 (.slice (some ⟨g9, 0, none⟩) (pre.length + 1) cap9)
                go_simp
                refine hK _ _ ⟨fun h => absurd h (by decide), ?_⟩
                clear hK K cb fb
                try simp only [Act.put, List.setIfInBounds_toArray, List.set_cons_zero, List.set_cons_succ]
                obtain ⟨X11, hX11⟩ : ∃ Y, X10.setCell ⟨w.heap.size + 1 + 1, 0, none⟩ (.slice (some ⟨g9, 0, none⟩) (pre.length + 1) cap9) = Y := ⟨_, rfl⟩
                rw [hX11] at G11 ⊢
                clear hX11
                refine HeldRound.done_anyT (by kernel_rfl) ⟨rfl, ?_⟩ _
                gi_wp2_with fail
                exact ⟨G11.keeps.from _, G11.kp, ⟨_, _, G11.box0, G11.box1, by simpa using G11.row0, by simpa [HRD.out] using G11.row1, G11.apart⟩, HBW.out.trans G11.below, by simp; omega⟩
    · refine HeldRound.op_anyT rfl (by rfl) (fun K hK => ?_)
      have G12 := G0.alloc hB0 (.cells #[.int .i64 Z] 3)
      have N12 : (X0.alloc (.cells #[.int .i64 Z] 3)).heap[X0.heap.size]? = some (.cells #[.int .i64 Z] 3 (0, 0)) := blk_new X0 _
      have L12 : ∀ k, v0.ownBlock = some k → k < X0.heap.size := fun k hk => own_lt G0.row0 k hk
      go_simp
      refine hK _ _ ⟨fun _ => SG G12, ?_⟩
      clear hK K
      obtain ⟨B12, hB12e⟩ : ∃ B, X0.heap.size = B := ⟨_, rfl⟩
      obtain ⟨X12, hX12⟩ : ∃ Y, X0.alloc (.cells #[.int .i64 Z] 3) = Y := ⟨_, rfl⟩
      simp only [hX12, hB12e] at N12 G12 L12 ⊢
      refine HeldRound.all_anyT (rs := [2]) (by kernel_rfl) (by simp) ?_
      simp only [List.forall_mem_cons]
      refine ⟨?_, fun _ h => by cases h⟩
      · refine HeldRound.op_anyT rfl (by rfl) (fun K hK => ?_)
        have G13 := G12.alloc hB0 (.cells #[.int .i64 (q : Int)] 3)
        have N13 : (X12.alloc (.cells #[.int .i64 (q : Int)] 3)).heap[X12.heap.size]? = some (.cells #[.int .i64 (q : Int)] 3 (0, 0)) := blk_new X12 _
        have N13_9 := blk_alloc N12 (.cells #[.int .i64 (q : Int)] 3)
        have L13 : ∀ k, v0.ownBlock = some k → k < X12.heap.size := fun k hk => own_lt G12.row0 k hk
        go_simp
        refine hK _ _ ⟨fun _ => SG G13, ?_⟩
        clear hK K
        obtain ⟨B13, hB13e⟩ : ∃ B, X12.heap.size = B := ⟨_, rfl⟩
        obtain ⟨X13, hX13⟩ : ∃ Y, X12.alloc (.cells #[.int .i64 (q : Int)] 3) = Y := ⟨_, rfl⟩
        simp only [hX13, hB13e] at N13 G13 N13_9 L13 ⊢
        refine HeldRound.all_anyT (rs := [3]) (by kernel_rfl) (by simp) ?_
        simp only [List.forall_mem_cons]
        refine ⟨?_, fun _ h => by cases h⟩
        · refine HeldRound.op_anyT rfl (by rfl) (fun K hK => ?_)
          refine wp_append_lies _ _ _ 22 (by rfl) w4.heap.size 3 i0 (.int .i64 0) 1 8 Try.underlying22 hi hz0 hz1 hz2 rfl (by decide) v0 _ _ (by rfl) G13.row0 ⟨B13, 0, none⟩ 1 1 [.int .i64 (q : Int)] (by rfl) rfl (one_at N13) (by simp [Value.oneCell']) (by decide) (by unfold maxLen; omega) (by omega) G13.size _ rfl ?_
          intro g14 cap14 X14 hown14 hgrow14 hat14 hlt14
          have G14 := G13.app0 hB0 hgrow14 hown14 hat14
          have N14_9 := (hgrow14.block B12 (Array.getElem?_eq_some_iff.1 N13_9).1 (fun e => by have := L12 B12 e.symm; omega)).trans N13_9
          refine hK _ _ ⟨fun _ => SG G14, ?_⟩
          clear hK K
          simp only [Act.put, List.setIfInBounds_toArray, List.set_cons_zero, List.set_cons_succ]
          refine HeldRound.all_anyT (rs := [10]) (by kernel_rfl) (by simp) ?_
          simp only [List.forall_mem_cons]
          refine ⟨?_, fun _ h => by cases h⟩
          · refine HeldRound.op_anyT rfl (by rfl) (fun K hK => ?_)
            refine wp_append_lies _ _ _ 22 (by rfl) w4.heap.size 3 i0 (.int .i64 0) 1 8 Try.underlying22 hi hz0 hz1 hz2 rfl (by decide) v1 _ _ (by rfl) G14.row1 ⟨B12, 0, none⟩ 1 1 [.int .i64 Z] (by rfl) rfl (one_at N14_9) (by simp [Value.oneCell']) (by decide) (by unfold maxLen; omega) (by omega) G14.size _ rfl ?_
            intro g15 cap15 X15 hown15 hgrow15 hat15 hlt15
            have G15 := G14.app1 hB0 hgrow15 hown15 hat15
            refine hK _ _ ⟨fun _ => SG G15, ?_⟩
            clear hK K
            simp only [Act.put, List.setIfInBounds_toArray, List.set_cons_zero, List.set_cons_succ]
            refine HeldRound.all_anyT (rs := [11]) (by kernel_rfl) (by simp) ?_
            simp only [List.forall_mem_cons]
            refine ⟨?_, fun _ h => by cases h⟩
            · refine HeldRound.op_anyT rfl (by rfl) (fun K hK => ?_)
              have cb := G15.box0.cell
              have fb := G15.box0.frozen
              have G16 := G15.set0 hB1 (.slice (some ⟨g14, 0, none⟩) (pre.length + 1) cap14)
              go_simp
              refine hK _ _ ⟨fun h => absurd h (by decide), ?_⟩
              clear hK K cb fb
              try simp only [Act.put, List.setIfInBounds_toArray, List.set_cons_zero, List.set_cons_succ]
              obtain ⟨X16, hX16⟩ : ∃ Y, X15.setCell ⟨w.heap.size + 1, 0, none⟩ (.slice (some ⟨g14, 0, none⟩) (pre.length + 1) cap14) = Y := ⟨_, rfl⟩
              rw [hX16] at G16 ⊢
              clear hX16
              refine HeldRound.all_anyT (rs := [12]) (by kernel_rfl) (by simp) ?_
              simp only [List.forall_mem_cons]
              refine ⟨?_, fun _ h => by cases h⟩
              · refine HeldRound.op_anyT rfl (by rfl) (fun K hK => ?_)
                have cb := G16.box1.cell
                have fb := G16.box1.frozen
                have G17 := G16.set1 hB1 (.slice (some ⟨g15, 0, none⟩) (pre.length + 1) cap15)
                go_simp
                refine hK _ _ ⟨fun h => absurd h (by decide), ?_⟩
                clear hK K cb fb
                try simp only [Act.put, List.setIfInBounds_toArray, List.set_cons_zero, List.set_cons_succ]
                obtain ⟨X17, hX17⟩ : ∃ Y, X16.setCell ⟨w.heap.size + 1 + 1, 0, none⟩ (.slice (some ⟨g15, 0, none⟩) (pre.length + 1) cap15) = Y := ⟨_, rfl⟩
                rw [hX17] at G17 ⊢
                clear hX17
                refine HeldRound.done_anyT (by kernel_rfl) ⟨rfl, ?_⟩ _
                gi_wp2_with fail
                exact ⟨G17.keeps.from _, G17.kp, ⟨_, _, G17.box0, G17.box1, by simpa using G17.row0, by simpa [HRD.out] using G17.row1, G17.apart⟩, HBW.out.trans G17.below, by simp; omega⟩
  case done =>
    rintro D ys W hD hys ⟨⟨v0, v1, hv0, hv1, ho0, ho1, hap⟩, hB, hle⟩ hK
    have cP := hv0.cell
    have cL := hv1.cell
    rw [hys] at ho0 ho1
    have HO0 := Lib.hid ho0
    have HO1 := Lib.hid ho1
    have HAP := Lib.hid hap
    have HBw := Lib.hid (show Below w.heap.size w W from HB4.out.trans (hB.mono (by omega)))
    have HD0 := Lib.hid (show w4.heap.size ≤ D from hD)
    have HK := Lib.hid hK
    clear hv0 hv1 ho0 ho1 hap hB hD hK
    gi_wp2_with fail
    refine wpIn_wide.2 ?_
    go_quiet (fail)
    go_wp2_with fail
    gi_wp2_with fail
    have HKD : (W.drewN nq).heap[D]? = _ := HK.out
    refine ⟨by simp, .inl ⟨_, _, rfl, run_takeDeferred HKD, ?_⟩⟩
    refine ⟨.tuple #[v0, v1], by simp [results, Try.results23, go_sem], v0, v1, rfl, own_less (ownsRow_putObj (W := W.drewN nq) HO0.out _ HKD rfl) ?_, own_less (ownsRow_putObj (W := W.drewN nq) HO1.out _ HKD rfl) ?_, HAP.out, (pw_below_drewN HBw.out nq).trans (belowK_b (w := w) (Nat.le_refl _) _ D _ _ (by have := HD0.out; have := HZ3.out; have := HZ4.out; omega) HKD rfl rfl)⟩
    all_goals (have := HZ3.out; have := HZ4.out; omega)
  case stop =>
    rintro D c pre W hD hp h hK
    exact h.elim

theorem wear_looked.calls (k : Nat) (A0 : Option Addr) (c0 : Nat) (l0 : List Int) (A1 : Option Addr) (c1 : Nat) (l1 : List Bool) (r1 : List Int) (r2 : List Int) (w : World) (hr0 : Kd.C (Kd.int .i64) w A0 l0.length l0) (hc0 : l0.length ≤ c0) (hr1 : Kd.C Kd.bool w A1 l1.length l1) (hc1 : l1.length ≤ c1) (h : wear_looked.f k l0 l1 = some (r1, r2)) :
    Calls Try.prog 23 #[.slice A0 l0.length c0, .slice A1 l1.length c1] w fun e w' => ∃ v0_ v1_ : Value, e = .returned (.tuple #[v0_, v1_]) ∧ Kd.R (Kd.int .i64) 3 w' w.heap.size (fun k_ => some k_ ≠ (v1_ : Value).ownBlock) v0_ r1 ∧ Kd.R (Kd.int .i64) 3 w' w.heap.size (fun k_ => some k_ ≠ (v0_ : Value).ownBlock) v1_ r2 ∧ Below w.heap.size w w' := by
  unfold wear_looked.f at h
  by_cases hl : l0.length ≤ 1000000 ∧ l1.length ≤ 1000000
  · rw [if_pos hl] at h
    injection h with h
    injection h with h1 h2
    have hxm : (l1.take (min l1.length l0.length)).length = min l1.length l0.length := by rw [List.length_take]; omega
    have hC := Kd.C_take hr1 (Nat.min_le_left l1.length l0.length)
    rw [hxm] at hC
    have main : CallsIn Fence.wide 9 Try.prog 23 #[.slice A0 l0.length c0, .slice A1 l1.length c1] w fun e w' => ∃ v0 v1, e = .returned (.tuple #[v0, v1]) ∧ w'.ownsRow w.heap.size 3 1 v0 (places l0 l1).length ((places l0 l1).map (Value.int .i64)) ∧ w'.ownsRow w.heap.size 3 1 v1 (places l0 l1).length ((places l0 l1).map (fun i => Value.int .i64 (rd l0 i))) ∧ (∀ k, v0.ownBlock = some k → v1.ownBlock ≠ some k) ∧ Below w.heap.size w w' := by
      by_cases hlt : l0.length < l1.length
      · exact looked_lt w A0 c0 l0 A1 c1 _ l0.length l1.length _ hr0 hc0 hC hc1 hl.1 hl.2 hlt (by omega) hxm
      · exact looked_ge w A0 c0 l0 A1 c1 _ l0.length l1.length _ hr0 hc0 hC hc1 hl.1 hl.2 hlt (by omega) hxm
    refine (callsIn_wide.1 main).mono ?_
    rintro e w' ⟨v0, v1, rfl, ho0, ho1, hap, hb⟩
    subst h1
    subst h2
    refine ⟨v0, v1, rfl, Kd.R_of_own ho0 (fun k hk e => hap k hk e.symm), Kd.R_of_own (by rw [List.length_map, encs, List.map_map]; exact ho1) (fun k hk e => hap k e.symm hk), hb⟩
  · rw [if_neg hl] at h
    cases h
end Go.Proofs.Ytdjcmefnnhfhpaa.PAll
