import Derived.Test.YtkncmbbkehnagaaZb1
import Derived.RangeFuncNested
import Derived.RangeFuncBound
import Derived.RangeFuncCalls
import Derived.RangeFuncLeaves
import Derived.RangeFuncBox
import Derived.Shelf.Abstract
import Derived.WalkKit
import Derived.OwnWalkIn
import Derived.TacticsInMore
import Derived.LoopNIn
import Derived.LoopIn
import Derived.Maps.AppendAt
import Derived.Test.YtkncmbbkehnagaaProg
import Derived.Lib.Hide
import Derived.OrdersHeld
import Derived.OrdersIn
import Derived.Sort.QuietIn
import Derived.Maps.OwnIn
import Derived.Deep.AppendLies
import Derived.Test.YtkncmbbkehnagaaZWFootNe
set_option linter.unusedVariables false
set_option linter.unusedSimpArgs false
/-! The chip's Block. -/
namespace Go.Proofs.Ytkncmbbkehnagaa.Cm
open Go.RowKit Go.Proofs.YtkncmbbkehnagaaW.PrintWords Go.Proofs.YtkncmbbkehnagaaW.PrintLast Go.Proofs.YtkncmbbkehnagaaW.PrintMore Go.Proofs.Ytkncmbbkehnagaa.Kp Go.Proofs.Ytkncmbbkehnagaa.Cp
attribute [local go_sem] max2_int min2_int max_two min_two max_three min_three max_four min_four

abbrev Sl := Option Addr × Nat × Nat
def encS (p : Sl) : Value := .slice p.1 p.2.1 p.2.2
def unS : Value → Sl
  | .slice a n c => (a, n, c)
  | _ => (none, 0, 0)
theorem R_emptyS (W : World) (base : Nat) (h : base ≤ W.heap.size) : (Kd.scalar encS (fun _ => rfl)).R 26 (W.alloc (.cells #[] 26)) base (fun _ => True) (.slice (some ⟨W.heap.size, 0, none⟩) 0 0) [] :=
  Kd.R_of_own (xs := []) ⟨by simp [encs], .inr ⟨W.heap.size, 0, #[], rfl, h, blk_new W _, Nat.le_refl _, Nat.zero_le _, by simp, by simp [encs]⟩⟩ (fun _ _ => trivial)
set_option maxHeartbeats 2000000 in
set_option maxRecDepth 100000 in
theorem cloneP (ad : Addr) (c : Nat) (l : List Sl) (w : World) (hr : Kd.C (Kd.scalar encS (fun _ => rfl)) w (some ad) l.length l) (hc : l.length ≤ c) (hl : l.length * 1 ≤ 1000000) :
    Calls Try.prog 63 #[.slice (some ad) l.length c] w fun e w' => ∃ v : Value, e = .returned v ∧ Kd.R (Kd.scalar encS (fun _ => rfl)) 26 w' w.heap.size (fun _ => True) v l ∧ Below w.heap.size w w' := by
  have hq := fun (W : World) => Lib.run_eql_slice_nil (P := Try.prog) W 77 26 (some ad) l.length c 0 0 Try.underlying77
  have HR := Aside0.mk hr
  have HL := Aside0.mk hl
  clear hr hc hl
  simp only [Option.isNone_some] at hq
  go_enter Try.func63, Try.ntmps63
  go_wp2_with ((with_reducible refine gate_dst (N := 7) rfl ?_); refine Kd.R_append_row (h1 := fun _ => rfl) encS ((none, 0, 0) : Sl) (w0 := w) w.heap.size rfl (.tmp 5) (.tmp 6) 77 26 (.slice none 0 0) 24 rfl Try.underlying77 infoY rfl (by decide) (.slice (some ⟨w.heap.size, 0, none⟩) 0 0) [] l (some ad) l.length c (fun _ => True) rfl rfl (fun _ _ => trivial) (R_emptyS w _ (Nat.le_refl _)) (Kd.C_alloc HR.out _) (below_alloc (Below.refl _ _) _) (by simp) (by have := HL.out; simp; omega) ?_; intro v1 w1 ho hb hg hat; have HO := Aside0.mk ho; have HB := Aside0.mk hb; clear ho hb hg hat)
  go_ret
  have h1 := HO.out
  simp only [List.nil_append] at h1
  exact ⟨_, rfl, h1, HB.out⟩
/-- The block that is made of another one's cells. -/
theorem ownS {W : World} {base : Nat} {v : Value} {l : List Sl} (h : Kd.R (Kd.scalar encS (fun _ => rfl)) 26 W base (fun _ => True) v l) (hl : 0 < l.length) :
    ∃ q cap qs, v = .slice (some ⟨q, 0, none⟩) l.length cap ∧ base ≤ q ∧ l.length ≤ cap ∧ W.heap[q]? = some (.cells qs 26 (0, 0)) ∧ ∀ j (hj : j < l.length), qs[j]? = some (encS l[j]) := by
  have ho := Kd.own_of_R h
  obtain ⟨-, ⟨-, h0⟩ | ⟨q, cap, qs, hv, hb, hh, hn, -, hs, hx⟩⟩ := ho
  · omega
  · refine ⟨q, cap, qs, hv, hb, hn, hh, fun j hj => ?_⟩
    have : (encs encS l)[j]? = some (encS l[j]) := by simp [encs, List.getElem?_eq_getElem hj]
    rw [← hx, List.getElem?_take, if_pos (by omega)] at this
    simpa using this
/-- The pages of a block that Block made. -/
def Pgs (W : World) (base : Nat) (pv : Value) (l : List (List Int)) : Prop :=
  ∃ A c, pv = .slice A l.length c ∧ l.length ≤ c ∧ ∀ j xs, l[j]? = some xs → ∃ ad v, A = some ad ∧ base ≤ ad.block ∧ W.cell? (ad.add j) = some v ∧ Kd.R (Kd.int .u8) 5 W base (fun _ => True) v xs
theorem Pgs.below {W W1 : World} {base : Nat} {pv : Value} {l : List (List Int)} (h : Pgs W base pv l) (hb : Below W.heap.size W W1) : Pgs W1 base pv l := by
  obtain ⟨A, c, h1, h2, h3⟩ := h
  refine ⟨A, c, h1, h2, fun j xs hj => ?_⟩
  obtain ⟨ad, v, q1, q2, q3, q4⟩ := h3 j xs hj
  exact ⟨ad, v, q1, q2, pw_cell_below hb q3, Kd.R_step q4 (fun k _ hk => hb.block k hk)⟩
theorem Pgs.nil (W : World) (base : Nat) : Pgs W base (.slice none 0 0) [] := ⟨none, 0, rfl, Nat.le_refl _, fun j xs h => by simp at h⟩
def noB : Blk := ⟨false, 0, 0, []⟩
/-- What Block shows. -/
def blockB (s : Chp) (b : Int) : Blk := if hasB s b = true then (s.blocks[b.toNat]?).getD noB else noB
def BlkV (W : World) (base : Nat) (v : Value) (B : Blk) : Prop := ∃ pv, v = .agg #[.bool B.bad, .int .i64 B.next, .int .i64 B.count, pv] ∧ Pgs W base pv B.pages
def reg_block_8.T : Bool × List (List Nat × List Nat) := (true, [([], []), ([0], [0]), ([], []), ([], []), ([3], [3]), ([1, 2, 0, 1, 2, 3, 4], [1, 2]), ([5, 4, 4, 0, 1, 2, 3, 4], [4, 5])])
def reg_block_8.B : List Nat := [0, 1, 0, 0, 8, 31, 63]
theorem reg_block_8.tab : rtab .any (opsOf Try.f52 8) = reg_block_8.T := by kernel_rfl
theorem reg_block_8.bits : waitsOk reg_block_8.T.2 reg_block_8.B = true := by kernel_rfl
set_option maxHeartbeats 4000000 in
set_option maxRecDepth 100000 in
theorem blockN {w : World} {base : Nat} {ok : Nat → Prop} {g : Nat} {s : Chp} (hI : IsChip w base ok g s) (b : Int) (hs : hasB s b = false) :
    Calls Try.prog 52 #[.pointer (some ⟨g, 0, none⟩), .int .i64 b] w fun e w' => ∃ v, e = .returned v ∧ BlkV w' w.heap.size v noB ∧ Below w.heap.size w w' := by
  have HB0 := below_alloc (Below.refl _ w) (.cells #[.bool false, .int .i64 0, .int .i64 0, .slice none 0 0] 79)
  have HI := Aside0.mk (hI.below HB0)
  have HS := Aside0.mk hs
  clear HB0 hI hs
  go_enter Try.func52, Try.ntmps52
  go_wp2_with fail
  have hcc := has HI.out b
  rw [HS.out] at hcc
  refine hcc.mono ?_
  clear hcc
  rintro ev w2 ⟨rfl, hw2⟩
  rw [hw2]
  clear hw2 w2
  go_wp2_with fail
  exact bodyPost_ret (results_single rfl (.cell w.heap.size 79 #[.bool false, .int .i64 0, .int .i64 0, .slice none 0 0] (0, 0) _ rfl (by simpa using heap_alloc_new w _) Try.underlying79 rfl (by kernel_rfl) .nil)) rfl ⟨_, rfl, ⟨_, rfl, Pgs.nil _ _⟩, below_alloc (Below.refl _ _) _⟩
/-- The cells of a block's pages, as slices. -/
theorem sls {W : World} {base : Nat} {ok : Nat → Prop} {g h cap : Nat} {cs : Array Value} {pg : Nat → Nat} {s : Chp} (r : Rep W base ok g h cap cs pg s) {i : Nat} {B : Blk} (hB : s.blocks[i]? = some B) :
    ∃ l : List Sl, l.length = B.pages.length ∧ Kd.C (Kd.scalar encS (fun _ => rfl)) W (some ⟨pg i, 0, none⟩) l.length l ∧ ∀ j (hj : j < l.length) xs, B.pages[j]? = some xs → l[j].2.1 = xs.length ∧ xs.length ≤ l[j].2.2 ∧ Kd.C (Kd.int .u8) W l[j].1 xs.length xs := by
  obtain ⟨ps, h1, h2⟩ := r.pgs i B hB
  have hi := r.inv
  have hlen := hi.len B (List.mem_of_getElem? hB)
  have hp : ∀ j (hj : j < B.pages.length), ∃ A c, ps[j]? = some (.slice A (B.pages[j]).length c) ∧ (B.pages[j]).length ≤ c ∧ Kd.C (Kd.int .u8) W A (B.pages[j]).length (B.pages[j]) := fun j hj => by
    obtain ⟨v, h3, h4⟩ := h2 j _ (List.getElem?_eq_getElem hj)
    obtain ⟨A, c, rfl, h5, h6⟩ := Kd.R_reads h4
    exact ⟨A, c, h3, h5, h6⟩
  refine ⟨(List.range B.pages.length).map (fun j => unS (ps[j]?.getD (.slice none 0 0))), by simp, Kd.C_of_reads (d := ((none, 0, 0) : Sl)) ⟨rfl, by simp; have := hi.p2; omega, fun _ => ⟨_, rfl, fun j hj => ?_⟩⟩, fun j hj xs hx => ?_⟩
  · simp only [List.length_map, List.length_range] at hj
    obtain ⟨A, c, h3, -, -⟩ := hp j hj
    rw [show (Addr.add ⟨pg i, 0, none⟩ j) = ⟨pg i, j, none⟩ by rw [add_plain], blk_cell h1, h3]
    simp [List.getD_eq_getElem?_getD, hj, h3, unS, encS]
  · simp only [List.length_map, List.length_range] at hj
    obtain ⟨A, c, h3, h5, h6⟩ := hp j hj
    rw [List.getElem?_eq_getElem hj] at hx
    obtain rfl := Option.some.inj hx
    simp only [List.getElem_map, List.getElem_range, h3, Option.getD_some, unS]
    exact ⟨trivial, h5, h6⟩
/-- The clone's round. -/
structure Bi (w W : World) (b1 b2 q cap3 : Nat) (B : Blk) (l : List Sl) (k : Nat) : Prop where
  below : Below w.heap.size w W
  x1 : W.heap[b1]? = some (.cells #[.bool false, .int .i64 0, .int .i64 0, .slice none 0 0] 79 (0, 0))
  x2 : W.heap[b2]? = some (.cells #[.bool B.bad, .int .i64 B.next, .int .i64 B.count, .slice (some ⟨q, 0, none⟩) B.pages.length cap3] 79 (0, 0))
  qs : ∃ qs : Array Value, W.heap[q]? = some (.cells qs 26 (0, 0)) ∧ (∀ j xs, B.pages[j]? = some xs → j < k → ∃ v, qs[j]? = some v ∧ Kd.R (Kd.int .u8) 5 W w.heap.size (fun _ => True) v xs) ∧ ∀ j (hj : j < l.length), k ≤ j → qs[j]? = some (encS l[j])
theorem Bi.step {w W W1 : World} {b1 b2 q cap3 : Nat} {B : Blk} {l : List Sl} {k : Nat} {xs : List Int} {v : Value} (r : Bi w W b1 b2 q cap3 B l k) (hb : Below W.heap.size W W1) (hx : B.pages[k]? = some xs) (hll : l.length = B.pages.length) (hq : w.heap.size ≤ q)
    (hv : Kd.R (Kd.int .u8) 5 W1 W.heap.size (fun _ => True) v xs) : Bi w (W1.setCell ⟨q, k, none⟩ v) b1 b2 q cap3 B l (k + 1) := by
  obtain ⟨qs, h1, h2, h3⟩ := r.qs
  have hq1 := (hb.block q (blk_lt h1)).trans h1
  have x1' := (hb.block b1 (blk_lt r.x1)).trans r.x1
  have x2' := (hb.block b2 (blk_lt r.x2)).trans r.x2
  have hk : k < l.length := by rw [hll]; exact (List.getElem?_eq_some_iff.1 hx).1
  refine ⟨(below_step r.below hb).setCell (p := ⟨q, k, none⟩) hq v, blk_far x1' (p := ⟨q, k, none⟩) (type_ne x1' hq1 (by decide)) _, blk_far x2' (p := ⟨q, k, none⟩) (type_ne x2' hq1 (by decide)) _, qs.setIfInBounds k v, blk_set hq1 k v, fun j ys hj hjk => ?_, fun j hj hjk => ?_⟩
  · by_cases e : k = j
    · subst e
      rw [hx] at hj
      cases hj
      refine ⟨v, ?_, Kd.R_set (Kd.R_lower hv (below_size r.below)) hq1 (u8_ne _ (by decide)) _ v⟩
      have := h3 k hk (Nat.le_refl _)
      rw [Array.getElem?_setIfInBounds, if_pos rfl, if_pos (Array.getElem?_eq_some_iff.1 this).1]
    · obtain ⟨u, q1, q2⟩ := h2 j ys hj (by omega)
      exact ⟨u, by rw [Array.getElem?_setIfInBounds, if_neg e]; exact q1, Kd.R_set (Kd.R_step q2 (fun i _ hi => hb.block i hi)) hq1 (u8_ne _ (by decide)) _ v⟩
  · rw [Array.getElem?_setIfInBounds, if_neg (by omega)]
    exact h3 j hj (by omega)
set_option maxHeartbeats 4000000 in
set_option maxRecDepth 100000 in
theorem blockY {w : World} {base : Nat} {ok : Nat → Prop} {g : Nat} {s : Chp} (hI : IsChip w base ok g s) (i : Nat) (B : Blk) (hs : hasB s (i : Int) = true) (hB : s.blocks[i]? = some B) (hi : i < s.blocks.length) (hx : ∀ xs ∈ B.pages, xs.length ≤ 100000) :
    Calls Try.prog 52 #[.pointer (some ⟨g, 0, none⟩), .int .i64 (i : Int)] w fun e w' => ∃ v, e = .returned v ∧ BlkV w' w.heap.size v B ∧ Below w.heap.size w w' := by
  obtain ⟨w1, hw1⟩ : ∃ w1, w.alloc (.cells #[.bool false, .int .i64 0, .int .i64 0, .slice none 0 0] 79) = w1 := ⟨_, rfl⟩
  obtain ⟨b1, hb1⟩ : ∃ b, w.heap.size = b := ⟨_, rfl⟩
  have HB1 : Aside0 (Below w.heap.size w w1) := ⟨by rw [← hw1]; exact below_alloc (Below.refl _ w) _⟩
  have HX1 : Aside0 (w1.heap[b1]? = some (.cells #[.bool false, .int .i64 0, .int .i64 0, .slice none 0 0] 79 (0, 0))) := ⟨by rw [← hw1, ← hb1]; simpa using heap_alloc_new w _⟩
  have HI0 := Aside0.mk hI
  have HI := Aside0.mk (hI.below HB1.out)
  have HS := Aside0.mk hs
  have HBk := Aside0.mk hB
  have HXs := Aside0.mk hx
  have HLn : Aside0 ((B.pages.length : Int) = s.pages ∧ 1 ≤ s.pages ∧ s.pages ≤ 32) := ⟨hI.inv.len B (List.mem_of_getElem? hB), hI.inv.p1, hI.inv.p2⟩
  have hin : ((i : Nat) : Int) < (s.blocks.length : Int) := by omega
  have HW1 := Aside0.mk hw1
  have HB1E := Aside0.mk hb1
  have HB1L := Aside0.mk (blk_lt HX1.out)
  clear hI hs hB hi hx hw1 hb1
  obtain ⟨h, cap, cs, pg, r0⟩ := HI0.out
  have r := r0.below HB1.out
  obtain ⟨l, hll, hC0, hl⟩ := sls r0 HBk.out
  have HLL := Aside0.mk hll
  have HC0 := Aside0.mk hC0
  have HL := Aside0.mk hl
  clear hll hC0 hl r0
  obtain ⟨⟨c0, -⟩, -, -⟩ := ten r
  obtain ⟨d0, d1, d2, d3⟩ := rowCells r HBk.out
  have HR := Aside0.mk r
  clear r
  go_enter Try.func52, Try.ntmps52
  go_wp2_with fail
  rw [HW1.out, HB1E.out]
  have hcc := has HI.out (i : Int)
  rw [HS.out] at hcc
  refine hcc.mono ?_
  clear hcc
  rintro ev w2 ⟨rfl, hw2⟩
  rw [hw2]
  clear hw2 w2
  go_wp2_with fail
  obtain ⟨w2, hw2⟩ : ∃ w2, w1.alloc (.cells #[.bool B.bad, .int .i64 B.next, .int .i64 B.count, .slice (some ⟨pg i, 0, none⟩) B.pages.length B.pages.length] 79) = w2 := ⟨_, rfl⟩
  obtain ⟨b2, hb2⟩ : ∃ b, w1.heap.size = b := ⟨_, rfl⟩
  have hb12 : Below w1.heap.size w1 w2 := by rw [← hw2]; exact below_alloc (Below.refl _ _) _
  have HB2 := Aside0.mk (below_step HB1.out hb12)
  have HX1' := Aside0.mk ((hb12.block b1 (blk_lt HX1.out)).trans HX1.out)
  have HX2 : Aside0 (w2.heap[b2]? = some (.cells #[.bool B.bad, .int .i64 B.next, .int .i64 B.count, .slice (some ⟨pg i, 0, none⟩) B.pages.length B.pages.length] 79 (0, 0))) := ⟨by rw [← hw2, ← hb2]; simpa using heap_alloc_new w1 _⟩
  have HB2E : Aside0 (w.heap.size ≤ b2) := ⟨by rw [← hb2]; exact HB1.out.size⟩
  have HB1L := Aside0.mk (show b1 < b2 by have := HB1L.out; omega)
  rw [hw2, hb2]
  clear hw2 hb2 hb12 HX1 c0 d0 d1 d2 d3 HR HI
  have hcc := cloneP ⟨pg i, 0, none⟩ B.pages.length l w2 (Kd.C_below HC0.out HB2.out) (by have := HLL.out; omega) (by have := HLL.out; have := HLn.out; omega)
  rw [HLL.out] at hcc
  refine hcc.mono ?_
  clear hcc
  rintro ev w3 ⟨v3, rfl, hR3, hb3⟩
  obtain ⟨q, cap3, qs, rfl, hq, hqc, hqh, hqe⟩ := ownS hR3 (by have := HLL.out; have := HLn.out; omega)
  rw [HLL.out] at hqc ⊢
  have HB3 := Aside0.mk (below_step HB2.out hb3)
  have HX1 := Aside0.mk ((hb3.block b1 (blk_lt HX1'.out)).trans HX1'.out)
  have HX3 := Aside0.mk ((hb3.block b2 (blk_lt HX2.out)).trans HX2.out)
  have HQ := Aside0.mk (show w.heap.size ≤ q from Nat.le_trans HB2.out.size hq)
  have HQC := Aside0.mk hqc
  have HQH := Aside0.mk hqh
  have HQE := Aside0.mk hqe
  have f3 : w3.frozen? ⟨b2, 3, none⟩ = false := blk_frozen HX3.out 3
  have c3 : w3.cell? ⟨b2, 3, none⟩ = some (.slice (some ⟨pg i, 0, none⟩) B.pages.length B.pages.length) := (blk_cell HX3.out 3).trans rfl
  clear hR3 hb3 hq hqc hqh hqe HX1' HX2
  go_wp2_with fail
  have HBI : Aside0 (Bi w (w3.setCell ⟨b2, 3, none⟩ (.slice (some ⟨q, 0, none⟩) B.pages.length cap3)) b1 b2 q cap3 B l 0) := ⟨by
    have hne : b1 ≠ b2 := by have h1 := HB1E.out; have h2 := HB1L.out; omega
    have hqn : q ≠ b2 := type_ne HQH.out HX3.out (by decide)
    exact ⟨HB3.out.setCell (p := ⟨b2, 3, none⟩) HB2E.out _, blk_far HX1.out (p := ⟨b2, 3, none⟩) hne _, blk_put HX3.out 3 _ rfl, qs, blk_far HQH.out (p := ⟨b2, 3, none⟩) hqn _, fun j xs hj h => absurd h (Nat.not_lt_zero _), fun j hj _ => HQE.out j hj⟩⟩
  clear f3 c3
  go_loopw [27] (fun v27 wr => ∃ k : Nat, k ≤ B.pages.length ∧ v27 = .int .i64 (k : Int) ∧ Aside0 (Bi w wr b1 b2 q cap3 B l k)) (fun v27 _ => B.pages.length - (intOf v27).toNat)
  case atStart => exact ⟨0, Nat.zero_le _, rfl, HBI⟩
  case round =>
    clear HBI HB3 HX1 HX3 HQH HQE HB2
    obtain ⟨k, hk, rfl, HBI⟩ := hrel
    have hlim := HLn.out
    by_cases hlt : k < B.pages.length
    · have hlt2 : (k : Int) < (B.pages.length : Int) := by omega
      have hkl : k < l.length := by have := HLL.out; omega
      obtain ⟨xs, hxs⟩ : ∃ xs, B.pages[k]? = some xs := ⟨_, List.getElem?_eq_getElem hlt⟩
      obtain ⟨e1, e2, e3⟩ := HL.out k hkl xs hxs
      obtain ⟨qs', h1, -, h3⟩ := HBI.out.qs
      have cq : wr.cell? ⟨q, k, none⟩ = some (.slice l[k].1 xs.length l[k].2.2) := by
        rw [blk_cell h1, h3 k hkl (Nat.le_refl _), ← e1]
        rfl
      obtain ⟨A, hA⟩ : ∃ A, l[k].1 = A := ⟨_, rfl⟩
      obtain ⟨c, hc⟩ : ∃ c, l[k].2.2 = c := ⟨_, rfl⟩
      rw [hA, hc] at cq
      rw [hA] at e3
      rw [hc] at e2
      have hw2 : wrap64 ((k : Int) + 1) = ((k + 1 : Nat) : Int) := by unfold wrap64; omega
      have HXS := Aside0.mk hxs
      have HC3 := Aside0.mk (Kd.C_below e3 HBI.out.below)
      have HCc := Aside0.mk e2
      have HXL := Aside0.mk (HXs.out xs (List.mem_of_getElem? hxs))
      clear e1 e2 e3 h1 h3 hA hc hxs hlim
      go_upto_region 8 with fail
      clear cq
      refine start_ (n := 7) (S := fun w' => w'.cell? ⟨b2, 3, none⟩ = some (.slice (some ⟨q, 0, none⟩) B.pages.length cap3)) (ds := []) #[false, false, false, false, false, false, false] (by kernel_rfl) rfl rfl (pw_cell_below (below_drew (Below.refl _ _)) ((blk_cell HBI.out.x2 3).trans rfl)) (fun hHeld => ?_)
      refine with_tabW reg_block_8.tab reg_block_8.bits (fun HT_ HW_ => ?_)
      refine pure_ (i := 0) (N := (some 32)) (v := ?_) (a' := ?_) #[true, false, false, false, false, false, false] rfl rfl (any_of HT_.out (by kernel_rfl)) (fun _ _ _ h => h) (Or.inl ⟨by rfl, ?_⟩) ?_ ?_
      rotate_left
      · intro w'
        go_simp
        first | done | with_reducible rfl
      rotate_left
      · simp only [Act.put, List.setIfInBounds_toArray, List.set_cons_zero, List.set_cons_succ, i64_w, i32_w]
        rfl
      refine take_ (i := 1) (N := (some 33)) (v := ?_) (a' := ?_) #[true, true, false, false, false, false, false] rfl rfl (take_ofW HT_.out HW_.out (by kernel_rfl)) (fun _ _ _ h => h) (Or.inl ⟨by rfl, ?_⟩) hHeld ?_ ?_
      rotate_left
      · rintro w' s0
        go_simp
        first | done | with_reducible rfl
      rotate_left
      · simp only [Act.put, List.setIfInBounds_toArray, List.set_cons_zero, List.set_cons_succ, i64_w, i32_w]
        rfl
      refine pure_ (i := 2) (N := (some 34)) (v := ?_) (a' := ?_) #[true, true, true, false, false, false, false] rfl rfl (any_of HT_.out (by kernel_rfl)) (fun _ _ _ h => h) (Or.inl ⟨by rfl, ?_⟩) ?_ ?_
      rotate_left
      · intro w'
        go_simp
        first | done | with_reducible rfl
      rotate_left
      · simp only [Act.put, List.setIfInBounds_toArray, List.set_cons_zero, List.set_cons_succ, i64_w, i32_w]
        rfl
      refine pure_ (i := 3) (N := (some 35)) (v := ?_) (a' := ?_) #[true, true, true, true, false, false, false] rfl rfl (any_of HT_.out (by kernel_rfl)) (fun _ _ _ h => h) (Or.inl ⟨by rfl, ?_⟩) ?_ ?_
      rotate_left
      · intro w'
        go_simp
        first | done | with_reducible rfl
      rotate_left
      · simp only [Act.put, List.setIfInBounds_toArray, List.set_cons_zero, List.set_cons_succ, i64_w, i32_w]
        rfl
      refine one_ (i := 4) (N := (some 36)) #[true, true, true, true, true, false, false] rfl rfl (one_of HT_.out (by kernel_rfl)) (by decide) (fun K hK => ?_)
      refine goes_ Try.func44 (by kernel_rfl) rfl #[.slice A xs.length c] (by rfl) rfl rfl (by (try simp only [List.map_toArray, List.map_cons, List.map_nil]); first | done | rfl) ?_
      with_reducible refine (CloneByte.calls A c xs _ (Kd.C_drew HC3.out) HCc.out (by have := HXL.out; omega)).mono ?_
      rintro ev_ w4 ⟨v4, rfl, hR4, hb4⟩
      refine ⟨_, rfl, ?_⟩
      obtain ⟨A9, n9, c9_, rfl⟩ := R_shape hR4
      have HB4 := Aside0.mk (below_step (below_drew (Below.refl _ wr)) hb4)
      have HR4 := Aside0.mk hR4
      have HX4 := Aside0.mk ((HB4.out.block b2 (blk_lt HBI.out.x2)).trans HBI.out.x2)
      obtain ⟨qs4, hq4, -, hq5⟩ := HBI.out.qs
      have HQ4 := Aside0.mk ((HB4.out.block q (blk_lt hq4)).trans hq4)
      have HQ5 := Aside0.mk (hq5 k hkl (Nat.le_refl _))
      clear hR4 hb4 hq4 hq5
      refine hK.out _ _ ((blk_cell HX4.out 3).trans rfl) (fun hHeld => ?_)
      clear hK K
      refine norm_ (a' := ?_) ?_ ?_
      rotate_left
      · show Act.put _ (some 36) _ = _
        simp only [Act.put, List.setIfInBounds_toArray, List.set_cons_zero, List.set_cons_succ, i64_w, i32_w]
        rfl
      refine take_ (i := 5) (N := (some 37)) (v := ?_) (a' := ?_) #[true, true, true, true, true, true, false] rfl rfl (take_ofW HT_.out HW_.out (by kernel_rfl)) (fun _ _ _ h => h) (Or.inl ⟨by rfl, ?_⟩) hHeld ?_ ?_
      rotate_left
      · rintro w' s0
        go_simp
        first | done | with_reducible rfl
      rotate_left
      · simp only [Act.put, List.setIfInBounds_toArray, List.set_cons_zero, List.set_cons_succ, i64_w, i32_w]
        rfl
      refine one_ (i := 6) (N := none) #[true, true, true, true, true, true, true] rfl rfl (one_of HT_.out (by kernel_rfl)) (by decide) (fun K hK => ?_)
      have u9 := (blk_cell HQ4.out k).trans HQ5.out
      have fz9 : w4.frozen? ⟨q, k, none⟩ = false := blk_frozen HQ4.out k
      unfold encS at u9
      go_simp
      clear u9 fz9
      obtain ⟨w5, hw5⟩ : ∃ w5, w4.setCell ⟨q, k, none⟩ (.slice A9 n9 c9_) = w5 := ⟨_, rfl⟩
      rw [hw5]
      have HBI5 : Aside0 (Bi w w5 b1 b2 q cap3 B l (k + 1)) := ⟨by rw [← hw5]; exact HBI.out.step HB4.out HXS.out HLL.out HQ.out (Kd.R_lower HR4.out (Nat.le_refl _))⟩
      clear hw5
      refine hK.out _ _ ((blk_cell HBI5.out.x2 3).trans rfl) (fun hHeld => ?_)
      clear hK K
      refine done_ (done_of HT_.out (by kernel_rfl)) ?_
      go_wp2_with fail
      go_roundw
      case measure =>
        have hm : B.pages.length - ((k + 1 : Nat) : Int).toNat < B.pages.length - ((k : Nat) : Int).toNat := by
          rw [Int.toNat_natCast, Int.toNat_natCast]
          exact Nat.sub_lt_sub_left hlt (Nat.lt_succ_self k)
        rw [hw2]
        exact hm
      case rel => exact ⟨k + 1, hlt, by rw [hw2], HBI5⟩
    · have he : k = B.pages.length := by omega
      subst he
      have hn : ¬ (((B.pages.length : Nat) : Int) < (B.pages.length : Int)) := by omega
      have e1 : wr.cell? ⟨b1, 0, none⟩ = some (.bool false) := (blk_cell HBI.out.x1 0).trans rfl
      have e2 : wr.cell? ⟨b1, 1, none⟩ = some (.int .i64 0) := (blk_cell HBI.out.x1 1).trans rfl
      have e3 : wr.cell? ⟨b1, 2, none⟩ = some (.int .i64 0) := (blk_cell HBI.out.x1 2).trans rfl
      have e4 : wr.cell? ⟨b1, 3, none⟩ = some (.slice none 0 0) := (blk_cell HBI.out.x1 3).trans rfl
      have f1 : wr.frozen? ⟨b1, 0, none⟩ = false := blk_frozen HBI.out.x1 0
      have f2 : wr.frozen? ⟨b1, 1, none⟩ = false := blk_frozen HBI.out.x1 1
      have f3 : wr.frozen? ⟨b1, 2, none⟩ = false := blk_frozen HBI.out.x1 2
      have f4 : wr.frozen? ⟨b1, 3, none⟩ = false := blk_frozen HBI.out.x1 3
      have g1 : wr.cell? ⟨b2, 0, none⟩ = some (.bool B.bad) := (blk_cell HBI.out.x2 0).trans rfl
      have g2 : wr.cell? ⟨b2, 1, none⟩ = some (.int .i64 B.next) := (blk_cell HBI.out.x2 1).trans rfl
      have g3 : wr.cell? ⟨b2, 2, none⟩ = some (.int .i64 B.count) := (blk_cell HBI.out.x2 2).trans rfl
      have g4 : wr.cell? ⟨b2, 3, none⟩ = some (.slice (some ⟨q, 0, none⟩) B.pages.length cap3) := (blk_cell HBI.out.x2 3).trans rfl
      clear hlim
      go_wp2_with fail
      have hx1 : ((((wr.setCell ⟨b1, 0, none⟩ (.bool B.bad)).setCell ⟨b1, 1, none⟩ (.int .i64 B.next)).setCell ⟨b1, 2, none⟩ (.int .i64 B.count)).setCell ⟨b1, 3, none⟩ (.slice (some ⟨q, 0, none⟩) B.pages.length cap3)).heap[b1]? = some (.cells #[.bool B.bad, .int .i64 B.next, .int .i64 B.count, .slice (some ⟨q, 0, none⟩) B.pages.length cap3] 79 (0, 0)) :=
        blk_put (blk_put (blk_put (blk_put HBI.out.x1 0 _ rfl) 1 _ rfl) 2 _ rfl) 3 _ rfl
      refine bodyPost_ret (results_single rfl (.cell b1 79 #[.bool B.bad, .int .i64 B.next, .int .i64 B.count, .slice (some ⟨q, 0, none⟩) B.pages.length cap3] (0, 0) _ rfl hx1 Try.underlying79 rfl (by kernel_rfl) .nil)) rfl ⟨_, rfl, ⟨_, rfl, some ⟨q, 0, none⟩, cap3, rfl, HQC.out, fun j xs hj => ?_⟩, ?_⟩
      · obtain ⟨qs', h1, h2, -⟩ := HBI.out.qs
        obtain ⟨v, h3, h4⟩ := h2 j xs hj (List.getElem?_eq_some_iff.1 hj).1
        have y1 := HBI.out.x1
        have far : ∀ (W : World) (o : Nat) (u : Value), W.heap[q]? = some (.cells qs' 26 (0, 0)) → q ≠ b1 → (W.setCell ⟨b1, o, none⟩ u).heap[q]? = some (.cells qs' 26 (0, 0)) := fun W o u hh hne => blk_far hh (p := ⟨b1, o, none⟩) hne u
        have hne : q ≠ b1 := type_ne h1 y1 (by decide)
        refine ⟨⟨q, 0, none⟩, v, rfl, HQ.out, ?_, Kd.R_set (Kd.R_set (Kd.R_set (Kd.R_set h4 y1 (u8_ne _ (by decide)) 0 _) (blk_set y1 0 _) (u8_ne _ (by decide)) 1 _) (blk_set (blk_set y1 0 _) 1 _) (u8_ne _ (by decide)) 2 _) (blk_set (blk_set (blk_set y1 0 _) 1 _) 2 _) (u8_ne _ (by decide)) 3 _⟩
        rw [add_plain, blk_cell (far _ _ _ (far _ _ _ (far _ _ _ (far _ _ _ h1 hne) hne) hne) hne)]
        exact h3
      · have hb1 : w.heap.size ≤ b1 := Nat.le_of_eq HB1E.out
        exact (((HBI.out.below.setCell (p := ⟨b1, 0, none⟩) hb1 _).setCell (p := ⟨b1, 1, none⟩) hb1 _).setCell (p := ⟨b1, 2, none⟩) hb1 _).setCell (p := ⟨b1, 3, none⟩) hb1 _
/-- Block. -/
theorem block {w : World} {base : Nat} {ok : Nat → Prop} {g : Nat} {s : Chp} (hI : IsChip w base ok g s) (b : Int) (hx : ∀ xs ∈ (blockB s b).pages, xs.length ≤ 100000) :
    Calls Try.prog 52 #[.pointer (some ⟨g, 0, none⟩), .int .i64 b] w fun e w' => ∃ v, e = .returned v ∧ BlkV w' w.heap.size v (blockB s b) ∧ Below w.heap.size w w' := by
  cases hs : hasB s b with
  | false =>
    have : blockB s b = noB := by unfold blockB; rw [if_neg (by rw [hs]; decide)]
    rw [this]
    exact blockN hI b hs
  | true =>
    obtain ⟨i, B, rfl, hB, hi⟩ := has_at hs
    have : blockB s (i : Int) = B := by unfold blockB; rw [if_pos hs, Int.toNat_natCast, hB]; rfl
    rw [this] at hx ⊢
    exact blockY hI i B hs hB hi hx
end Go.Proofs.Ytkncmbbkehnagaa.Cm

set_option linter.unusedVariables false
set_option linter.unusedSimpArgs false
/-! slices.Index and slices.Contains over ints. -/
namespace Go.Proofs.Ytkncmbbkehnagaa.Cm
open Go.RowKit Go.Proofs.YtkncmbbkehnagaaW.PrintWords Go.Proofs.YtkncmbbkehnagaaW.PrintLast Go.Proofs.YtkncmbbkehnagaaW.PrintMore Go.Proofs.Ytkncmbbkehnagaa.Kp Go.Proofs.Ytkncmbbkehnagaa.Cp

theorem ints_at {w : World} {A : Option Addr} {n : Nat} {xs : List Int} (h : (Kd.int .i64).C w A n xs) (j : Nat) (hj : j < n) : ∃ ad, A = some ad ∧ w.cell? (ad.add j) = some (.int .i64 (xs.getD j 0)) := by
  obtain ⟨ad, c, e, _, hK, hc⟩ := Kd.C_get h 0 (j : Int) (by omega) (by omega)
  have hk : c = [.int .i64 (xs.getD j 0)] := hK
  refine ⟨ad, e, ?_⟩
  have hz := hc 0 (.int .i64 (xs.getD j 0)) (by rw [hk]; rfl)
  simpa [Kd.int, Kd.scalar] using hz
set_option maxHeartbeats 2000000 in
set_option maxRecDepth 100000 in
theorem indexI (w : World) (A : Option Addr) (c : Nat) (l : List Int) (v : Int) (hC : Kd.C (Kd.int .i64) w A l.length l) (hc : l.length ≤ c) (hl : l.length ≤ 100000) :
    Calls Try.prog 50 #[.slice A l.length c, .int .i64 v] w fun e w' => ∃ r : Int, e = .returned (.int .i64 r) ∧ (0 ≤ r ↔ v ∈ l) ∧ w' = w := by
  have HC := Aside0.mk hC
  have HL := Aside0.mk hl
  clear hC hc hl
  go_enter Try.func50, Try.ntmps50
  go_wp2_with fail
  go_loopw [8] (fun v8 wr => ∃ k : Nat, k ≤ l.length ∧ v8 = .int .i64 (k : Int) ∧ wr = w ∧ Aside0 (∀ j, j < k → l.getD j 0 ≠ v)) (fun v8 _ => l.length - (intOf v8).toNat)
  case atStart => exact ⟨0, Nat.zero_le _, rfl, rfl, ⟨fun j h => absurd h (Nat.not_lt_zero _)⟩⟩
  case round =>
    obtain ⟨k, hk, rfl, hwr, HN⟩ := hrel
    rw [hwr]
    clear hwr
    have hlim := HL.out
    by_cases hlt : k < l.length
    · obtain ⟨ad, rfl, hx⟩ := ints_at HC.out k hlt
      have hw2 : wrap64 ((k : Int) + 1) = ((k + 1 : Nat) : Int) := by unfold wrap64; omega
      have hlt2 : (k : Int) < (l.length : Int) := by omega
      obtain ⟨Z, hZ⟩ : ∃ Z, l.getD k 0 = Z := ⟨_, rfl⟩
      rw [hZ] at hx
      have HZ := Aside0.mk hZ
      clear hlim hZ
      cases hv : (v == Z) with
      | true =>
        have HV := Aside0.mk hv
        go_wp2_with fail
        go_ret
        refine ⟨_, rfl, ?_, rfl⟩
        have h1 : v = Z := by simpa using HV.out
        have h2 : v ∈ l := by
          rw [h1, ← HZ.out, List.getD_eq_getElem?_getD, List.getElem?_eq_getElem hlt]
          exact List.getElem_mem hlt
        exact ⟨fun _ => h2, fun _ => by omega⟩
      | false =>
        have HV := Aside0.mk hv
        go_wp2_with fail
        go_roundw
        case measure =>
          have hm : l.length - ((k + 1 : Nat) : Int).toNat < l.length - ((k : Nat) : Int).toNat := by
            rw [Int.toNat_natCast, Int.toNat_natCast]
            exact Nat.sub_lt_sub_left hlt (Nat.lt_succ_self k)
          first | exact hm | (rw [hw2]; exact hm)
        case rel => exact ⟨k + 1, hlt, by first | rw [hw2] | rfl, by first | rfl | trivial, ⟨fun j hj => by
          by_cases e : j = k
          · subst e
            rw [HZ.out]
            intro e2
            have := HV.out
            rw [e2] at this
            simp at this
          · exact HN.out j (by omega)⟩⟩
    · have he : k = l.length := by omega
      subst he
      have hn : ¬ (((l.length : Nat) : Int) < (l.length : Int)) := by omega
      clear hlim
      go_wp2_with fail
      go_ret
      refine ⟨_, rfl, ?_, rfl⟩
      refine ⟨fun h => absurd h (by omega), fun hm => ?_⟩
      obtain ⟨j, hj, he⟩ := List.getElem_of_mem hm
      exact absurd (by rw [List.getD_eq_getElem?_getD, List.getElem?_eq_getElem hj]; exact he) (HN.out j hj)
set_option maxHeartbeats 2000000 in
set_option maxRecDepth 100000 in
theorem containsI (w : World) (A : Option Addr) (c : Nat) (l : List Int) (v : Int) (hC : Kd.C (Kd.int .i64) w A l.length l) (hc : l.length ≤ c) (hl : l.length ≤ 100000) :
    Calls Try.prog 27 #[.slice A l.length c, .int .i64 v] w fun e w' => e = .returned (.bool (l.contains v)) ∧ w' = w := by
  have hcc := indexI w A c l v hC hc hl
  clear hC hc hl
  go_enter Try.func27, Try.ntmps27
  go_wp2_with fail
  refine hcc.mono ?_
  clear hcc
  rintro ev w2 ⟨r, rfl, hr, hw2⟩
  rw [hw2]
  clear hw2 w2
  have HR := Aside0.mk hr
  clear hr
  go_wp2_with fail
  go_ret
  have hd : decide (0 ≤ r) = l.contains v := by
    rw [Bool.eq_iff_iff, decide_eq_true_iff, List.contains_iff_mem]
    exact HR.out
  rw [← hd]
  exact ⟨rfl, rfl⟩
end Go.Proofs.Ytkncmbbkehnagaa.Cm

/-
  Iterators at the wide fence: what a round must keep is named by blocks ('KpS'); small words for callers.
-/
set_option linter.unusedVariables false
set_option linter.unusedSimpArgs false
namespace Go.Proofs.Ytkncmbbkehnagaa.Iter
open Go.RowKit Go.Shelf

theorem room_of_none {F : Fence} (hd : F.depth = none) (k : Nat) : F.room k := fun d h => by rw [hd] at h; cases h
theorem roundIn_anyDepth {F : Fence} (hd : F.depth = none) {m m' : Nat} {P : Program} {l : Nat} {f : FuncId} {tmps : Array Value} {assign body : Code} {w : World} {R : Ending → World → Prop}
    (h : RoundIn F m P l f tmps assign body w R) : RoundIn F m' P l f tmps assign body w R := ⟨h.1, fun c cs _ => h.2 c cs (room_of_none hd _)⟩
theorem yieldAt_anyDepth {F : Fence} (hd : F.depth = none) {m : Nat} (m' : Nat) {P : Program} {l : Nat} {args : Array Value} {W : World} {R : Ending → World → Prop} (h : YieldAt F m P l args W R) : YieldAt F m' P l args W R := by
  obtain ⟨fn, tmps, assign, body, hy, hR⟩ := h
  exact ⟨fn, tmps, assign, body, hy, roundIn_anyDepth hd hR⟩

/-- The blocks of cells that are named lie as they lay. -/
def KpS (S : Nat → Prop) (W W' : World) : Prop := ∀ k, S k → ∀ c t f, W.heap[k]? = some (.cells c t f) → W'.heap[k]? = some (.cells c t f)
theorem KpS.refl (S : Nat → Prop) (W : World) : KpS S W W := fun _ _ _ _ _ h => h
theorem KpS.trans {S : Nat → Prop} {A B C : World} (h : KpS S A B) (k : KpS S B C) : KpS S A C := fun i hi c t f hh => k i hi c t f (h i hi c t f hh)
theorem KpS.t {S : Nat → Prop} : ∀ {A B C : World}, KpS S A B → KpS S B C → KpS S A C := fun h k => h.trans k
theorem KpS.b {S : Nat → Prop} {B : Nat} : ∀ (W : World) (l : Nat) (o o' : Obj), B ≤ l → W.heap[l]? = some o → o.isCells = false → o.isWalk = false → KpS S W (W.putObj l o') := fun W l o o' _ hl ho _ k _ c t f hk => by
  have hne : k ≠ l := by
    rintro rfl
    rw [hk] at hl
    cases hl
    cases ho
  rw [World.putObj_heap_other hne]
  exact hk
theorem KpS.of_grownBy {S : Nat → Prop} {W W' : World} {row : Option Nat} (hg : W.grownBy W' row) (h : ∀ k, row = some k → ¬ S k) : KpS S W W' := fun k hk c t f hh =>
  (hg.block k (Array.getElem?_eq_some_iff.1 hh).1 (fun e => h k e.symm hk)).trans hh
theorem KpS.of_below {n : Nat} {S : Nat → Prop} {W W' : World} (hb : Below n W W') (h : ∀ k, S k → k < n) : KpS S W W' := fun k hk c t f hh => (hb.block k (h k hk)).trans hh
theorem KpS.mono {S S' : Nat → Prop} {W W' : World} (h : KpS S W W') (hs : ∀ k, S' k → S k) : KpS S' W W' := fun k hk => h k (hs k hk)
theorem KpS.setCell {S : Nat → Prop} (W : World) (b : Nat) (v : Value) (h : ¬ S b) : KpS S W (W.setCell ⟨b, 0, none⟩ v) := KpS.of_grownBy (grownBy_setCell' W b v) (fun k e hk => by cases e; exact h hk)
theorem KpS.alloc {S : Nat → Prop} (W : World) (o : Obj) : KpS S W (W.alloc o) := KpS.of_grownBy (World.grownBy_alloc W o none) (fun k e => by cases e)

theorem KpS.cell' {S : Nat → Prop} {W W' : World} (h : KpS S W W') {a : Addr} {v : Value} (hs : S a.block) (hc : W.cell? a = some v) : W'.cell? a = some v := by
  unfold World.cell? at hc ⊢
  cases hh : W.heap[a.block]? with
  | none => rw [hh] at hc; cases hc
  | some o =>
    rw [hh] at hc
    cases o <;> try (cases hc; done)
    rename_i cs t f
    rw [h _ hs _ _ _ hh]
    exact hc
theorem SeqStopsK.kp {α : Type} {F : Fence} {n : Nat} {P : Program} {g : Nat} {lb : Array Value} {encs : α → Array Value} {Kp Kp' : World → World → Prop} {S Sp : List α → Prop} {N : Nat} {w : World}
    (h : SeqStopsK F n P g lb encs Kp S Sp N w) (hk : ∀ A B, Kp' A B → Kp A B) : SeqStopsK F n P g lb encs Kp' S Sp N w := fun l J Jx W hW hJ hJx hY h0 =>
  h l J Jx W hW hJ hJx (fun pre x W1 hj hl => YieldAt.mono (hY pre x W1 hj hl) fun e W' hr => hr.imp (fun ⟨a, b, c⟩ => ⟨a, b, hk _ _ c⟩) id) h0
/-- An iterator of bare values serves where the elements bear a proof, if all that come do. -/
theorem hdd : ∀ k : Nat, (Fence.wide.depth.isSome = true → 1 ≤ k) := fun k h => by cases h
end Go.Proofs.Ytkncmbbkehnagaa.Iter

/-
  turn.Turn: its function value gives the numbers from one on, round, each once.
-/
set_option linter.unusedVariables false
set_option linter.unusedSimpArgs false
namespace Go.Proofs.Ytkncmbbkehnagaa.Iter
open Go.RowKit Go.Shelf
attribute [local go_sem] Oper.semAt_some

/-- The numbers a, a + 1, .. (n of them). -/
def upList (a : Int) : Nat → List Int
  | 0 => []
  | n + 1 => a :: upList (a + 1) n
theorem upList_length (a : Int) : ∀ n, (upList a n).length = n := by
  intro n
  induction n generalizing a with
  | zero => rfl
  | succ n ih => simp [upList, ih]
theorem upList_snoc (a : Int) (n : Nat) : upList a (n + 1) = upList a n ++ [a + (n : Int)] := by
  induction n generalizing a with
  | zero => simp [upList]
  | succ n ih =>
    rw [upList, ih (a + 1)]
    show _ = a :: upList (a + 1) n ++ _
    rw [List.cons_append]
    congr 3
    omega
theorem upList_get (a : Int) (n i : Nat) (h : i < n) : (upList a n)[i]? = some (a + (i : Int)) := by
  induction n generalizing a i with
  | zero => omega
  | succ n ih =>
    cases i with
    | zero => simp [upList]
    | succ i =>
      rw [upList, List.getElem?_cons_succ, ih (a + 1) i (by omega)]
      congr 1
      omega
theorem upList_prefix (a : Int) (m n : Nat) (h : m ≤ n) : upList a m <+: upList a n := by
  induction n generalizing a m with
  | zero => obtain rfl : m = 0 := by omega
            exact List.prefix_rfl
  | succ n ih =>
    cases m with
    | zero => exact List.nil_prefix
    | succ m => exact (List.cons_prefix_cons).2 ⟨rfl, ih (a + 1) m (by omega)⟩

set_option maxHeartbeats 2000000 in
set_option maxRecDepth 100000 in
/-- 'for i := from; i < to; i++ { if !yield(i) { return false } }; return true'. -/
theorem upTo_in (n : Nat) (l N : Nat) (a b : Int) (ha : -1000000 ≤ a) (hb : b ≤ 9223372036854775807) (pre0 : List Int) (J Jx : List Int → World → Prop)
    (hY : ∀ pre x W, J pre W → pre.length < N → YieldAt Fence.wide (n - 1) Try.prog l #[.int .i64 x] W fun e W' =>
      (e = .returned (.bool true) ∧ J (pre ++ [x]) W') ∨ (e = .returned (.bool false) ∧ Jx (pre ++ [x]) W'))
    (hN : pre0.length + (b - a).toNat ≤ N) (W : World) (h0 : J pre0 W) :
    CallsIn Fence.wide n Try.prog 49 #[.int .i64 a, .int .i64 b, .func (.yield l) #[] #[]] W fun e W' =>
      (e = .returned (.bool true) ∧ J (pre0 ++ upList a (b - a).toNat) W') ∨ (e = .returned (.bool false) ∧ ∃ q, q <+: upList a (b - a).toNat ∧ Jx (pre0 ++ q) W') := by
  refine callsIn_of_wp Try.func49 rfl trivial ?_ rfl
  simp only [Try.ntmps49, List.size_toArray, List.length_cons, List.length_nil, Nat.reduceAdd, Nat.reduceSub, Array.replicate_succ, Array.replicate_zero, List.push_toArray, List.append_toArray, List.nil_append, List.cons_append]
  gi_wp2
  gi_loopw [7] (fun v7 wr => ∃ k : Nat, k ≤ (b - a).toNat ∧ v7 = .int .i64 (a + (k : Int)) ∧ J (pre0 ++ upList a k) wr) (fun v7 wr => (b - intOf v7).toNat)
  case atStart => exact ⟨0, Nat.zero_le _, by simp, by simpa [upList] using h0⟩
  case round =>
    obtain ⟨k, hk, rfl, hJ⟩ := hrel
    by_cases hlt : a + (k : Int) < b
    · obtain ⟨fn, tmps, assign, body, hy, hR⟩ := hY _ (a + (k : Int)) wr hJ (by simp [upList_length]; omega)
      gi_wp2_with ((try refine ⟨hdd _, ?_⟩); refine hR.mono ?_; clear hR; rintro e W2 (⟨rfl, hJ2⟩ | ⟨rfl, hx2⟩))
      · go_roundw
        case rel => exact ⟨k + 1, by omega, by go_num, by rw [upList_snoc, ← List.append_assoc]; exact hJ2⟩
        case measure => simp [intOf]; omega
      · go_ret
        refine .inr ⟨rfl, upList a (k + 1), upList_prefix a _ _ (by omega), ?_⟩
        rw [upList_snoc, ← List.append_assoc]
        exact hx2
    · gi_wp2
      go_ret
      have hke : k = (b - a).toNat := by omega
      exact .inl ⟨rfl, by rw [← hke]; exact hJ⟩
end Go.Proofs.Ytkncmbbkehnagaa.Iter
namespace Go.Proofs.Ytkncmbbkehnagaa.Iter
open Go.RowKit Go.Shelf
attribute [local go_sem] Oper.semAt_some

/-- Where Turn begins. -/
def turnAt (n fr : Int) : Int := if fr.tmod n < 0 then fr.tmod n + n else fr.tmod n
/-- What Turn gives. -/
def turnList (n fr : Int) : List Int := if n < 1 then [] else upList (turnAt n fr) (n - turnAt n fr).toNat ++ upList 0 (turnAt n fr).toNat
theorem turnAt_range (n fr : Int) (h : 1 ≤ n) : 0 ≤ turnAt n fr ∧ turnAt n fr < n := by
  have h1 : fr.tmod n < n := Int.tmod_lt_of_pos _ (by omega)
  have h2 : -n < fr.tmod n := by
    have := Int.lt_tmod_of_pos fr (show 0 < n by omega)
    omega
  unfold turnAt
  split <;> omega
theorem turnList_length (n fr : Int) : (turnList n fr).length = n.toNat := by
  unfold turnList
  split
  · simp; omega
  · have := turnAt_range n fr (by omega)
    rw [List.length_append, upList_length, upList_length]
    omega

set_option maxHeartbeats 2000000 in
set_option maxRecDepth 100000 in
theorem turn1_in (m : Nat) (l Bn Bf : Nat) (n fr : Int) (hn : n ≤ 9223372036854775807) (J Jx : List Int → World → Prop)
    (hY : ∀ pre x W, J pre W → pre.length < (turnList n fr).length → YieldAt Fence.wide (m - 1) Try.prog l #[.int .i64 x] W fun e W' =>
      (e = .returned (.bool true) ∧ J (pre ++ [x]) W' ∧ KpS (fun k => k = Bn ∨ k = Bf) W W') ∨ (e = .returned (.bool false) ∧ Jx (pre ++ [x]) W'))
    (W : World) (hBn : W.cell? ⟨Bn, 0, none⟩ = some (.int .i64 n)) (hBf : W.cell? ⟨Bf, 0, none⟩ = some (.int .i64 fr)) (h0 : J [] W) :
    CallsIn Fence.wide m Try.prog 48 #[.func (.yield l) #[] #[], .pointer (some ⟨Bn, 0, none⟩), .pointer (some ⟨Bf, 0, none⟩)] W fun e W' => (∃ v, e = .returned v) ∧
      ((∃ ys, ys = turnList n fr ∧ J ys W') ∨ (∃ pre, pre <+: turnList n fr ∧ Jx pre W')) := by
  by_cases h1 : n < 1
  · refine callsIn_of_wp Try.func48 rfl trivial ?_ rfl
    simp only [Try.ntmps48, List.size_toArray, List.length_cons, List.length_nil, Nat.reduceAdd, Nat.reduceSub, Array.replicate_succ, Array.replicate_zero, List.push_toArray, List.append_toArray, List.nil_append, List.cons_append]
    gi_wp2
    refine bodyPost_ret (results_none rfl _ _ _) rfl ?_
    exact ⟨⟨_, rfl⟩, .inl ⟨[], by unfold turnList; rw [if_pos h1], h0⟩⟩
  · have hr := turnAt_range n fr (by omega)
    have hl := turnList_length n fr
    have hL : turnList n fr = upList (turnAt n fr) (n - turnAt n fr).toNat ++ upList 0 (turnAt n fr).toNat := by unfold turnList; rw [if_neg h1]
    have hY' : ∀ k pre x W, J pre W → pre.length < (turnList n fr).length → YieldAt Fence.wide k Try.prog l #[.int .i64 x] W fun e W' =>
        (e = .returned (.bool true) ∧ J (pre ++ [x]) W') ∨ (e = .returned (.bool false) ∧ Jx (pre ++ [x]) W') := fun k pre x W hj hlt =>
      YieldAt.mono (yieldAt_anyDepth rfl k (hY pre x W hj hlt)) fun e W' h => h.imp (fun ⟨a, b, _⟩ => ⟨a, b⟩) id
    have c1 := upTo_in (m - 1) l (turnList n fr).length (turnAt n fr) n (by omega) hn [] J Jx (hY' _) (by simp; omega) W h0
    have c2 := fun W2 hj => upTo_in (m - 1) l (turnList n fr).length 0 (turnAt n fr) (by omega) (by omega) (upList (turnAt n fr) (n - turnAt n fr).toNat) J Jx (hY' _) (by rw [upList_length]; omega) W2 hj
    obtain ⟨t, ht⟩ : ∃ t, fr.tmod n = t := ⟨_, rfl⟩
    have ht1 : t < n := by rw [← ht]; exact Int.tmod_lt_of_pos _ (by omega)
    have ht2 : -n < t := by have := Int.lt_tmod_of_pos fr (show 0 < n by omega); omega
    have hw : wrap64 t = t := by unfold wrap64; omega
    have hne : (n == 0) = false := by rw [beq_eq_false_iff_ne]; omega
    have hft : turnAt n fr = if t < 0 then t + n else t := by unfold turnAt; rw [ht]
    rw [hL]
    clear hL hY hY' hl
    generalize hF : turnAt n fr = F at *
    have Hft := Lib.hid hft
    clear hft hF
    by_cases hneg : t < 0
    · have hf2 : t + n = F := by rw [Hft.out, if_pos hneg]
      have Hf2 := Lib.hid hf2
      refine callsIn_of_wp Try.func48 rfl trivial ?_ rfl
      simp only [Try.ntmps48, List.size_toArray, List.length_cons, List.length_nil, Nat.reduceAdd, Nat.reduceSub, Array.replicate_succ, Array.replicate_zero, List.push_toArray, List.append_toArray, List.nil_append, List.cons_append]
      gi_wp2_with (first
        | (refine ⟨trivial, hdd _, ?_⟩; gi_at_call 49; refine c1.mono ?_; clear c1; rintro e W1 (⟨rfl, hJ1⟩ | ⟨rfl, q, hq, hx⟩); (try simp only [List.nil_append] at hJ1))
        | (refine ⟨trivial, hdd _, ?_⟩; gi_at_call 49; refine (c2 _ hJ1).mono ?_; clear c2; rintro e W2 (⟨rfl, hJ2⟩ | ⟨rfl, q, hq, hx⟩)))
      · go_end0
        exact ⟨⟨_, rfl⟩, .inl ⟨_, rfl, by simpa using hJ2⟩⟩
      · go_end0
        exact ⟨⟨_, rfl⟩, .inr ⟨_, (List.prefix_append_right_inj _).2 (by simpa using hq), by simpa using hx⟩⟩
      · go_end0
        exact ⟨⟨_, rfl⟩, .inr ⟨q, hq.trans (List.prefix_append _ _), by simpa using hx⟩⟩
    · have hf2 : t = F := by rw [Hft.out, if_neg hneg]
      subst hf2
      refine callsIn_of_wp Try.func48 rfl trivial ?_ rfl
      simp only [Try.ntmps48, List.size_toArray, List.length_cons, List.length_nil, Nat.reduceAdd, Nat.reduceSub, Array.replicate_succ, Array.replicate_zero, List.push_toArray, List.append_toArray, List.nil_append, List.cons_append]
      gi_wp2_with (first
        | (refine ⟨trivial, hdd _, ?_⟩; gi_at_call 49; refine c1.mono ?_; clear c1; rintro e W1 (⟨rfl, hJ1⟩ | ⟨rfl, q, hq, hx⟩); (try simp only [List.nil_append] at hJ1))
        | (refine ⟨trivial, hdd _, ?_⟩; gi_at_call 49; refine (c2 _ hJ1).mono ?_; clear c2; rintro e W2 (⟨rfl, hJ2⟩ | ⟨rfl, q, hq, hx⟩)))
      · go_end0
        exact ⟨⟨_, rfl⟩, .inl ⟨_, rfl, by simpa using hJ2⟩⟩
      · go_end0
        exact ⟨⟨_, rfl⟩, .inr ⟨_, (List.prefix_append_right_inj _).2 (by simpa using hq), by simpa using hx⟩⟩
      · go_end0
        exact ⟨⟨_, rfl⟩, .inr ⟨q, hq.trans (List.prefix_append _ _), by simpa using hx⟩⟩

set_option maxHeartbeats 1000000 in
theorem turn_calls (n fr : Int) (w : World) :
    Calls Try.prog 26 #[.int .i64 n, .int .i64 fr] w fun e w' => e = .returned (.func (.func 48) #[] #[.pointer (some ⟨w.heap.size, 0, none⟩), .pointer (some ⟨w.heap.size + 1, 0, none⟩)]) ∧
      w' = (w.alloc (.cells #[.int .i64 n] 3)).alloc (.cells #[.int .i64 fr] 3) := by
  go_enter Try.func26, Try.ntmps26
  go_wp2
  go_ret
  exact ⟨rfl, rfl⟩
theorem turn_stops (m : Nat) (Bn Bf : Nat) (n fr : Int) (hn : n ≤ 9223372036854775807) (w : World) (hBn : w.heap[Bn]? = some (.cells #[.int .i64 n] 3 (0, 0))) (hBf : w.heap[Bf]? = some (.cells #[.int .i64 fr] 3 (0, 0))) :
    SeqStopsK Fence.wide m Try.prog 48 #[.pointer (some ⟨Bn, 0, none⟩), .pointer (some ⟨Bf, 0, none⟩)] (fun x : Int => #[Value.int .i64 x]) (KpS (fun k => k = Bn ∨ k = Bf)) (fun ys => ys = turnList n fr) (fun pre => pre <+: turnList n fr) (turnList n fr).length w := fun l J Jx W hW _ _ hY h0 => by
  have a := (hW.block Bn (Array.getElem?_eq_some_iff.1 hBn).1).trans hBn
  have b := (hW.block Bf (Array.getElem?_eq_some_iff.1 hBf).1).trans hBf
  exact turn1_in m l Bn Bf n fr hn J Jx hY W (by simp [World.cell?, a]) (by simp [World.cell?, b]) h0
end Go.Proofs.Ytkncmbbkehnagaa.Iter

/-
  A region that draws its order, writes memory and defers nothing, inside a round of a loop over an iterator: the plain walk with loads taken first ('wpAnyH') serves.
-/
set_option linter.unusedVariables false
namespace Go.Proofs.Ytkncmbbkehnagaa.HeldRound
open Go
variable {n : Nat} {P : Program} {ops : Array Oper} {md : Region.Mode} {l : Nat}

theorem rowsIn_round {row : String} {args : Array Value} {w : World} {R : Value → World → Prop} (h : Rows P row args w R) : RowsIn (Fence.wide.inRound l) n P row args w R := fun c cs _ =>
  let ⟨v, w', r, s⟩ := h c cs
  ⟨v, w', r, stepsIn_wide.2 s⟩

/-- What ends in no panic. -/
def Calm (Q : Exit → Act → World → Prop) : Exit → Act → World → Prop := fun e a w => e = .normal ∧ Q .normal a w

theorem op_round {Q : Exit → Act → World → Prop} {o : Oper} {a : Act} {K : Act → World → Prop} {w : World} (hnd : ∀ c, o.op ≠ .defer c) (h : o.wp P a w K (Calm Q)) : o.wpIn (Fence.wide.inRound l) n P a w K Q := by
  refine ⟨fun _ _ => trivial, ?_⟩
  rw [Oper.semAt_eq _ _ _ hnd]
  unfold Oper.wp at h
  cases hr : (execOp a.eval o).run P w with
  | halt x w' =>
    rw [hr] at h
    cases x <;> first | exact h.elim | (obtain ⟨e, _⟩ := h; cases e)
  | ok x w' =>
    rw [hr] at h
    cases x with
    | value u => exact h
    | skip => exact h
    | defer d => exact h
    | enter f args =>
      refine ⟨fun e => (by cases e), CallsIn.inRound l (callsIn_wide.2 (Calls.mono h ?_))⟩
      intro e w'' he
      cases e with
      | returned v => exact he
      | panicked c => obtain ⟨e, _⟩ := he; cases e
      | outgrown => obtain ⟨_, _, e, _⟩ := he; cases e
    | row r args =>
      have h' : Rows P r args w' _ := h
      exact ⟨fun e => (by cases e), rowsIn_round h'⟩
    | _ => exact h.elim
/-- As 'wpAnyH', but behind the operations that 'st' names (the stores at the statement's end) nothing is asked of the world. -/
def AnyT (P : Program) (md : Region.Mode) (ops : Array Oper) (Q : Exit → Act → World → Prop) (st : Nat → Bool) (S : World → Prop) : Nat → Array Bool → Act → World → Prop
  | 0, listed, a, w => Region.ready md ops listed = [] ∧ Q .normal a w
  | k + 1, listed, a, w => (Region.ready md ops listed = [] → Q .normal a w) ∧
    ∀ i ∈ Region.ready md ops listed, wpOp P ops Q i (fun a' w' => (st i = false → S w') ∧ AnyT P md ops Q st S k (listed.setIfInBounds i true) a' w') a w

/-- What came up came up behind all that it waits for. -/
def Closed (md : Region.Mode) (ops : Array Oper) (listed : Array Bool) : Prop := ∀ (k : Nat) (o : Oper), ops[k]? = some o → listed.getD k false = true → ∀ e ∈ o.after, Region.binds md e = true → listed.getD e.on false = true
def closedB (md : Region.Mode) (ops : Array Oper) (listed : Array Bool) : Bool := (List.range ops.size).all fun k => !listed.getD k false || (match ops[k]? with | some o => o.after.all fun e => !Region.binds md e || listed.getD e.on false | none => true)
theorem closed_of {listed : Array Bool} (h : closedB md ops listed = true) : Closed md ops listed := fun k o ho hk e he hb => by
  have hlt : k < ops.size := (Array.getElem?_eq_some_iff.1 ho).1
  have h1 := List.all_eq_true.1 h k (List.mem_range.2 hlt)
  rw [ho, hk] at h1
  have h2 : (o.after.all fun e => !Region.binds md e || listed.getD e.on false) = true := by simpa using h1
  obtain ⟨m, hm, rfl⟩ := Array.getElem_of_mem he
  have h3 := Array.all_eq_true.1 h2 m hm
  rw [hb] at h3
  simpa using h3
/-- Number j waits for number i, through others perhaps. -/
def reach (md : Region.Mode) (ops : Array Oper) (i : Nat) : Nat → Nat → Bool
  | 0, _ => false
  | f + 1, j => match ops[j]? with | some o => o.after.any (fun e => Region.binds md e && (e.on == i || reach md ops i f e.on)) | none => false
theorem reach_listed {listed : Array Bool} (hc : Closed md ops listed) {i : Nat} : ∀ (f j : Nat), reach md ops i f j = true → (∀ o, ops[j]? = some o → ∀ e ∈ o.after, Region.binds md e = true → listed.getD e.on false = true) → listed.getD i false = true
  | 0, _, h, _ => by cases h
  | f + 1, j, h, hl => by
    unfold reach at h
    cases ho : ops[j]? with
    | none => rw [ho] at h; cases h
    | some o =>
      rw [ho] at h
      obtain ⟨m, hm, h1⟩ := Array.any_eq_true.1 h
      simp only [Bool.and_eq_true, Bool.or_eq_true, beq_iff_eq] at h1
      have hx := hl o ho _ (Array.getElem_mem hm) h1.1
      rcases h1.2 with h2 | h2
      · rw [← h2]; exact hx
      · exact reach_listed hc f _ h2 (fun o' ho' e he hb => hc _ o' ho' hx e he hb)

section
variable {Q : Exit → Act → World → Prop} {S : World → Prop} {st : Nat → Bool}
/-- An operation that yields its value in every world that meets S may be taken first, if it is free and the named ones wait for it. -/
theorem first_anyT {i : Nat} {oi : Oper} {v : Value} (hi : ops[i]? = some oi) (hsel : ∀ (j : Nat) (o : Oper) cs b, ops[j]? = some o → o.op ≠ .select cs b) (hQ : ∀ c a w, Q (.panic c) (a.put oi.dst v) w → Q (.panic c) a w)
    (hst : st i = false) (hwait : ∀ (j : Nat), j < ops.size → st j = true → reach md ops i ops.size j = true) : ∀ (fuel : Nat) (listed : Array Bool) (a : Act) (w : World), Closed md ops listed → ops.size ≤ listed.size →
      (∀ j oj, ops[j]? = some oj → j ≠ i → listed.getD j true = false → (∀ e ∈ oj.after, Region.binds md e = true → e.on ≠ i) → oi.apart ops oj = true) →
      i ∈ Region.ready md ops listed → YieldsIf P ops S oi v a → S w →
      AnyT P md ops Q st S fuel (listed.setIfInBounds i true) (a.put oi.dst v) w → AnyT P md ops Q st S (fuel + 1) listed a w := by
  intro fuel
  induction fuel with
  | zero =>
    intro listed a w _ _ _ hr hy hS H
    refine ⟨fun h => (by rw [h] at hr; cases hr), fun j hj => ?_⟩
    rcases Nat.decEq j i with hne | rfl
    · have hm := ready_mono hj hne
      rw [H.1] at hm
      cases hm
    · exact hy.wpOp hi hS ⟨fun _ => hS, H⟩
  | succ fuel ih =>
    intro listed a w hcl hsz hfree hr hy hS H
    refine ⟨fun h => (by rw [h] at hr; cases hr), fun j hj => ?_⟩
    rcases Nat.decEq j i with hne | rfl
    · have hstep := H.2 j (ready_mono hj hne)
      obtain ⟨hjun, oj, hoj, hall⟩ := mem_ready.1 hj
      have hnot : ∀ e ∈ oj.after, Region.binds md e = true → e.on ≠ i := fun e he hb heq => by
        have k1 := hall e he hb
        have k0 := (mem_ready.1 hr).1
        rw [heq] at k1
        rcases Nat.lt_or_ge i listed.size with h' | h'
        · simp [h'] at k0 k1; rw [k0] at k1; cases k1
        · simp [Array.getElem?_eq_none h'] at k1
      have hsj : st j = false := by
        cases h : st j with
        | false => rfl
        | true =>
          have hlt : j < ops.size := (Array.getElem?_eq_some_iff.1 hoj).1
          have k2 := reach_listed hcl _ _ (hwait j hlt h) (fun o ho e he hb => by rw [hoj] at ho; cases ho; exact hall e he hb)
          have k0 := (mem_ready.1 hr).1
          rcases Nat.lt_or_ge i listed.size with h' | h'
          · simp [h'] at k0 k2; rw [k0] at k2; cases k2
          · simp [Array.getElem?_eq_none h'] at k2
      have hput := wpOp_putIf hoj (hfree j oj hoj hne hjun hnot) (fun cs b => hsel i oi cs b hi) (fun cs b => hsel j oj cs b hoj) hQ hy hstep
      have hcl' : Closed md ops (listed.setIfInBounds j true) := fun k o ho hk e he hb => by
        have hjs : j < listed.size := Nat.lt_of_lt_of_le (Array.getElem?_eq_some_iff.1 hoj).1 hsz
        have hdeps : listed.getD e.on false = true := by
          by_cases hkj : j = k
          · subst hkj; rw [hoj] at ho; cases ho; exact hall e he hb
          · rw [getD_set_ne false hkj] at hk; exact hcl k o ho hk e he hb
        by_cases hej : j = e.on
        · rw [← hej]; simp [hjs]
        · rw [getD_set_ne false hej]; exact hdeps
      refine wpOp_mono (fun a' w' h3 => ⟨h3.2.1, ih (listed.setIfInBounds j true) a' w' hcl' (by simpa using hsz) (fun k ok hk hki hun hno => ?_) (ready_mono hr (Ne.symm hne)) h3.1 (h3.2.1 hsj) ?_⟩) hput
      · refine hfree k ok hk hki ?_ hno
        by_cases hjk : j = k
        · subst hjk; exact hjun
        · rw [getD_set_ne true hjk] at hun; exact hun
      · rw [Array.setIfInBounds_comm _ _ hne]
        exact h3.2.2
    · exact hy.wpOp hi hS ⟨fun _ => hS, H⟩

/-- Every operation that 'st' names waits for number i. -/
def waits (md : Region.Mode) (ops : Array Oper) (st : Nat → Bool) (i : Nat) : Bool := (List.range ops.size).all fun j => !st j || reach md ops i ops.size j
theorem waits_spec {i : Nat} (h : waits md ops st i = true) (j : Nat) (hlt : j < ops.size) (hs : st j = true) : reach md ops i ops.size j = true := by
  have h1 := List.all_eq_true.1 h j (List.mem_range.2 hlt)
  rw [hs] at h1
  simpa using h1
theorem take_anyT {i : Nat} {oi : Oper} {v : Value} {fuel : Nat} {listed : Array Bool} {a : Act} {w : World} (hi : ops[i]? = some oi) (hs : Region.noSelect ops = true) (hf : Region.free md ops listed i = true) (hr : (Region.ready md ops listed).contains i = true)
    (hst : st i = false) (hw : (waits md ops st i && closedB md ops listed && decide (ops.size ≤ listed.size)) = true) (hQ : ∀ c a w, Q (.panic c) (a.put oi.dst v) w → Q (.panic c) a w) (hy : YieldsIf P ops S oi v a) (hS : S w)
    (h : AnyT P md ops Q st S fuel (listed.setIfInBounds i true) (a.put oi.dst v) w) : AnyT P md ops Q st S (fuel + 1) listed a w :=
  have hw' := Bool.and_eq_true_iff.1 (Bool.and_eq_true_iff.1 hw).1
  first_anyT hi (Region.noSelect_spec hs) hQ hst (waits_spec hw'.1) fuel listed a w (closed_of hw'.2) (of_decide_eq_true (Bool.and_eq_true_iff.1 hw).2) (Region.free_spec hi hf) (by simpa using hr) hy hS h
theorem all_anyT {rs : List Nat} {fuel : Nat} {listed : Array Bool} {a : Act} {w : World} (hr : Region.ready md ops listed = rs) (hne : rs ≠ [])
    (h : ∀ i ∈ rs, wpOp P ops Q i (fun a' w' => (st i = false → S w') ∧ AnyT P md ops Q st S fuel (listed.setIfInBounds i true) a' w') a w) : AnyT P md ops Q st S (fuel + 1) listed a w := ⟨fun h0 => absurd (hr ▸ h0) hne, hr ▸ h⟩
theorem done_anyT {listed : Array Bool} {a : Act} {w : World} (hr : Region.ready md ops listed = []) (h : Q .normal a w) : ∀ fuel, AnyT P md ops Q st S fuel listed a w
  | 0 => ⟨hr, h⟩
  | _ + 1 => ⟨fun _ => h, by rw [hr]; simp⟩
end

theorem any_round {Q : Exit → Act → World → Prop} {S : World → Prop} {st : Nat → Bool} (hnd : ∀ (i : Nat) (o : Oper), ops[i]? = some o → ∀ c, o.op ≠ .defer c) : ∀ (fuel : Nat) (listed : Array Bool) (a : Act) (w : World),
    AnyT P md ops (Calm Q) st S fuel listed a w → wpAnyIn (Fence.wide.inRound l) n P md ops Q fuel listed a w
  | 0, _, _, _, h => ⟨h.1, h.2.2⟩
  | fuel + 1, listed, a, w, h => ⟨fun h0 => (h.1 h0).2, fun i hi => by
      have hq := h.2 i hi
      unfold wpOp at hq
      unfold wpOpIn
      cases ho : ops[i]? with
      | none => rw [ho] at hq; exact any_round hnd fuel _ _ _ hq.2
      | some o =>
        rw [ho] at hq
        by_cases hwt : Region.wanted o (yielded ops a.tmps) = true
        · simp only [hwt, if_true] at hq ⊢
          rcases hq with hq | ⟨_, _, _, e, _⟩
          · refine Oper.wpIn_mono (fun a' w' h' => any_round hnd fuel _ a' w' h'.2) (op_round (hnd i o ho) hq)
          · cases e
        · simp only [hwt] at hq ⊢
          exact ⟨fun _ _ => trivial, any_round hnd fuel _ _ _ hq.2⟩⟩

theorem op_anyT {Q : Exit → Act → World → Prop} {i : Nat} {o : Oper} {T : Act → World → Prop} {a : Act} {w : World} (ho : ops[i]? = some o) (hw : Region.wanted o (yielded ops a.tmps) = true) (h : ∀ K : Act → World → Prop, (∀ a' w', T a' w' → K a' w') → o.wp P a w K Q) : wpOp P ops Q i T a w := by
  unfold wpOp
  rw [ho]
  simp only [hw, if_true]
  exact .inl (h T fun _ _ h => h)
/-- The beginning. -/
theorem region_round (st : Nat → Bool) (S : World → Prop) {id : Nat} {Q : Exit → Act → World → Prop} {a : Act} {w : World} {ol : List Oper} (hm : P.follows .mixedOrders = true) (hnd : (ol.all fun o => match o.op with | .defer _ => false | _ => true) = true)
    (h : AnyT P .any ol.toArray (Calm Q) st S ol.toArray.size (Array.replicate ol.toArray.size false) a w.drew) : (Code.region id ol.toArray true).wpIn (Fence.wide.inRound l) n P Q a w := by
  have hnd' : ∀ (i : Nat) (o : Oper), ol.toArray[i]? = some o → ∀ c, o.op ≠ .defer c := fun i o ho c e => by
    have hmem : o ∈ ol := by
      rw [List.getElem?_toArray] at ho
      exact List.mem_of_getElem? ho
    have := List.all_eq_true.1 hnd o hmem
    rw [e] at this
    cases this
  exact wpIn_region_any hm (any_round hnd' _ _ _ _ h)
end Go.Proofs.Ytkncmbbkehnagaa.HeldRound

set_option linter.unusedVariables false
set_option linter.unusedSimpArgs false
/-! The chip's New. -/
namespace Go.Proofs.Ytkncmbbkehnagaa.Cm
open Go.RowKit Go.Shelf Go.Proofs.YtkncmbbkehnagaaW.PrintWords Go.Proofs.YtkncmbbkehnagaaW.PrintLast Go.Proofs.YtkncmbbkehnagaaW.PrintMore Go.Proofs.Ytkncmbbkehnagaa.Kp Go.Proofs.Ytkncmbbkehnagaa.Cp Go.Proofs.Ytkncmbbkehnagaa.Iter
attribute [local go_sem] max2_int min2_int
attribute [local go_sem] Oper.semAt_some

def rowN (bad : List Int) (p : Nat) (x : Int) (q : Nat) : List Value := [.bool (bad.contains x), .int .i64 0, .int .i64 0, .slice (some ⟨q, 0, none⟩) p p]
def rowsN (bad : List Int) (p : Nat) : List Int → List Nat → List Value
  | x :: xs, q :: r => rowN bad p x q ++ rowsN bad p xs r
  | _, _ => []
theorem rowsN_snoc (bad : List Int) (p q : Nat) (x : Int) : ∀ (xs : List Int) (l : List Nat), xs.length = l.length → rowsN bad p (xs ++ [x]) (l ++ [q]) = rowsN bad p xs l ++ rowN bad p x q
  | [], [], _ => by simp [rowsN]
  | y :: ys, z :: l, h => by simp only [List.cons_append, rowsN, rowsN_snoc bad p q x ys l (by simpa using h), List.append_assoc]
theorem rowsN_get (bad : List Int) (p : Nat) : ∀ (xs : List Int) (l : List Nat) (k : Nat) (hk : k < l.length) (hx : k < xs.length) (j : Nat) (hj : j < 4), (rowsN bad p xs l)[k * 4 + j]? = (rowN bad p xs[k] l[k])[j]?
  | y :: xs, x :: l, 0, hk, hx, j, hj => by
    rw [rowsN, List.getElem?_append_left (by simp [rowN]; omega)]
    simp
  | y :: xs, x :: l, k + 1, hk, hx, j, hj => by
    rw [rowsN, List.getElem?_append_right (by simp [rowN]; omega), show (k + 1) * 4 + j - (rowN bad p y x).length = k * 4 + j by simp [rowN]; omega, rowsN_get bad p xs l k (by simpa using hk) (by simpa using hx) j hj]
    rfl
def newCells (v : Value) (p : Nat) : Array Value := #[v, .int .i64 (p : Int), .int .i64 0, .int .i64 0, .int .i64 0, .int .i64 (-1), .int .i64 (-1), .int .i64 (-1), .int .i64 0, .bool false]
/-- New's round: so many blocks are there. -/
structure NwI (W : World) (B g base : Nat) (bad : List Int) (p : Nat) (pre : List Int) (u v : Value) (pgl : List Nat) : Prop where
  len : pgl.length = pre.length
  box : Boxed W B 33 (.pointer (some ⟨g, 0, none⟩))
  chip : W.heap[g]? = some (.cells (newCells u p) 72 (0, 0))
  row : W.ownsRow base 79 4 v pre.length (rowsN bad p pre pgl)
  pgs : ∀ i (hi : i < pgl.length), base ≤ pgl[i] ∧ W.heap[pgl[i]]? = some (.cells (madeCells #[.slice none 0 0] p) 26 (0, 0))
  nodup : pgl.Nodup
def Nw (B g base : Nat) (bad : List Int) (p : Nat) (pre : List Int) (W : World) : Prop := ∃ v pgl, NwI W B g base bad p pre v v pgl
theorem cells_kept {X Y : World} {row : Option Nat} {k t : Nat} {cs : Array Value} (h : X.heap[k]? = some (.cells cs t (0, 0))) (hg : X.grownBy Y row) (hrow : ∀ r, row = some r → ∃ o : Obj, X.heap[r]? = some o ∧ o.isCells = false) : Y.heap[k]? = some (.cells cs t (0, 0)) := by
  refine (hg.block k (Array.getElem?_eq_some_iff.1 h).1 (fun e => ?_)).trans h
  obtain ⟨o, ho, hc⟩ := hrow k e.symm
  rw [h] at ho
  cases ho
  cases hc
theorem nw_own (B g base : Nat) (bad : List Int) (p : Nat) : Own (fun s W => Nw B g base bad p s W) := by
  rintro s X Y row ⟨v, pgl, h⟩ hg hrow
  refine ⟨v, pgl, h.len, cells_kept h.box hg hrow, cells_kept h.chip hg hrow, h.row.kept hg ?_, fun i hi => ⟨(h.pgs i hi).1, cells_kept (h.pgs i hi).2 hg hrow⟩, h.nodup⟩
  rcases h.row.2 with ⟨rfl, _⟩ | ⟨q, cap, cur, rfl, _, hgb, _⟩
  · exact .inl rfl
  · refine .inr fun e' => ?_
    obtain ⟨o, ho, hc⟩ := hrow q (by simpa [Value.ownBlock] using e'.symm)
    rw [hgb] at ho
    cases ho
    cases hc
theorem keepT {X Y : World} {base n k t : Nat} {v : Value} {xs : List Value} {cs : Array Value} (hr : X.ownsRow base 79 4 v n xs) (hg : X.grownBy Y v.ownBlock) (h : X.heap[k]? = some (.cells cs t (0, 0))) (ht : t ≠ 79) : Y.heap[k]? = some (.cells cs t (0, 0)) := by
  refine (hg.block k (Array.getElem?_eq_some_iff.1 h).1 (fun e => ?_)).trans h
  rcases hr.2 with ⟨rfl, _⟩ | ⟨q, cap, cur, rfl, _, hgb, _⟩
  · cases e
  · obtain rfl : k = q := by simpa [Value.ownBlock] using e
    rw [h] at hgb
    injection hgb with hgb
    injection hgb with _ hgb
    exact ht hgb
section
variable {X Y W w5 : World} {B g base p : Nat} {bad pre : List Int} {u v : Value} {pgl : List Nat}
theorem NwI.alloc (h : NwI X B g base bad p pre u v pgl) (o : Obj) : NwI (X.alloc o) B g base bad p pre u v pgl :=
  ⟨h.len, h.box.alloc _, blk_alloc h.chip _, h.row.alloc _, fun i hi => ⟨(h.pgs i hi).1, blk_alloc (h.pgs i hi).2 _⟩, h.nodup⟩
theorem NwI.app (h : NwI X B g base bad p pre u v pgl) (x : Int) {q : Nat} (hq : X.heap[q]? = some (.cells (madeCells #[.slice none 0 0] p) 26 (0, 0))) (hqb : base ≤ q) (hqn : q ∉ pgl) (hg : X.grownBy Y v.ownBlock) {v' : Value}
    (ho : Y.ownsRow base 79 4 v' (pre.length + 1) (rowsN bad p pre pgl ++ rowN bad p x q)) : NwI Y B g base bad p (pre ++ [x]) u v' (pgl ++ [q]) := by
  refine ⟨by simp [h.len], keepT h.row hg h.box (by decide), keepT h.row hg h.chip (by decide), ?_, fun i hi => ?_, ?_⟩
  · rw [rowsN_snoc _ _ _ _ _ _ h.len.symm, List.length_append]
    exact ho
  · by_cases e : i < pgl.length
    · rw [List.getElem_append_left e]
      exact ⟨(h.pgs i e).1, keepT h.row hg (h.pgs i e).2 (by decide)⟩
    · have : i = pgl.length := by simp at hi; omega
      subst this
      rw [List.getElem_append_right (Nat.le_refl _)]
      simp only [Nat.sub_self, List.getElem_cons_zero]
      exact ⟨hqb, keepT h.row hg hq (by decide)⟩
  · rw [List.nodup_append]
    exact ⟨h.nodup, by simp, fun a ha b hb => by simp at hb; rintro rfl; exact hqn (hb ▸ ha)⟩
theorem NwI.store (h : NwI X B g base bad p pre u v pgl) (hgb : g < base) : NwI (X.setCell ⟨g, 0, none⟩ v) B g base bad p pre v v pgl := by
  refine ⟨h.len, blk_far h.box (p := ⟨g, 0, none⟩) (type_ne h.box h.chip (by decide)) _, blk_put h.chip 0 _ rfl, h.row.kept (grownBy_setCell' X g v) ?_, fun i hi => ⟨(h.pgs i hi).1, blk_far (h.pgs i hi).2 (p := ⟨g, 0, none⟩) (type_ne (h.pgs i hi).2 h.chip (by decide)) _⟩, h.nodup⟩
  cases e : v.ownBlock with
  | none => exact .inl rfl
  | some k => exact .inr fun e' => by have := own_base h.row k e; cases e'; omega
/-- In the midst of a round. -/
structure Gd (Sx : Nat → Prop) (W w5 : World) (B g base : Nat) (bad : List Int) (p : Nat) (pre : List Int) (u v : Value) (pgl : List Nat) (X : World) : Prop where
  nw : NwI X B g base bad p pre u v pgl
  below : Below g w5 X
  keeps : KeepsOthers W X
  kp : KpS Sx W X
  size : base ≤ X.heap.size
  far : ∀ k, Sx k → B < k ∧ k < base
  gb : g < B ∧ B < base
variable {Sx : Nat → Prop}
theorem Gd.alloc (h : Gd Sx W w5 B g base bad p pre u v pgl X) (o : Obj) : Gd Sx W w5 B g base bad p pre u v pgl (X.alloc o) :=
  ⟨h.nw.alloc o, h.below.alloc (by have := h.gb; have := h.size; omega) _, h.keeps.trans (KeepsOthers.alloc _ _), h.kp.trans (KpS.alloc _ _), by have := h.size; simp; omega, h.far, h.gb⟩
theorem Gd.app (h : Gd Sx W w5 B g base bad p pre u v pgl X) (x : Int) {q : Nat} (hq : X.heap[q]? = some (.cells (madeCells #[.slice none 0 0] p) 26 (0, 0))) (hqb : base ≤ q) (hqn : q ∉ pgl) (hg : X.grownBy Y v.ownBlock) {v' : Value}
    (ho : Y.ownsRow base 79 4 v' (pre.length + 1) (rowsN bad p pre pgl ++ rowN bad p x q)) (hs : X.heap.size ≤ Y.heap.size) : Gd Sx W w5 B g base bad p (pre ++ [x]) u v' (pgl ++ [q]) Y := by
  have hb : ∀ k, v.ownBlock = some k → base ≤ k := own_base h.nw.row
  refine ⟨h.nw.app x hq hqb hqn hg ho, h.below.grown hg (by have := h.gb; have := h.size; omega) (fun k hk => by have := hb k hk; have := h.gb; omega), h.keeps.trans (KeepsOthers.of_grownBy hg fun j o ej hj => ?_), h.kp.trans (KpS.of_grownBy hg fun k hk hs => by have := hb k hk; have := h.far k hs; omega), Nat.le_trans h.size hs, h.far, h.gb⟩
  rcases h.nw.row.2 with ⟨rfl, _⟩ | ⟨q', cap, cur, rfl, _, hgb, _⟩
  · simp [Value.ownBlock] at ej
  · obtain rfl : q' = j := by simpa [Value.ownBlock] using ej
    rw [hgb] at hj; cases hj; rfl
theorem Gd.store (h : Gd Sx W w5 B g base bad p pre u v pgl X) : Gd Sx W w5 B g base bad p pre v v pgl (X.setCell ⟨g, 0, none⟩ v) :=
  ⟨h.nw.store (by have := h.gb; omega), h.below.setCell (p := ⟨g, 0, none⟩) (Nat.le_refl _) _, h.keeps.trans (KeepsOthers.setCell _ _ _), h.kp.trans (KpS.setCell _ _ _ (fun hk => by have := h.far _ hk; have := h.gb; omega)), by simpa [World.setCell] using h.size, h.far, h.gb⟩
end
theorem row_at {W : World} {b t : Nat} {cs : Array Value} (h : W.heap[b]? = some (.cells cs t (0, 0))) : ∀ j u, cs.toList[j]? = some u → W.cell? ((⟨b, 0, none⟩ : Addr).add j) = some u := fun j u hj => by
  rw [add_plain, blk_cell h]
  simpa using hj
theorem enters1 : ∀ args w, (callFunc 48 args).run Try.prog w = .ok (.enter 48 args) w := enters_of Try.func48 (by kernel_rfl) rfl
theorem infoB : (Try.prog.info? 79).map (fun i => (i.zero, i.size, i.bytes)) = some (some (.agg #[.bool false, .int .i64 0, .int .i64 0, .slice none 0 0]), 4, 48) := by kernel_rfl
set_option maxHeartbeats 4000000 in
set_option maxRecDepth 100000 in
theorem newIn (w : World) (n p : Nat) (A : Option Addr) (c : Nat) (bad : List Int) (hC : Kd.C (Kd.int .i64) w A bad.length bad) (hc : bad.length ≤ c) (hl : bad.length ≤ 100000) (hn1 : 1 ≤ n) (hn2 : n ≤ 64) (hp1 : 1 ≤ p) (hp2 : p ≤ 32) :
    CallsIn Fence.wide 9 Try.prog 11 #[.int .i64 (n : Int), .int .i64 (p : Int), .slice A bad.length c] w fun e w' => ∃ g v pgl, e = .returned (.pointer (some ⟨g, 0, none⟩)) ∧ w.heap.size ≤ g ∧ Below w.heap.size w w' ∧
      w'.heap[g]? = some (.cells (newCells v p) 72 (0, 0)) ∧ w'.ownsRow w.heap.size 79 4 v n (rowsN bad p (turnList n 0) pgl) ∧ pgl.length = n ∧ (∀ i (hi : i < pgl.length), w.heap.size ≤ pgl[i] ∧ w'.heap[pgl[i]]? = some (.cells (madeCells #[.slice none 0 0] p) 26 (0, 0))) ∧ pgl.Nodup := by
  have HC := Lib.hid hC
  have HCC := Lib.hid hc
  have HL := Lib.hid hl
  clear hC hc hl
  obtain ⟨iB, hiB, hzB, hsB, hbB⟩ := info_parts infoB
  refine callsIn_of_wp_marks Try.func11 rfl trivial ?_ rfl
  simp only [Try.ntmps11, List.size_toArray, List.length_cons, List.length_nil, Nat.reduceAdd, Nat.reduceSub, Array.replicate_succ, Array.replicate_zero, List.push_toArray, List.append_toArray, List.nil_append, List.cons_append]
  have t1 : ¬ ((n : Int) < 1) := by omega
  have t2 : ¬ ((n : Int) > 64) := by omega
  have t3 : ¬ ((p : Int) < 1) := by omega
  have t4 : ¬ ((p : Int) > 32) := by omega
  gi_wp2_with fail
  refine ⟨trivial, ?_⟩
  obtain ⟨w4, hw4⟩ : ∃ w4, (((w.alloc (.cells #[.int .i64 (p : Int)] 3)).alloc (.cells #[.slice A bad.length c] 69)).alloc (.cells (newCells (.slice none 0 0) p) 72)).alloc (.cells #[.pointer (some ⟨w.heap.size + 1 + 1, 0, none⟩)] 33) = w4 := ⟨_, rfl⟩
  have q0 : Boxed w4 w.heap.size 3 (.int .i64 (p : Int)) := by rw [← hw4]; exact (((Boxed.new w _ _).alloc _).alloc _).alloc _
  have q1 : Boxed w4 (w.heap.size + 1) 69 (.slice A bad.length c) := by rw [← hw4]; have := ((Boxed.new (w.alloc (.cells #[.int .i64 (p : Int)] 3)) 69 (.slice A bad.length c)).alloc (.cells (newCells (.slice none 0 0) p) 72)).alloc (.cells #[.pointer (some ⟨w.heap.size + 1 + 1, 0, none⟩)] 33); simpa using this
  have q2 : w4.heap[w.heap.size + 1 + 1]? = some (.cells (newCells (.slice none 0 0) p) 72 (0, 0)) := by rw [← hw4]; have := heap_alloc_new ((w.alloc (.cells #[.int .i64 (p : Int)] 3)).alloc (.cells #[.slice A bad.length c] 69)) (.cells (newCells (.slice none 0 0) p) 72); simpa using blk_alloc this (.cells #[.pointer (some ⟨w.heap.size + 1 + 1, 0, none⟩)] 33)
  have q3 : Boxed w4 (w.heap.size + 1 + 1 + 1) 33 (.pointer (some ⟨w.heap.size + 1 + 1, 0, none⟩)) := by rw [← hw4]; have := Boxed.new (((w.alloc (.cells #[.int .i64 (p : Int)] 3)).alloc (.cells #[.slice A bad.length c] 69)).alloc (.cells (newCells (.slice none 0 0) p) 72)) 33 (.pointer (some ⟨w.heap.size + 1 + 1, 0, none⟩)); simpa using this
  have hz4 : w4.heap.size = w.heap.size + 4 := by rw [← hw4]; simp
  have hB4 : Below w.heap.size w w4 := by rw [← hw4]; exact below_alloc (below_alloc (below_alloc (below_alloc (Below.refl _ _) _) _) _) _
  have HZ4 := Lib.hid hz4
  have HB4 := Lib.hid hB4
  have Q0 := Lib.hid q0
  have Q1 := Lib.hid q1
  have Q2 := Lib.hid q2
  have Q3 := Lib.hid q3
  unfold newCells at hw4
  rw [hw4]
  clear hw4 q0 q1 q2 q3 hz4 hB4 t1 t2 t3 t4
  refine (callsIn_wide.2 (turn_calls (n : Int) 0 w4)).mono ?_
  rintro ev w5 ⟨rfl, hw5⟩
  have hz5 : w5.heap.size = w4.heap.size + 2 := by rw [hw5]; simp
  have hB5 : Below w4.heap.size w4 w5 := by rw [hw5]; exact below_alloc (below_alloc (Below.refl _ _) _) _
  have hN1 : w5.heap[w4.heap.size]? = some (.cells #[.int .i64 (n : Int)] 3 (0, 0)) := by rw [hw5]; exact blk_alloc (blk_new w4 _) _
  have hN2 : w5.heap[w4.heap.size + 1]? = some (.cells #[.int .i64 0] 3 (0, 0)) := by rw [hw5]; have := blk_new (w4.alloc (.cells #[.int .i64 (n : Int)] 3)) (.cells #[.int .i64 0] 3); simpa using this
  have P0 := Lib.hid (show Boxed w5 w.heap.size 3 (.int .i64 (p : Int)) from blk_below Q0.out hB5)
  have P1 := Lib.hid (show Boxed w5 (w.heap.size + 1) 69 (.slice A bad.length c) from blk_below Q1.out hB5)
  have P2 := Lib.hid (blk_below Q2.out hB5)
  have P3 := Lib.hid (show Boxed w5 (w.heap.size + 1 + 1 + 1) 33 (.pointer (some ⟨w.heap.size + 1 + 1, 0, none⟩)) from blk_below Q3.out hB5)
  have HSEQ := fun m => Lib.hid (turn_stops m w4.heap.size (w4.heap.size + 1) (n : Int) 0 (by omega) w5 hN1 hN2)
  have HZ5 := Lib.hid hz5
  have HB5 := Lib.hid (below_step HB4.out hB5)
  clear hw5 hz5 hB5 hN1 hN2 Q0 Q1 Q2 Q3
  gi_wp2_with fail
  refine' wpIn_rangeFunc_ownG rfl (by omega) (gf := 48) (lb := #[.pointer (some ⟨w4.heap.size, 0, none⟩), .pointer (some ⟨w4.heap.size + 1, 0, none⟩)]) rfl trivial enters1
    (HSEQ 8).out KpS.t (KpS.b (B := w5.heap.size)) (Below.refl _ _) (fun _ => rfl)
    (fun pre W => Nw (w.heap.size + 1 + 1 + 1) (w.heap.size + 1 + 1) w5.heap.size bad p pre W ∧ Below (w.heap.size + 1 + 1) w5 W ∧ pre.length ≤ n)
    (fun c pre W => False)
    (OwnFrom.and (Own.from (nw_own _ _ _ _ _) _) (OwnFrom.and (ownFrom_below (by have := HZ4.out; have := HZ5.out; omega) (by have := HZ4.out; have := HZ5.out; omega)) (ownFrom_pure _ _)))
    (fun c => ownFrom_pure _ (fun pre => False))
    ⟨⟨.slice none 0 0, [], ⟨rfl, P3.out, P2.out, World.ownsRow_nil _ _ _ _, fun i hi => absurd hi (Nat.not_lt_zero _), List.nodup_nil⟩⟩, Below.refl _ _, Nat.zero_le _⟩
    _ ?assign ?body ?done ?stop
  case assign =>
    intro l x W K hK
    gi_wp2
    exact hK
  case body =>
    rintro l pre x W ⟨⟨v, pgl, hN⟩, hB, hle⟩ hpl
    have hpl' : pre.length < n := by rw [turnList_length] at hpl; omega
    have cB := hN.box.cell
    have cG := (blk_cell hN.chip 0).trans (show (newCells v p)[0]? = some v from rfl)
    have c1 : W.cell? ⟨w.heap.size + 1, 0, none⟩ = some (.slice A bad.length c) := (show Boxed W (w.heap.size + 1) 69 (.slice A bad.length c) from (hB.block _ (by omega)).trans P1.out).cell
    have c0 : W.cell? ⟨w.heap.size, 0, none⟩ = some (.int .i64 (p : Int)) := (show Boxed W w.heap.size 3 (.int .i64 (p : Int)) from (hB.block _ (by omega)).trans P0.out).cell
    gi_wp2_with fail
    refine HeldRound.region_round (fun j => j == 15) (fun w' : World => w'.cell? ⟨w.heap.size + 1 + 1 + 1, 0, none⟩ = some (.pointer (some ⟨w.heap.size + 1 + 1, 0, none⟩)) ∧ w'.cell? ⟨w.heap.size + 1 + 1, 0, none⟩ = some v ∧ w'.cell? ⟨w.heap.size + 1, 0, none⟩ = some (.slice A bad.length c) ∧ w'.cell? ⟨w.heap.size, 0, none⟩ = some (.int .i64 (p : Int))) (by kernel_rfl) (by kernel_rfl) ?_
    have G0 : Gd (fun k => k = w4.heap.size ∨ k = w4.heap.size + 1) W w5 (w.heap.size + 1 + 1 + 1) (w.heap.size + 1 + 1) w5.heap.size bad p pre v v pgl W.drew :=
      ⟨⟨hN.len, hN.box, hN.chip, hN.row, hN.pgs, hN.nodup⟩, pw_below_drewN hB 1, KeepsOthers.drew W, KpS.refl _ _, by have := hB.size; simpa using this, fun k hk => by have := HZ4.out; have := HZ5.out; omega, by have := HZ4.out; have := HZ5.out; omega⟩
    have SG : ∀ {v' : Value} {pre' : List Int} {pgl' : List Nat} {w' : World}, Gd (fun k => k = w4.heap.size ∨ k = w4.heap.size + 1) W w5 (w.heap.size + 1 + 1 + 1) (w.heap.size + 1 + 1) w5.heap.size bad p pre' v v' pgl' w' → w'.cell? ⟨w.heap.size + 1 + 1 + 1, 0, none⟩ = some (.pointer (some ⟨w.heap.size + 1 + 1, 0, none⟩)) ∧ w'.cell? ⟨w.heap.size + 1 + 1, 0, none⟩ = some v ∧ w'.cell? ⟨w.heap.size + 1, 0, none⟩ = some (.slice A bad.length c) ∧ w'.cell? ⟨w.heap.size, 0, none⟩ = some (.int .i64 (p : Int)) := fun h =>
      ⟨h.nw.box.cell, (blk_cell h.nw.chip 0).trans (show (newCells v p)[0]? = some v from rfl), (show Boxed _ (w.heap.size + 1) 69 (.slice A bad.length c) from (h.below.block _ (by omega)).trans P1.out).cell, (show Boxed _ w.heap.size 3 (.int .i64 (p : Int)) from (h.below.block _ (by omega)).trans P0.out).cell⟩
    obtain ⟨X0, hX0⟩ : ∃ X, X = W.drew := ⟨_, rfl⟩
    rw [← hX0] at G0 ⊢
    have hS0 := SG G0
    clear hX0 cB cG c0 c1 hN hB
    obtain ⟨bb, hbb⟩ : ∃ b, bad.contains x = b := ⟨_, rfl⟩
    have HBB := Lib.hid hbb
    clear hbb
    refine HeldRound.take_anyT (i := 0) (v := .pointer (some ⟨w.heap.size + 1 + 1, 0, none⟩)) rfl (by kernel_rfl) (by kernel_rfl) (by kernel_rfl) (by kernel_rfl) (by kernel_rfl) (fun c a w h => by cases h.1) (.inl ⟨by rfl, fun w' hw' => by obtain ⟨k1, k2, k3, k4⟩ := hw'; go_simp⟩) hS0 ?_
    simp only [Act.put, List.setIfInBounds_toArray, List.set_cons_zero, List.set_cons_succ]
    refine HeldRound.take_anyT (i := 1) (v := .pointer (some ⟨w.heap.size + 1 + 1, 0, none⟩)) rfl (by kernel_rfl) (by kernel_rfl) (by kernel_rfl) (by kernel_rfl) (by kernel_rfl) (fun c a w h => by cases h.1) (.inl ⟨by rfl, fun w' hw' => by obtain ⟨k1, k2, k3, k4⟩ := hw'; go_simp⟩) hS0 ?_
    simp only [Act.put, List.setIfInBounds_toArray, List.set_cons_zero, List.set_cons_succ]
    refine HeldRound.take_anyT (i := 2) (v := .pointer (some ⟨w.heap.size + 1 + 1, 0, none⟩)) rfl (by kernel_rfl) (by kernel_rfl) (by kernel_rfl) (by kernel_rfl) (by kernel_rfl) (fun c a w h => by cases h.1) (.inl ⟨by rfl, fun w' hw' => by obtain ⟨k1, k2, k3, k4⟩ := hw'; go_simp⟩) hS0 ?_
    simp only [Act.put, List.setIfInBounds_toArray, List.set_cons_zero, List.set_cons_succ]
    refine HeldRound.take_anyT (i := 3) (v := .pointer (some ⟨w.heap.size + 1 + 1, 0, none⟩)) rfl (by kernel_rfl) (by kernel_rfl) (by kernel_rfl) (by kernel_rfl) (by kernel_rfl) (fun c a w h => by cases h.1) (.inl ⟨by rfl, fun w' hw' => by obtain ⟨k1, k2, k3, k4⟩ := hw'; go_simp⟩) hS0 ?_
    simp only [Act.put, List.setIfInBounds_toArray, List.set_cons_zero, List.set_cons_succ]
    refine HeldRound.take_anyT (i := 4) (v := v) rfl (by kernel_rfl) (by kernel_rfl) (by kernel_rfl) (by kernel_rfl) (by kernel_rfl) (fun c a w h => by cases h.1) (.inl ⟨by rfl, fun w' hw' => by obtain ⟨k1, k2, k3, k4⟩ := hw'; go_simp⟩) hS0 ?_
    simp only [Act.put, List.setIfInBounds_toArray, List.set_cons_zero, List.set_cons_succ]
    refine HeldRound.take_anyT (i := 5) (v := .slice A bad.length c) rfl (by kernel_rfl) (by kernel_rfl) (by kernel_rfl) (by kernel_rfl) (by kernel_rfl) (fun c a w h => by cases h.1) (.inl ⟨by rfl, fun w' hw' => by obtain ⟨k1, k2, k3, k4⟩ := hw'; go_simp⟩) hS0 ?_
    simp only [Act.put, List.setIfInBounds_toArray, List.set_cons_zero, List.set_cons_succ]
    refine HeldRound.take_anyT (i := 6) (v := .int .i64 x) rfl (by kernel_rfl) (by kernel_rfl) (by kernel_rfl) (by kernel_rfl) (by kernel_rfl) (fun c a w h => by cases h.1) (.inl ⟨by rfl, fun w' hw' => by obtain ⟨k1, k2, k3, k4⟩ := hw'; go_simp⟩) hS0 ?_
    simp only [Act.put, List.setIfInBounds_toArray, List.set_cons_zero, List.set_cons_succ]
    refine HeldRound.take_anyT (i := 8) (v := .int .i64 (p : Int)) rfl (by kernel_rfl) (by kernel_rfl) (by kernel_rfl) (by kernel_rfl) (by kernel_rfl) (fun c a w h => by cases h.1) (.inl ⟨by rfl, fun w' hw' => by obtain ⟨k1, k2, k3, k4⟩ := hw'; go_simp⟩) hS0 ?_
    simp only [Act.put, List.setIfInBounds_toArray, List.set_cons_zero, List.set_cons_succ]
    refine HeldRound.all_anyT (rs := [7, 9]) (by kernel_rfl) (by simp) ?_
    simp only [List.forall_mem_cons]
    refine ⟨?_, ?_, fun _ h => by cases h⟩
    · refine HeldRound.op_anyT rfl (by rfl) (fun K hK => ?_)
      go_simp
      refine (containsI X0 A c bad x (Kd.C_below HC.out (HB5.out.trans (G0.below.mono (by omega)))) HCC.out HL.out).mono ?_
      rintro ev w' ⟨rfl, hw'⟩
      rw [hw', HBB.out]
      clear hw' w'
      refine hK _ _ ⟨fun _ => SG G0, ?_⟩
      clear hK K
      refine HeldRound.all_anyT (rs := [9]) (by kernel_rfl) (by simp) ?_
      simp only [List.forall_mem_cons]
      refine ⟨?_, fun _ h => by cases h⟩
      refine HeldRound.op_anyT rfl (by rfl) (fun K hK => ?_)
      have hmk := print_make_of 77 26 (.slice none 0 0) 24 Try.underlying77 infoY rfl (by decide) p (by omega)
      have G1 := G0.alloc (.cells (madeCells #[.slice none 0 0] p) 26)
      have N1 : (X0.alloc (.cells (madeCells #[.slice none 0 0] p) 26)).heap[X0.heap.size]? = some (.cells (madeCells #[.slice none 0 0] p) 26 (0, 0)) := blk_new X0 _
      have L1 : X0.heap.size ∉ pgl := fun hm => by
        obtain ⟨i, hi, he⟩ := List.getElem_of_mem hm
        have := (Array.getElem?_eq_some_iff.1 (G0.nw.pgs i hi).2).1
        omega
      have L2 : w5.heap.size ≤ X0.heap.size := G0.size
      go_simp
      refine hK _ _ ⟨fun _ => SG G1, ?_⟩
      clear hK K hmk
      obtain ⟨q, hq⟩ : ∃ B, X0.heap.size = B := ⟨_, rfl⟩
      obtain ⟨X1, hX1⟩ : ∃ Y, X0.alloc (.cells (madeCells #[.slice none 0 0] p) 26) = Y := ⟨_, rfl⟩
      simp only [hX1, hq] at N1 G1 L1 L2 ⊢
      refine HeldRound.take_anyT (i := 10) (v := .agg #[.bool bb, .int .i64 0, .int .i64 0, .slice (some ⟨q, 0, none⟩) p p]) rfl (by kernel_rfl) (by kernel_rfl) (by kernel_rfl) (by kernel_rfl) (by kernel_rfl) (fun c a w h => by cases h.1) (.inl ⟨by rfl, fun w' hw' => by obtain ⟨k1, k2, k3, k4⟩ := hw'; go_simp⟩) (SG G1) ?_
      simp only [Act.put, List.setIfInBounds_toArray, List.set_cons_zero, List.set_cons_succ]
      refine HeldRound.all_anyT (rs := [11]) (by kernel_rfl) (by simp) ?_
      simp only [List.forall_mem_cons]
      refine ⟨?_, fun _ h => by cases h⟩
      refine HeldRound.op_anyT rfl (by rfl) (fun K hK => ?_)
      have G2 := G1.alloc (.cells #[.bool bb, .int .i64 0, .int .i64 0, .slice (some ⟨q, 0, none⟩) p p] 79)
      have N2 : (X1.alloc (.cells #[.bool bb, .int .i64 0, .int .i64 0, .slice (some ⟨q, 0, none⟩) p p] 79)).heap[X1.heap.size]? = some (.cells #[.bool bb, .int .i64 0, .int .i64 0, .slice (some ⟨q, 0, none⟩) p p] 79 (0, 0)) := blk_new X1 _
      have N12 := blk_alloc N1 (.cells #[.bool bb, .int .i64 0, .int .i64 0, .slice (some ⟨q, 0, none⟩) p p] 79)
      go_simp
      refine hK _ _ ⟨fun _ => SG G2, ?_⟩
      clear hK K
      obtain ⟨b2, hb2⟩ : ∃ B, X1.heap.size = B := ⟨_, rfl⟩
      obtain ⟨X2, hX2⟩ : ∃ Y, X1.alloc (.cells #[.bool bb, .int .i64 0, .int .i64 0, .slice (some ⟨q, 0, none⟩) p p] 79) = Y := ⟨_, rfl⟩
      simp only [hX2, hb2] at N2 G2 N12 ⊢
      refine HeldRound.all_anyT (rs := [12]) (by kernel_rfl) (by simp) ?_
      simp only [List.forall_mem_cons]
      refine ⟨?_, fun _ h => by cases h⟩
      refine HeldRound.op_anyT rfl (by rfl) (fun K hK => ?_)
      refine wp_append_lies _ _ _ 70 (by rfl) w5.heap.size 79 iB (.agg #[.bool false, .int .i64 0, .int .i64 0, .slice none 0 0]) 4 48 Try.underlying70 hiB hzB hsB hbB rfl (by decide) v _ _ (by rfl) G2.nw.row ⟨b2, 0, none⟩ 1 1 [.bool bb, .int .i64 0, .int .i64 0, .slice (some ⟨q, 0, none⟩) p p] (by rfl) rfl (row_at N2) (by simp [Value.oneCell']) (by decide) (by unfold maxLen; omega) (by omega) G2.size _ rfl ?_
      intro g3 cap3 X3 hown3 hgrow3 hat3 hlt3
      have G3 := G2.app x N12 L2 L1 hgrow3 (by unfold rowN; rw [HBB.out]; exact hown3) hgrow3.size
      refine hK _ _ ⟨fun _ => SG G3, ?_⟩
      clear hK K
      simp only [Act.put, List.setIfInBounds_toArray, List.set_cons_zero, List.set_cons_succ]
      refine HeldRound.take_anyT (i := 13) (v := .pointer (some ⟨w.heap.size + 1 + 1, 0, none⟩)) rfl (by kernel_rfl) (by kernel_rfl) (by kernel_rfl) (by kernel_rfl) (by kernel_rfl) (fun c a w h => by cases h.1) (.inl ⟨by rfl, fun w' hw' => by obtain ⟨k1, k2, k3, k4⟩ := hw'; go_simp⟩) (SG G3) ?_
      simp only [Act.put, List.setIfInBounds_toArray, List.set_cons_zero, List.set_cons_succ]
      refine HeldRound.take_anyT (i := 14) (v := .pointer (some ⟨w.heap.size + 1 + 1, 0, none⟩)) rfl (by kernel_rfl) (by kernel_rfl) (by kernel_rfl) (by kernel_rfl) (by kernel_rfl) (fun c a w h => by cases h.1) (.inl ⟨by rfl, fun w' hw' => by obtain ⟨k1, k2, k3, k4⟩ := hw'; go_simp⟩) (SG G3) ?_
      simp only [Act.put, List.setIfInBounds_toArray, List.set_cons_zero, List.set_cons_succ]
      refine HeldRound.all_anyT (rs := [15]) (by kernel_rfl) (by simp) ?_
      simp only [List.forall_mem_cons]
      refine ⟨?_, fun _ h => by cases h⟩
      refine HeldRound.op_anyT rfl (by rfl) (fun K hK => ?_)
      have cG := (blk_cell G3.nw.chip 0).trans (show (newCells v p)[0]? = some v from rfl)
      have fG : X3.frozen? ⟨w.heap.size + 1 + 1, 0, none⟩ = false := blk_frozen G3.nw.chip 0
      have G4 := G3.store
      go_simp
      refine hK _ _ ⟨fun h => absurd h (by decide), ?_⟩
      clear hK K cG fG
      try simp only [Act.put, List.setIfInBounds_toArray, List.set_cons_zero, List.set_cons_succ]
      obtain ⟨X4, hX4⟩ : ∃ Y, X3.setCell ⟨w.heap.size + 1 + 1, 0, none⟩ (.slice (some ⟨g3, 0, none⟩) (pre.length + 1) cap3) = Y := ⟨_, rfl⟩
      rw [hX4] at G4 ⊢
      clear hX4
      refine HeldRound.done_anyT (by kernel_rfl) ⟨rfl, ?_⟩ _
      gi_wp2_with fail
      exact ⟨G4.keeps.from _, G4.kp, ⟨_, _, G4.nw⟩, G4.below, by simp; omega⟩
    · refine HeldRound.op_anyT rfl (by rfl) (fun K hK => ?_)
      have hmk := print_make_of 77 26 (.slice none 0 0) 24 Try.underlying77 infoY rfl (by decide) p (by omega)
      have G1 := G0.alloc (.cells (madeCells #[.slice none 0 0] p) 26)
      have N1 : (X0.alloc (.cells (madeCells #[.slice none 0 0] p) 26)).heap[X0.heap.size]? = some (.cells (madeCells #[.slice none 0 0] p) 26 (0, 0)) := blk_new X0 _
      have L1 : X0.heap.size ∉ pgl := fun hm => by
        obtain ⟨i, hi, he⟩ := List.getElem_of_mem hm
        have := (Array.getElem?_eq_some_iff.1 (G0.nw.pgs i hi).2).1
        omega
      have L2 : w5.heap.size ≤ X0.heap.size := G0.size
      go_simp
      refine hK _ _ ⟨fun _ => SG G1, ?_⟩
      clear hK K hmk
      obtain ⟨q, hq⟩ : ∃ B, X0.heap.size = B := ⟨_, rfl⟩
      obtain ⟨X1, hX1⟩ : ∃ Y, X0.alloc (.cells (madeCells #[.slice none 0 0] p) 26) = Y := ⟨_, rfl⟩
      simp only [hX1, hq] at N1 G1 L1 L2 ⊢
      refine HeldRound.all_anyT (rs := [7]) (by kernel_rfl) (by simp) ?_
      simp only [List.forall_mem_cons]
      refine ⟨?_, fun _ h => by cases h⟩
      refine HeldRound.op_anyT rfl (by rfl) (fun K hK => ?_)
      go_simp
      refine (containsI X1 A c bad x (Kd.C_below HC.out (HB5.out.trans (G1.below.mono (by omega)))) HCC.out HL.out).mono ?_
      rintro ev w' ⟨rfl, hw'⟩
      rw [hw', HBB.out]
      clear hw' w'
      refine hK _ _ ⟨fun _ => SG G1, ?_⟩
      clear hK K
      refine HeldRound.take_anyT (i := 10) (v := .agg #[.bool bb, .int .i64 0, .int .i64 0, .slice (some ⟨q, 0, none⟩) p p]) rfl (by kernel_rfl) (by kernel_rfl) (by kernel_rfl) (by kernel_rfl) (by kernel_rfl) (fun c a w h => by cases h.1) (.inl ⟨by rfl, fun w' hw' => by obtain ⟨k1, k2, k3, k4⟩ := hw'; go_simp⟩) (SG G1) ?_
      simp only [Act.put, List.setIfInBounds_toArray, List.set_cons_zero, List.set_cons_succ]
      refine HeldRound.all_anyT (rs := [11]) (by kernel_rfl) (by simp) ?_
      simp only [List.forall_mem_cons]
      refine ⟨?_, fun _ h => by cases h⟩
      refine HeldRound.op_anyT rfl (by rfl) (fun K hK => ?_)
      have G2 := G1.alloc (.cells #[.bool bb, .int .i64 0, .int .i64 0, .slice (some ⟨q, 0, none⟩) p p] 79)
      have N2 : (X1.alloc (.cells #[.bool bb, .int .i64 0, .int .i64 0, .slice (some ⟨q, 0, none⟩) p p] 79)).heap[X1.heap.size]? = some (.cells #[.bool bb, .int .i64 0, .int .i64 0, .slice (some ⟨q, 0, none⟩) p p] 79 (0, 0)) := blk_new X1 _
      have N12 := blk_alloc N1 (.cells #[.bool bb, .int .i64 0, .int .i64 0, .slice (some ⟨q, 0, none⟩) p p] 79)
      go_simp
      refine hK _ _ ⟨fun _ => SG G2, ?_⟩
      clear hK K
      obtain ⟨b2, hb2⟩ : ∃ B, X1.heap.size = B := ⟨_, rfl⟩
      obtain ⟨X2, hX2⟩ : ∃ Y, X1.alloc (.cells #[.bool bb, .int .i64 0, .int .i64 0, .slice (some ⟨q, 0, none⟩) p p] 79) = Y := ⟨_, rfl⟩
      simp only [hX2, hb2] at N2 G2 N12 ⊢
      refine HeldRound.all_anyT (rs := [12]) (by kernel_rfl) (by simp) ?_
      simp only [List.forall_mem_cons]
      refine ⟨?_, fun _ h => by cases h⟩
      refine HeldRound.op_anyT rfl (by rfl) (fun K hK => ?_)
      refine wp_append_lies _ _ _ 70 (by rfl) w5.heap.size 79 iB (.agg #[.bool false, .int .i64 0, .int .i64 0, .slice none 0 0]) 4 48 Try.underlying70 hiB hzB hsB hbB rfl (by decide) v _ _ (by rfl) G2.nw.row ⟨b2, 0, none⟩ 1 1 [.bool bb, .int .i64 0, .int .i64 0, .slice (some ⟨q, 0, none⟩) p p] (by rfl) rfl (row_at N2) (by simp [Value.oneCell']) (by decide) (by unfold maxLen; omega) (by omega) G2.size _ rfl ?_
      intro g3 cap3 X3 hown3 hgrow3 hat3 hlt3
      have G3 := G2.app x N12 L2 L1 hgrow3 (by unfold rowN; rw [HBB.out]; exact hown3) hgrow3.size
      refine hK _ _ ⟨fun _ => SG G3, ?_⟩
      clear hK K
      simp only [Act.put, List.setIfInBounds_toArray, List.set_cons_zero, List.set_cons_succ]
      refine HeldRound.take_anyT (i := 13) (v := .pointer (some ⟨w.heap.size + 1 + 1, 0, none⟩)) rfl (by kernel_rfl) (by kernel_rfl) (by kernel_rfl) (by kernel_rfl) (by kernel_rfl) (fun c a w h => by cases h.1) (.inl ⟨by rfl, fun w' hw' => by obtain ⟨k1, k2, k3, k4⟩ := hw'; go_simp⟩) (SG G3) ?_
      simp only [Act.put, List.setIfInBounds_toArray, List.set_cons_zero, List.set_cons_succ]
      refine HeldRound.take_anyT (i := 14) (v := .pointer (some ⟨w.heap.size + 1 + 1, 0, none⟩)) rfl (by kernel_rfl) (by kernel_rfl) (by kernel_rfl) (by kernel_rfl) (by kernel_rfl) (fun c a w h => by cases h.1) (.inl ⟨by rfl, fun w' hw' => by obtain ⟨k1, k2, k3, k4⟩ := hw'; go_simp⟩) (SG G3) ?_
      simp only [Act.put, List.setIfInBounds_toArray, List.set_cons_zero, List.set_cons_succ]
      refine HeldRound.all_anyT (rs := [15]) (by kernel_rfl) (by simp) ?_
      simp only [List.forall_mem_cons]
      refine ⟨?_, fun _ h => by cases h⟩
      refine HeldRound.op_anyT rfl (by rfl) (fun K hK => ?_)
      have cG := (blk_cell G3.nw.chip 0).trans (show (newCells v p)[0]? = some v from rfl)
      have fG : X3.frozen? ⟨w.heap.size + 1 + 1, 0, none⟩ = false := blk_frozen G3.nw.chip 0
      have G4 := G3.store
      go_simp
      refine hK _ _ ⟨fun h => absurd h (by decide), ?_⟩
      clear hK K cG fG
      try simp only [Act.put, List.setIfInBounds_toArray, List.set_cons_zero, List.set_cons_succ]
      obtain ⟨X4, hX4⟩ : ∃ Y, X3.setCell ⟨w.heap.size + 1 + 1, 0, none⟩ (.slice (some ⟨g3, 0, none⟩) (pre.length + 1) cap3) = Y := ⟨_, rfl⟩
      rw [hX4] at G4 ⊢
      clear hX4
      refine HeldRound.done_anyT (by kernel_rfl) ⟨rfl, ?_⟩ _
      gi_wp2_with fail
      exact ⟨G4.keeps.from _, G4.kp, ⟨_, _, G4.nw⟩, G4.below, by simp; omega⟩
  case done =>
    rintro D ys W hD hys ⟨⟨v, pgl, hN⟩, hB, hle⟩ hK
    have cB := hN.box.cell
    have HNN := Lib.hid hN
    have HBw := Lib.hid (show Below w.heap.size w W from HB5.out.trans (hB.mono (by omega)))
    have HD0 := Lib.hid (show w5.heap.size ≤ D from hD)
    have HK := Lib.hid hK
    have HYS := Lib.hid hys
    clear hN hB hK hD hys hle
    gi_wp2_with fail
    have hfar : ∀ (o : Obj) (k t : Nat) (cs : Array Value), W.heap[k]? = some (.cells cs t (0, 0)) → (W.putObj D o).heap[k]? = some (.cells cs t (0, 0)) := fun o k t cs hk => by
      have hne : k ≠ D := by
        rintro rfl
        have := HK.out
        rw [hk] at this
        cases this
      rw [World.putObj_heap_other hne]
      exact hk
    refine ⟨by simp, .inl ⟨_, _, rfl, run_takeDeferred HK.out, ?_⟩⟩
    refine ⟨.pointer (some ⟨w.heap.size + 1 + 1, 0, none⟩), by simp [results, Try.results11, go_sem], _, v, pgl, rfl, by omega, HBw.out.trans (belowK_b (w := w) (Nat.le_refl _) _ D _ _ ?_ HK.out rfl rfl), hfar _ _ _ _ HNN.out.chip, ?_, ?_, fun i hi => ⟨?_, hfar _ _ _ _ (HNN.out.pgs i hi).2⟩, HNN.out.nodup⟩
    · have := HD0.out
      have := HZ4.out
      have := HZ5.out
      omega
    · have hr := HNN.out.row
      have hys := HYS.out
      have hlen : ys.length = n := by rw [hys, turnList_length]; omega
      rw [hlen, hys] at hr
      exact own_less (ownsRow_putObj (W := W) hr _ HK.out rfl) (by have := HZ4.out; have := HZ5.out; omega)
    · rw [HNN.out.len, HYS.out, turnList_length]
      omega
    · have := (HNN.out.pgs i hi).1
      have := HZ4.out
      have := HZ5.out
      omega
  case stop =>
    rintro D c pre W hD hp h hK
    exact h.elim
theorem turn0 (n i : Nat) (hi : i < (turnList (n : Int) 0).length) : (turnList (n : Int) 0)[i] = (i : Int) := by
  have hl : i < n := by rw [turnList_length] at hi; omega
  have h1 : turnList (n : Int) 0 = upList 0 n := by
    unfold turnList turnAt
    rw [if_neg (by omega)]
    simp [upList]
  have h2 : (turnList (n : Int) 0)[i]? = some (0 + (i : Int)) := by rw [h1]; exact upList_get 0 n i hl
  rw [List.getElem?_eq_getElem hi] at h2
  have := Option.some.inj h2
  omega
def newS (n p : Nat) (bad : List Int) : Chp := ⟨(List.range n).map (fun i : Nat => ⟨bad.contains (i : Int), 0, 0, List.replicate p []⟩), p, 0, 0, 0, -1, -1, -1, 0, false⟩
theorem newS_get (n p : Nat) (bad : List Int) (i : Nat) (B : Blk) (h : (newS n p bad).blocks[i]? = some B) : i < n ∧ B = ⟨bad.contains (i : Int), 0, 0, List.replicate p []⟩ := by
  simp only [newS, List.getElem?_map] at h
  obtain ⟨a, h1, rfl⟩ := Option.map_eq_some_iff.1 h
  have hi : i < n := by
    rcases Nat.lt_or_ge i n with hi | hi
    · exact hi
    · rw [List.getElem?_eq_none (by simpa using hi)] at h1
      cases h1
  rw [List.getElem?_range hi] at h1
  cases h1
  exact ⟨hi, rfl⟩
set_option maxHeartbeats 1000000 in
/-- New. -/
theorem new (w : World) (n p : Nat) (A : Option Addr) (c : Nat) (bad : List Int) (hC : Kd.C (Kd.int .i64) w A bad.length bad) (hc : bad.length ≤ c) (hl : bad.length ≤ 100000) (hn1 : 1 ≤ n) (hn2 : n ≤ 64) (hp1 : 1 ≤ p) (hp2 : p ≤ 32) :
    Calls Try.prog 11 #[.int .i64 (n : Int), .int .i64 (p : Int), .slice A bad.length c] w fun e w' => ∃ g, e = .returned (.pointer (some ⟨g, 0, none⟩)) ∧ IsChip w' w.heap.size (fun k => w.heap.size ≤ k) g (newS n p bad) ∧ Below w.heap.size w w' := by
  refine (callsIn_wide.1 (newIn w n p A c bad hC hc hl hn1 hn2 hp1 hp2)).mono ?_
  rintro ev w' ⟨g, v, pgl, rfl, hg, hb, hch, hrow, hpl, hpg, hnd⟩
  refine ⟨g, rfl, ?_, hb⟩
  obtain ⟨hlen, ⟨-, h0⟩ | ⟨h, cap, cur, rfl, hbh, hh, hnc, -, hsz, hx⟩⟩ := hrow
  · omega
  have hbl : (newS n p bad).blocks.length = n := by simp [newS]
  have hcell : ∀ i, i < n → ∀ j, j < 4 → ∀ (hi : i < pgl.length), cur[i * 4 + j]? = (rowN bad p (i : Int) pgl[i])[j]? := fun i hi j hj hi' => by
    have hti : i < (turnList (n : Int) 0).length := by rw [turnList_length]; omega
    have h1 := rowsN_get bad p (turnList (n : Int) 0) pgl i hi' hti j hj
    rw [turn0 n i hti, ← hx, List.getElem?_take, if_pos (by omega)] at h1
    rw [← h1]
    simp
  refine ⟨h, cap, cur, fun i => pgl.getD i 0, ?_⟩
  exact {
    okb := fun k hk => hk
    okg := hg
    okh := hbh
    okp := fun i hi => by
      rw [hbl, ← hpl] at hi
      show w.heap.size ≤ pgl.getD i 0
      rw [List.getD_eq_getElem?_getD, List.getElem?_eq_getElem hi]
      exact (hpg i hi).1
    hg := by rw [hch]; simp [Chp.cells, newCells, hbl]; simp [newS]
    hh := hh
    le := by rw [hbl]; exact hnc
    row := fun i B hB => by
      obtain ⟨hi, rfl⟩ := newS_get _ _ _ _ _ hB
      have hi' : i < pgl.length := by omega
      have e : pgl.getD i 0 = pgl[i] := by rw [List.getD_eq_getElem?_getD, List.getElem?_eq_getElem hi']; rfl
      refine ⟨?_, ?_, ?_, ?_⟩
      · have := hcell i hi 0 (by decide) hi'
        rw [Nat.add_zero] at this
        rw [this]
        rfl
      · rw [hcell i hi 1 (by decide) hi']
        rfl
      · rw [hcell i hi 2 (by decide) hi']
        rfl
      · rw [hcell i hi 3 (by decide) hi', e]
        simp [rowN]
    pgs := fun i B hB => by
      obtain ⟨hi, rfl⟩ := newS_get _ _ _ _ _ hB
      have hi' : i < pgl.length := by omega
      have e : pgl.getD i 0 = pgl[i] := by rw [List.getD_eq_getElem?_getD, List.getElem?_eq_getElem hi']; rfl
      refine ⟨madeCells #[.slice none 0 0] p, by rw [e]; exact (hpg i hi').2, fun j xs hj => ⟨.slice none 0 0, ?_, ?_⟩⟩
      · rw [List.getElem?_replicate] at hj
        split at hj
        · rename_i hjp
          have hm : (madeCells #[(.slice none 0 0 : Value)] p).toList[j]? = some (.slice none 0 0) := by rw [toList_madeCells_one, List.getElem?_replicate, if_pos hjp]
          simpa using hm
        · cases hj
      · rw [List.getElem?_replicate] at hj
        split at hj
        · cases hj
          exact Kd.R_nil _ _ _ _ _
        · cases hj
    inj := fun i j hi hj he => by
      rw [hbl, ← hpl] at hi hj
      simp only [List.getD_eq_getElem?_getD, List.getElem?_eq_getElem hi, List.getElem?_eq_getElem hj, Option.getD_some] at he
      rcases Nat.lt_trichotomy i j with hij | hij | hij
      · exact absurd he (List.pairwise_iff_getElem.1 hnd i j hi hj hij)
      · exact hij
      · exact absurd he.symm (List.pairwise_iff_getElem.1 hnd j i hj hi hij)
    inv := by
      refine ⟨?_, ?_, by rw [hbl]; exact hn2, ?_, ?_, ?_, ?_, ?_, ?_, ?_, ?_, fun B hB => ?_⟩
      all_goals first | (simp only [newS]; omega) | skip
      obtain ⟨i, hi⟩ := List.getElem?_of_mem hB
      obtain ⟨-, rfl⟩ := newS_get _ _ _ _ _ hi
      simp [newS] }
end Go.Proofs.Ytkncmbbkehnagaa.Cm

set_option linter.unusedVariables false
set_option linter.unusedSimpArgs false
/-! The chip and what lies beside it, call by call. -/
namespace Go.Proofs.Ytkncmbbkehnagaa.Cm
open Go.RowKit Go.Proofs.YtkncmbbkehnagaaW.PrintWords Go.Proofs.YtkncmbbkehnagaaW.PrintLast Go.Proofs.YtkncmbbkehnagaaW.PrintMore Go.Proofs.Ytkncmbbkehnagaa.Kp Go.Proofs.Ytkncmbbkehnagaa.Cp

/-- A chip lies in the blocks S, all of which are there. -/
structure Hd (W : World) (base : Nat) (S : Nat → Prop) (g : Nat) (s : Chp) : Prop where
  chip : IsChip W base S g s
  lt : ∀ k, S k → k < W.heap.size
/-- From W to W': what was not the chip's lies where it lay, and is not the chip's. -/
structure Nx (base : Nat) (W : World) (S : Nat → Prop) (W' : World) (S' : Nat → Prop) : Prop where
  bel : Below base W W'
  keep : ∀ k, k < W.heap.size → ¬ S k → ¬ S' k ∧ W'.heap[k]? = W.heap[k]?
section
variable {W W1 W2 : World} {base : Nat} {S S1 S2 : Nat → Prop} {g : Nat} {s s' : Chp}
theorem Nx.refl : Nx base W S W S := ⟨Below.refl _ _, fun _ _ h => ⟨h, rfl⟩⟩
theorem Nx.trans (h : Nx base W S W1 S1) (k : Nx base W1 S1 W2 S2) : Nx base W S W2 S2 := ⟨h.bel.trans k.bel, fun i hi hn => by
  obtain ⟨h1, h2⟩ := h.keep i hi hn
  obtain ⟨h3, h4⟩ := k.keep i (Nat.lt_of_lt_of_le hi h.bel.size) h1
  exact ⟨h3, h4.trans h2⟩⟩
theorem Nx.of_below (hb : Below W.heap.size W W1) (hbs : base ≤ W.heap.size) : Nx base W S W1 S := ⟨hb.mono hbs, fun i hi hn => ⟨hn, hb.block i hi⟩⟩
theorem Hd.below (h : Hd W base S g s) (hb : Below W.heap.size W W1) : Hd W1 base S g s := ⟨h.chip.below hb, fun k hk => Nat.lt_of_lt_of_le (h.lt k hk) hb.size⟩
theorem Hd.base_le (h : Hd W base S g s) : base ≤ W.heap.size := by
  obtain ⟨_, _, _, _, r⟩ := h.chip
  exact Nat.le_of_lt (Nat.lt_of_le_of_lt (r.okb g r.okg) (blk_lt r.hg))
theorem Nx.blk (h : Nx base W S W1 S1) {k : Nat} {o : Obj} (hk : W.heap[k]? = some o) (hn : ¬ S k) : W1.heap[k]? = some o := ((h.keep k (blk_lt hk) hn).2).trans hk
theorem Nx.not (h : Nx base W S W1 S1) {k : Nat} (hk : k < W.heap.size) (hn : ¬ S k) : ¬ S1 k := (h.keep k hk hn).1
theorem Nx.R {α : Type} {d : Kd α} {e b2 : Nat} {ok : Nat → Prop} {v : Value} {xs : List α} (h : Nx base W S W1 S1) (hR : d.R e W b2 ok v xs) (hn : ∀ k, ok k → ¬ S k) : d.R e W1 b2 ok v xs := Kd.R_step hR (fun k ho hk => (h.keep k hk (hn k ho)).2)
theorem now_hd {ok : Nat → Prop} (hb0 : base ≤ W.heap.size) (hok : ∀ k, ok k → S k ∨ W.heap.size ≤ k) (hS : ∀ k, S k → base ≤ k) (h : Now W base ok g s W1) : Hd W1 base (fun k => ok k ∧ k < W1.heap.size) g s ∧ Nx base W S W1 (fun k => ok k ∧ k < W1.heap.size) := by
  obtain ⟨h1, h2⟩ := h
  refine ⟨⟨h1.tight, fun k hk => hk.2⟩, ⟨⟨h2.bel.os, h2.bel.tape, h2.bel.output, h2.bel.size, fun k hk => h2.block k (Nat.lt_of_lt_of_le hk hb0) (fun ho => ?_)⟩, fun k hk hn => ⟨fun ho => ?_, h2.block k hk (fun ho => ?_)⟩⟩⟩
  · rcases hok k ho with h3 | h3
    · have := hS k h3; omega
    · omega
  · rcases hok k ho.1 with h3 | h3
    · exact hn h3
    · omega
  · rcases hok k ho with h3 | h3
    · exact hn h3
    · omega
theorem Hd.wide (h : Hd W base S g s) : IsChip W base (fun k => S k ∨ W.heap.size ≤ k) g s := h.chip.mono (fun k hk => .inl hk) (fun k hk => by
  rcases hk with hk | hk
  · exact h.chip.okb k hk
  · exact Nat.le_trans h.base_le hk)
/-- What a call that changes the chip tells. -/
def Ch (W : World) (base : Nat) (S : Nat → Prop) (g : Nat) (s' : Chp) (W' : World) : Prop := ∃ S', Hd W' base S' g s' ∧ Nx base W S W' S'
theorem now_ch (h : Hd W base S g s) (hn : Now W base (fun k => S k ∨ W.heap.size ≤ k) g s' W1) : Ch W base S g s' W1 := by
  obtain ⟨h1, h2⟩ := now_hd h.base_le (fun k hk => hk) h.chip.okb hn
  exact ⟨_, h1, h2⟩
theorem now_hdS (h : Hd W base S g s) (hn : Now W base S g s' W1) : Hd W1 base S g s' ∧ Nx base W S W1 S := by
  obtain ⟨h1, h2⟩ := hn
  have hb0 := h.base_le
  exact ⟨⟨h1, fun k hk => Nat.lt_of_lt_of_le (h.lt k hk) h2.bel.size⟩, ⟨⟨h2.bel.os, h2.bel.tape, h2.bel.output, h2.bel.size, fun k hk => h2.block k (Nat.lt_of_lt_of_le hk hb0) (fun ho => by have := h.chip.okb k ho; omega)⟩, fun k hk hn => ⟨hn, h2.block k hk hn⟩⟩⟩
theorem programH (h : Hd W base S g s) (b p : Int) (A : Option Addr) (c : Nat) (xs : List Int) (hC : Kd.C (Kd.int .u8) W A xs.length xs) (hc : xs.length ≤ c) (h2 : ∀ ad, A = some ad → ad.block < W.heap.size ∧ ¬ S ad.block) :
    Calls Try.prog 13 #[.pointer (some ⟨g, 0, none⟩), .agg #[.int .i64 b, .int .i64 p], .slice A xs.length c] W fun e W' => e = .returned (.int .i64 (progS s b p xs).2) ∧ Ch W base S g (progS s b p xs).1 W' := by
  refine (program h.wide b p A c xs hC hc (fun ad hA => ?_) (fun k hk => .inr hk)).mono ?_
  · obtain ⟨h3, h4⟩ := h2 ad hA
    rintro (h5 | h5)
    · exact h4 h5
    · omega
  · rintro e W' ⟨rfl, hn⟩
    exact ⟨rfl, now_ch h hn⟩
theorem readH (h : Hd W base S g s) (b p : Int) (hx : (readX s b p).length ≤ 100000) :
    Calls Try.prog 54 #[.pointer (some ⟨g, 0, none⟩), .agg #[.int .i64 b, .int .i64 p]] W fun e W' => ∃ v : Value, e = .returned (.tuple #[v, .int .i64 (readE s b p)]) ∧ Kd.R (Kd.int .u8) 5 W' W.heap.size (fun _ => True) v (readX s b p) ∧ Hd W' base S g (readS s b p) ∧ Nx base W S W' S := by
  refine (read h.chip b p hx).mono ?_
  rintro e W' ⟨v, rfl, hR, hn⟩
  exact ⟨v, rfl, hR, now_hdS h hn⟩
theorem blockH (h : Hd W base S g s) (b : Int) (hx : ∀ xs ∈ (blockB s b).pages, xs.length ≤ 100000) :
    Calls Try.prog 52 #[.pointer (some ⟨g, 0, none⟩), .int .i64 b] W fun e W' => ∃ v, e = .returned v ∧ BlkV W' W.heap.size v (blockB s b) ∧ Hd W' base S g s ∧ Below W.heap.size W W' := by
  refine (block h.chip b hx).mono ?_
  rintro e W' ⟨v, rfl, hv, hb⟩
  exact ⟨v, rfl, hv, h.below hb, hb⟩
theorem newH (w : World) (n p : Nat) (A : Option Addr) (c : Nat) (bad : List Int) (hC : Kd.C (Kd.int .i64) w A bad.length bad) (hc : bad.length ≤ c) (hl : bad.length ≤ 100000) (hn1 : 1 ≤ n) (hn2 : n ≤ 64) (hp1 : 1 ≤ p) (hp2 : p ≤ 32) :
    Calls Try.prog 11 #[.int .i64 (n : Int), .int .i64 (p : Int), .slice A bad.length c] w fun e w' => ∃ g, e = .returned (.pointer (some ⟨g, 0, none⟩)) ∧ Hd w' w.heap.size (fun k => w.heap.size ≤ k ∧ k < w'.heap.size) g (newS n p bad) ∧ Below w.heap.size w w' := by
  refine (new w n p A c bad hC hc hl hn1 hn2 hp1 hp2).mono ?_
  rintro e w' ⟨g, rfl, h1, h2⟩
  exact ⟨g, rfl, ⟨h1.tight, fun k hk => hk.2⟩, h2⟩
/-- A row of bytes as it lies. -/
theorem C_lit {b : Nat} {cs : Array Value} {fr : Nat × Nat} {xs : List Int} (h : W.heap[b]? = some (.cells cs 5 fr)) (hc : cs.toList = xs.map (Value.int .u8)) (hl : xs.length ≤ 1000000) : Kd.C (Kd.int .u8) W (some ⟨b, 0, none⟩) xs.length xs := by
  refine Kd.C_of_reads (d := (0 : Int)) ⟨rfl, by omega, fun _ => ⟨_, rfl, fun j hj => ?_⟩⟩
  have : W.cell? (Addr.add ⟨b, 0, none⟩ j) = cs[j]? := by
    rw [add_plain]
    exact cell_of_row W b j cs 5 fr h
  rw [this, ← Array.getElem?_toList, hc, List.getElem?_map, List.getElem?_eq_getElem hj, List.getD_eq_getElem?_getD, List.getElem?_eq_getElem hj]
  rfl
end
end Go.Proofs.Ytkncmbbkehnagaa.Cm

set_option linter.unusedVariables false
set_option linter.unusedSimpArgs false
/-! The chip's awake. -/
namespace Go.Proofs.Ytkncmbbkehnagaa.Cm
open Go.RowKit Go.Proofs.YtkncmbbkehnagaaW.PrintWords Go.Proofs.YtkncmbbkehnagaaW.PrintLast Go.Proofs.YtkncmbbkehnagaaW.PrintMore Go.Proofs.Ytkncmbbkehnagaa.Kp Go.Proofs.Ytkncmbbkehnagaa.Cp
attribute [local go_sem] max2_int min2_int max_two min_two max_three min_three max_four min_four

theorem Nx.both {W W1 : World} {base : Nat} {S S1 : Nat → Prop} (h : Nx base W S W1 S1) {k : Nat} {o : Obj} (hk : W.heap[k]? = some o) (hn : ¬ S k) : W1.heap[k]? = some o ∧ ¬ S1 k := ⟨h.blk hk hn, h.not (blk_lt hk) hn⟩
theorem Hd.keep {W W1 : World} {base : Nat} {S : Nat → Prop} {g : Nat} {s : Chp} (h : Hd W base S g s) (hs : W1.heap.size = W.heap.size) (hk : ∀ k, S k → W1.heap[k]? = W.heap[k]?) : Hd W1 base S g s :=
  ⟨h.chip.keep (by omega) (fun k hS _ => hk k hS), fun k hS => by rw [hs]; exact h.lt k hS⟩
theorem conv22 {W : World} {A : Option Addr} {n c : Nat} {xs : List Int} {s : ByteArray} (h : Kd.C (Kd.int .u8) W A n xs) (hs : strOfNums xs = s) : (convert 26 9 (.slice A n c)).run Try.prog W = .ok (.string s) W := by
  rw [← hs]
  exact Kd.C_string Try.underlying26 Try.underlying5 Try.underlying9 h
set_option maxRecDepth 100000 in
theorem field1 (a : Bool) (b c : Int) (A : Option Addr) (n m : Nat) (W : World) : (Instr.field 79 (.agg #[.bool a, .int .i64 b, .int .i64 c, .slice A n m]) 1).run Try.prog W = .ok (.int .i64 b) W := by rfl
end Go.Proofs.Ytkncmbbkehnagaa.Cm

set_option linter.unusedVariables false
set_option linter.unusedSimpArgs false
/-! Small things that ChipPlays shares with the other laws. -/
namespace Go.Proofs.Ytkncmbbkehnagaa.Cm
open Go.RowKit Go.Proofs.YtkncmbbkehnagaaW.PrintWords Go.Proofs.YtkncmbbkehnagaaW.PrintLast Go.Proofs.YtkncmbbkehnagaaW.PrintMore Go.Proofs.Ytkncmbbkehnagaa.Kp Go.Proofs.Ytkncmbbkehnagaa.Cp
attribute [local go_sem] max2_int min2_int max_two min_two max_three min_three max_four min_four

theorem smallW (a : Int) (B : Int) (hB : 0 < B) (hB2 : B ≤ 2000000000000) : ∃ n : Nat, wrap64 (Int.tmod (IntKind.u64.wrap a) B) = (n : Int) ∧ (n : Int) < B := by
  have h0 : 0 ≤ IntKind.u64.wrap a := by
    rw [IntKind.wrap_u64]
    exact Int.emod_nonneg _ (by decide)
  have t0 : 0 ≤ Int.tmod (IntKind.u64.wrap a) B := Int.tmod_nonneg _ h0
  have t1 : Int.tmod (IntKind.u64.wrap a) B < B := Int.tmod_lt_of_pos _ hB
  exact ⟨(Int.tmod (IntKind.u64.wrap a) B).toNat, by unfold wrap64; omega, by omega⟩
theorem wrap_small (x : Int) (h0 : 0 ≤ x) (h1 : x < 1000000) : wrap64 x = x := by unfold wrap64; omega
end Go.Proofs.Ytkncmbbkehnagaa.Cm

