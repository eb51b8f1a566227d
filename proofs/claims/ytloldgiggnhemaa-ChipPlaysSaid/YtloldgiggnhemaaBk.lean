import Derived.Test.YtloldgiggnhemaaEr
set_option linter.unusedVariables false
set_option linter.unusedSimpArgs false
/-! The chip's Block. -/
namespace Go.Proofs.Ytloldgiggnhemaa.Cm
open Go.RowKit Go.Proofs.YtloldgiggnhemaaW.PrintWords Go.Proofs.YtloldgiggnhemaaW.PrintLast Go.Proofs.YtloldgiggnhemaaW.PrintMore Go.Proofs.Ytloldgiggnhemaa.Kp Go.Proofs.Ytloldgiggnhemaa.Cp
attribute [local go_sem] max2_int min2_int max_two min_two max_three min_three max_four min_four

abbrev Sl := Option Addr × Nat × Nat
def encS (p : Sl) : Value := .slice p.1 p.2.1 p.2.2
def unS : Value → Sl
  | .slice a n c => (a, n, c)
  | _ => (none, 0, 0)
theorem R_emptyS (W : World) (base : Nat) (h : base ≤ W.heap.size) : (Kd.scalar encS (fun _ => rfl)).R 22 (W.alloc (.cells #[] 22)) base (fun _ => True) (.slice (some ⟨W.heap.size, 0, none⟩) 0 0) [] :=
  Kd.R_of_own (xs := []) ⟨by simp [encs], .inr ⟨W.heap.size, 0, #[], rfl, h, blk_new W _, Nat.le_refl _, Nat.zero_le _, by simp, by simp [encs]⟩⟩ (fun _ _ => trivial)
set_option maxHeartbeats 2000000 in
set_option maxRecDepth 100000 in
theorem cloneP (ad : Addr) (c : Nat) (l : List Sl) (w : World) (hr : Kd.C (Kd.scalar encS (fun _ => rfl)) w (some ad) l.length l) (hc : l.length ≤ c) (hl : l.length * 1 ≤ 1000000) :
    Calls Try.prog 49 #[.slice (some ad) l.length c] w fun e w' => ∃ v : Value, e = .returned v ∧ Kd.R (Kd.scalar encS (fun _ => rfl)) 22 w' w.heap.size (fun _ => True) v l ∧ Below w.heap.size w w' := by
  have hq := fun (W : World) => Lib.run_eql_slice_nil (P := Try.prog) W 34 22 (some ad) l.length c 0 0 Try.underlying34
  have HR := Aside0.mk hr
  have HL := Aside0.mk hl
  clear hr hc hl
  simp only [Option.isNone_some] at hq
  go_enter Try.func49, Try.ntmps49
  go_wp2_with ((with_reducible refine gate_dst (N := 7) rfl ?_); refine Kd.R_append_row (h1 := fun _ => rfl) encS ((none, 0, 0) : Sl) (w0 := w) w.heap.size rfl (.tmp 5) (.tmp 6) 34 22 (.slice none 0 0) 24 rfl Try.underlying34 infoY rfl (by decide) (.slice (some ⟨w.heap.size, 0, none⟩) 0 0) [] l (some ad) l.length c (fun _ => True) rfl rfl (fun _ _ => trivial) (R_emptyS w _ (Nat.le_refl _)) (Kd.C_alloc HR.out _) (below_alloc (Below.refl _ _) _) (by simp) (by have := HL.out; simp; omega) ?_; intro v1 w1 ho hb hg hat; have HO := Aside0.mk ho; have HB := Aside0.mk hb; clear ho hb hg hat)
  go_ret
  have h1 := HO.out
  simp only [List.nil_append] at h1
  exact ⟨_, rfl, h1, HB.out⟩
/-- The block that is made of another one's cells. -/
theorem ownS {W : World} {base : Nat} {v : Value} {l : List Sl} (h : Kd.R (Kd.scalar encS (fun _ => rfl)) 22 W base (fun _ => True) v l) (hl : 0 < l.length) :
    ∃ q cap qs, v = .slice (some ⟨q, 0, none⟩) l.length cap ∧ base ≤ q ∧ l.length ≤ cap ∧ W.heap[q]? = some (.cells qs 22 (0, 0)) ∧ ∀ j (hj : j < l.length), qs[j]? = some (encS l[j]) := by
  have ho := Kd.own_of_R h
  obtain ⟨-, ⟨-, h0⟩ | ⟨q, cap, qs, hv, hb, hh, hn, -, hs, hx⟩⟩ := ho
  · omega
  · refine ⟨q, cap, qs, hv, hb, hn, hh, fun j hj => ?_⟩
    have : (encs encS l)[j]? = some (encS l[j]) := by simp [encs, List.getElem?_eq_getElem hj]
    rw [← hx, List.getElem?_take, if_pos (by omega)] at this
    simpa using this
/-- The pages of a block that Block made. -/
def Pgs (W : World) (base : Nat) (pv : Value) (l : List (List Int)) : Prop :=
  ∃ A c, pv = .slice A l.length c ∧ l.length ≤ c ∧ ∀ j xs, l[j]? = some xs → ∃ ad v, A = some ad ∧ base ≤ ad.block ∧ W.cell? (ad.add j) = some v ∧ Kd.R (Kd.int .u8) 5 W base (fun _ => True) v xs
theorem Pgs.below {W W1 : World} {base : Nat} {pv : Value} {l : List (List Int)} (h : Pgs W base pv l) (hb : Below W.heap.size W W1) : Pgs W1 base pv l := by
  obtain ⟨A, c, h1, h2, h3⟩ := h
  refine ⟨A, c, h1, h2, fun j xs hj => ?_⟩
  obtain ⟨ad, v, q1, q2, q3, q4⟩ := h3 j xs hj
  exact ⟨ad, v, q1, q2, pw_cell_below hb q3, Kd.R_step q4 (fun k _ hk => hb.block k hk)⟩
theorem Pgs.nil (W : World) (base : Nat) : Pgs W base (.slice none 0 0) [] := ⟨none, 0, rfl, Nat.le_refl _, fun j xs h => by simp at h⟩
def noB : Blk := ⟨false, 0, 0, []⟩
/-- What Block shows. -/
def blockB (s : Chp) (b : Int) : Blk := if hasB s b = true then (s.blocks[b.toNat]?).getD noB else noB
def BlkV (W : World) (base : Nat) (v : Value) (B : Blk) : Prop := ∃ pv, v = .agg #[.bool B.bad, .int .i64 B.next, .int .i64 B.count, pv] ∧ Pgs W base pv B.pages
def reg_block_8.T : Bool × List (List Nat × List Nat) := (true, [([], []), ([0], [0]), ([], []), ([], []), ([3], [3]), ([1, 2, 0, 1, 2, 3, 4], [1, 2]), ([5, 4, 4, 0, 1, 2, 3, 4], [4, 5])])
def reg_block_8.B : List Nat := [0, 1, 0, 0, 8, 31, 63]
theorem reg_block_8.tab : rtab .any (opsOf Try.f16 8) = reg_block_8.T := by kernel_rfl
theorem reg_block_8.bits : waitsOk reg_block_8.T.2 reg_block_8.B = true := by kernel_rfl
set_option maxHeartbeats 4000000 in
set_option maxRecDepth 100000 in
theorem blockN {w : World} {base : Nat} {ok : Nat → Prop} {g : Nat} {s : Chp} (hI : IsChip w base ok g s) (b : Int) (hs : hasB s b = false) :
    Calls Try.prog 16 #[.pointer (some ⟨g, 0, none⟩), .int .i64 b] w fun e w' => ∃ v, e = .returned v ∧ BlkV w' w.heap.size v noB ∧ Below w.heap.size w w' := by
  have HB0 := below_alloc (Below.refl _ w) (.cells #[.bool false, .int .i64 0, .int .i64 0, .slice none 0 0] 36)
  have HI := Aside0.mk (hI.below HB0)
  have HS := Aside0.mk hs
  clear HB0 hI hs
  go_enter Try.func16, Try.ntmps16
  go_wp2_with fail
  have hcc := has HI.out b
  rw [HS.out] at hcc
  refine hcc.mono ?_
  clear hcc
  rintro ev w2 ⟨rfl, hw2⟩
  rw [hw2]
  clear hw2 w2
  go_wp2_with fail
  exact bodyPost_ret (results_single rfl (.cell w.heap.size 36 #[.bool false, .int .i64 0, .int .i64 0, .slice none 0 0] (0, 0) _ rfl (by simpa using heap_alloc_new w _) Try.underlying36 rfl (by kernel_rfl) .nil)) rfl ⟨_, rfl, ⟨_, rfl, Pgs.nil _ _⟩, below_alloc (Below.refl _ _) _⟩
/-- The cells of a block's pages, as slices. -/
theorem sls {W : World} {base : Nat} {ok : Nat → Prop} {g h cap : Nat} {cs : Array Value} {pg : Nat → Nat} {s : Chp} (r : Rep W base ok g h cap cs pg s) {i : Nat} {B : Blk} (hB : s.blocks[i]? = some B) :
    ∃ l : List Sl, l.length = B.pages.length ∧ Kd.C (Kd.scalar encS (fun _ => rfl)) W (some ⟨pg i, 0, none⟩) l.length l ∧ ∀ j (hj : j < l.length) xs, B.pages[j]? = some xs → l[j].2.1 = xs.length ∧ xs.length ≤ l[j].2.2 ∧ Kd.C (Kd.int .u8) W l[j].1 xs.length xs := by
  obtain ⟨ps, h1, h2⟩ := r.pgs i B hB
  have hi := r.inv
  have hlen := hi.len B (List.mem_of_getElem? hB)
  have hp : ∀ j (hj : j < B.pages.length), ∃ A c, ps[j]? = some (.slice A (B.pages[j]).length c) ∧ (B.pages[j]).length ≤ c ∧ Kd.C (Kd.int .u8) W A (B.pages[j]).length (B.pages[j]) := fun j hj => by
    obtain ⟨v, h3, h4⟩ := h2 j _ (List.getElem?_eq_getElem hj)
    obtain ⟨A, c, rfl, h5, h6⟩ := Kd.R_reads h4
    exact ⟨A, c, h3, h5, h6⟩
  refine ⟨(List.range B.pages.length).map (fun j => unS (ps[j]?.getD (.slice none 0 0))), by simp, Kd.C_of_reads (d := ((none, 0, 0) : Sl)) ⟨rfl, by simp; have := hi.p2; omega, fun _ => ⟨_, rfl, fun j hj => ?_⟩⟩, fun j hj xs hx => ?_⟩
  · simp only [List.length_map, List.length_range] at hj
    obtain ⟨A, c, h3, -, -⟩ := hp j hj
    rw [show (Addr.add ⟨pg i, 0, none⟩ j) = ⟨pg i, j, none⟩ by rw [add_plain], blk_cell h1, h3]
    simp [List.getD_eq_getElem?_getD, hj, h3, unS, encS]
  · simp only [List.length_map, List.length_range] at hj
    obtain ⟨A, c, h3, h5, h6⟩ := hp j hj
    rw [List.getElem?_eq_getElem hj] at hx
    obtain rfl := Option.some.inj hx
    simp only [List.getElem_map, List.getElem_range, h3, Option.getD_some, unS]
    exact ⟨trivial, h5, h6⟩
/-- The clone's round. -/
structure Bi (w W : World) (b1 b2 q cap3 : Nat) (B : Blk) (l : List Sl) (k : Nat) : Prop where
  below : Below w.heap.size w W
  x1 : W.heap[b1]? = some (.cells #[.bool false, .int .i64 0, .int .i64 0, .slice none 0 0] 36 (0, 0))
  x2 : W.heap[b2]? = some (.cells #[.bool B.bad, .int .i64 B.next, .int .i64 B.count, .slice (some ⟨q, 0, none⟩) B.pages.length cap3] 36 (0, 0))
  qs : ∃ qs : Array Value, W.heap[q]? = some (.cells qs 22 (0, 0)) ∧ (∀ j xs, B.pages[j]? = some xs → j < k → ∃ v, qs[j]? = some v ∧ Kd.R (Kd.int .u8) 5 W w.heap.size (fun _ => True) v xs) ∧ ∀ j (hj : j < l.length), k ≤ j → qs[j]? = some (encS l[j])
theorem Bi.step {w W W1 : World} {b1 b2 q cap3 : Nat} {B : Blk} {l : List Sl} {k : Nat} {xs : List Int} {v : Value} (r : Bi w W b1 b2 q cap3 B l k) (hb : Below W.heap.size W W1) (hx : B.pages[k]? = some xs) (hll : l.length = B.pages.length) (hq : w.heap.size ≤ q)
    (hv : Kd.R (Kd.int .u8) 5 W1 W.heap.size (fun _ => True) v xs) : Bi w (W1.setCell ⟨q, k, none⟩ v) b1 b2 q cap3 B l (k + 1) := by
  obtain ⟨qs, h1, h2, h3⟩ := r.qs
  have hq1 := (hb.block q (blk_lt h1)).trans h1
  have x1' := (hb.block b1 (blk_lt r.x1)).trans r.x1
  have x2' := (hb.block b2 (blk_lt r.x2)).trans r.x2
  have hk : k < l.length := by rw [hll]; exact (List.getElem?_eq_some_iff.1 hx).1
  refine ⟨(below_step r.below hb).setCell (p := ⟨q, k, none⟩) hq v, blk_far x1' (p := ⟨q, k, none⟩) (type_ne x1' hq1 (by decide)) _, blk_far x2' (p := ⟨q, k, none⟩) (type_ne x2' hq1 (by decide)) _, qs.setIfInBounds k v, blk_set hq1 k v, fun j ys hj hjk => ?_, fun j hj hjk => ?_⟩
  · by_cases e : k = j
    · subst e
      rw [hx] at hj
      cases hj
      refine ⟨v, ?_, Kd.R_set (Kd.R_lower hv (below_size r.below)) hq1 (u8_ne _ (by decide)) _ v⟩
      have := h3 k hk (Nat.le_refl _)
      rw [Array.getElem?_setIfInBounds, if_pos rfl, if_pos (Array.getElem?_eq_some_iff.1 this).1]
    · obtain ⟨u, q1, q2⟩ := h2 j ys hj (by omega)
      exact ⟨u, by rw [Array.getElem?_setIfInBounds, if_neg e]; exact q1, Kd.R_set (Kd.R_step q2 (fun i _ hi => hb.block i hi)) hq1 (u8_ne _ (by decide)) _ v⟩
  · rw [Array.getElem?_setIfInBounds, if_neg (by omega)]
    exact h3 j hj (by omega)
set_option maxHeartbeats 4000000 in
set_option maxRecDepth 100000 in
theorem blockY {w : World} {base : Nat} {ok : Nat → Prop} {g : Nat} {s : Chp} (hI : IsChip w base ok g s) (i : Nat) (B : Blk) (hs : hasB s (i : Int) = true) (hB : s.blocks[i]? = some B) (hi : i < s.blocks.length) (hx : ∀ xs ∈ B.pages, xs.length ≤ 100000) :
    Calls Try.prog 16 #[.pointer (some ⟨g, 0, none⟩), .int .i64 (i : Int)] w fun e w' => ∃ v, e = .returned v ∧ BlkV w' w.heap.size v B ∧ Below w.heap.size w w' := by
  obtain ⟨w1, hw1⟩ : ∃ w1, w.alloc (.cells #[.bool false, .int .i64 0, .int .i64 0, .slice none 0 0] 36) = w1 := ⟨_, rfl⟩
  obtain ⟨b1, hb1⟩ : ∃ b, w.heap.size = b := ⟨_, rfl⟩
  have HB1 : Aside0 (Below w.heap.size w w1) := ⟨by rw [← hw1]; exact below_alloc (Below.refl _ w) _⟩
  have HX1 : Aside0 (w1.heap[b1]? = some (.cells #[.bool false, .int .i64 0, .int .i64 0, .slice none 0 0] 36 (0, 0))) := ⟨by rw [← hw1, ← hb1]; simpa using heap_alloc_new w _⟩
  have HI0 := Aside0.mk hI
  have HI := Aside0.mk (hI.below HB1.out)
  have HS := Aside0.mk hs
  have HBk := Aside0.mk hB
  have HXs := Aside0.mk hx
  have HLn : Aside0 ((B.pages.length : Int) = s.pages ∧ 1 ≤ s.pages ∧ s.pages ≤ 32) := ⟨hI.inv.len B (List.mem_of_getElem? hB), hI.inv.p1, hI.inv.p2⟩
  have hin : ((i : Nat) : Int) < (s.blocks.length : Int) := by omega
  have HW1 := Aside0.mk hw1
  have HB1E := Aside0.mk hb1
  have HB1L := Aside0.mk (blk_lt HX1.out)
  clear hI hs hB hi hx hw1 hb1
  obtain ⟨h, cap, cs, pg, r0⟩ := HI0.out
  have r := r0.below HB1.out
  obtain ⟨l, hll, hC0, hl⟩ := sls r0 HBk.out
  have HLL := Aside0.mk hll
  have HC0 := Aside0.mk hC0
  have HL := Aside0.mk hl
  clear hll hC0 hl r0
  obtain ⟨⟨c0, -⟩, -, -⟩ := ten r
  obtain ⟨d0, d1, d2, d3⟩ := rowCells r HBk.out
  have HR := Aside0.mk r
  clear r
  go_enter Try.func16, Try.ntmps16
  go_wp2_with fail
  rw [HW1.out, HB1E.out]
  have hcc := has HI.out (i : Int)
  rw [HS.out] at hcc
  refine hcc.mono ?_
  clear hcc
  rintro ev w2 ⟨rfl, hw2⟩
  rw [hw2]
  clear hw2 w2
  go_wp2_with fail
  obtain ⟨w2, hw2⟩ : ∃ w2, w1.alloc (.cells #[.bool B.bad, .int .i64 B.next, .int .i64 B.count, .slice (some ⟨pg i, 0, none⟩) B.pages.length B.pages.length] 36) = w2 := ⟨_, rfl⟩
  obtain ⟨b2, hb2⟩ : ∃ b, w1.heap.size = b := ⟨_, rfl⟩
  have hb12 : Below w1.heap.size w1 w2 := by rw [← hw2]; exact below_alloc (Below.refl _ _) _
  have HB2 := Aside0.mk (below_step HB1.out hb12)
  have HX1' := Aside0.mk ((hb12.block b1 (blk_lt HX1.out)).trans HX1.out)
  have HX2 : Aside0 (w2.heap[b2]? = some (.cells #[.bool B.bad, .int .i64 B.next, .int .i64 B.count, .slice (some ⟨pg i, 0, none⟩) B.pages.length B.pages.length] 36 (0, 0))) := ⟨by rw [← hw2, ← hb2]; simpa using heap_alloc_new w1 _⟩
  have HB2E : Aside0 (w.heap.size ≤ b2) := ⟨by rw [← hb2]; exact HB1.out.size⟩
  have HB1L := Aside0.mk (show b1 < b2 by have := HB1L.out; omega)
  rw [hw2, hb2]
  clear hw2 hb2 hb12 HX1 c0 d0 d1 d2 d3 HR HI
  have hcc := cloneP ⟨pg i, 0, none⟩ B.pages.length l w2 (Kd.C_below HC0.out HB2.out) (by have := HLL.out; omega) (by have := HLL.out; have := HLn.out; omega)
  rw [HLL.out] at hcc
  refine hcc.mono ?_
  clear hcc
  rintro ev w3 ⟨v3, rfl, hR3, hb3⟩
  obtain ⟨q, cap3, qs, rfl, hq, hqc, hqh, hqe⟩ := ownS hR3 (by have := HLL.out; have := HLn.out; omega)
  rw [HLL.out] at hqc ⊢
  have HB3 := Aside0.mk (below_step HB2.out hb3)
  have HX1 := Aside0.mk ((hb3.block b1 (blk_lt HX1'.out)).trans HX1'.out)
  have HX3 := Aside0.mk ((hb3.block b2 (blk_lt HX2.out)).trans HX2.out)
  have HQ := Aside0.mk (show w.heap.size ≤ q from Nat.le_trans HB2.out.size hq)
  have HQC := Aside0.mk hqc
  have HQH := Aside0.mk hqh
  have HQE := Aside0.mk hqe
  have f3 : w3.frozen? ⟨b2, 3, none⟩ = false := blk_frozen HX3.out 3
  have c3 : w3.cell? ⟨b2, 3, none⟩ = some (.slice (some ⟨pg i, 0, none⟩) B.pages.length B.pages.length) := (blk_cell HX3.out 3).trans rfl
  clear hR3 hb3 hq hqc hqh hqe HX1' HX2
  go_wp2_with fail
  have HBI : Aside0 (Bi w (w3.setCell ⟨b2, 3, none⟩ (.slice (some ⟨q, 0, none⟩) B.pages.length cap3)) b1 b2 q cap3 B l 0) := ⟨by
    have hne : b1 ≠ b2 := by have h1 := HB1E.out; have h2 := HB1L.out; omega
    have hqn : q ≠ b2 := type_ne HQH.out HX3.out (by decide)
    exact ⟨HB3.out.setCell (p := ⟨b2, 3, none⟩) HB2E.out _, blk_far HX1.out (p := ⟨b2, 3, none⟩) hne _, blk_put HX3.out 3 _ rfl, qs, blk_far HQH.out (p := ⟨b2, 3, none⟩) hqn _, fun j xs hj h => absurd h (Nat.not_lt_zero _), fun j hj _ => HQE.out j hj⟩⟩
  clear f3 c3
  go_loopw [27] (fun v27 wr => ∃ k : Nat, k ≤ B.pages.length ∧ v27 = .int .i64 (k : Int) ∧ Aside0 (Bi w wr b1 b2 q cap3 B l k)) (fun v27 _ => B.pages.length - (intOf v27).toNat)
  case atStart => exact ⟨0, Nat.zero_le _, rfl, HBI⟩
  case round =>
    clear HBI HB3 HX1 HX3 HQH HQE HB2
    obtain ⟨k, hk, rfl, HBI⟩ := hrel
    have hlim := HLn.out
    by_cases hlt : k < B.pages.length
    · have hlt2 : (k : Int) < (B.pages.length : Int) := by omega
      have hkl : k < l.length := by have := HLL.out; omega
      obtain ⟨xs, hxs⟩ : ∃ xs, B.pages[k]? = some xs := ⟨_, List.getElem?_eq_getElem hlt⟩
      obtain ⟨e1, e2, e3⟩ := HL.out k hkl xs hxs
      obtain ⟨qs', h1, -, h3⟩ := HBI.out.qs
      have cq : wr.cell? ⟨q, k, none⟩ = some (.slice l[k].1 xs.length l[k].2.2) := by
        rw [blk_cell h1, h3 k hkl (Nat.le_refl _), ← e1]
        rfl
      obtain ⟨A, hA⟩ : ∃ A, l[k].1 = A := ⟨_, rfl⟩
      obtain ⟨c, hc⟩ : ∃ c, l[k].2.2 = c := ⟨_, rfl⟩
      rw [hA, hc] at cq
      rw [hA] at e3
      rw [hc] at e2
      have hw2 : wrap64 ((k : Int) + 1) = ((k + 1 : Nat) : Int) := by unfold wrap64; omega
      have HXS := Aside0.mk hxs
      have HC3 := Aside0.mk (Kd.C_below e3 HBI.out.below)
      have HCc := Aside0.mk e2
      have HXL := Aside0.mk (HXs.out xs (List.mem_of_getElem? hxs))
      clear e1 e2 e3 h1 h3 hA hc hxs hlim
      go_upto_region 8 with fail
      clear cq
      refine start_ (n := 7) (S := fun w' => w'.cell? ⟨b2, 3, none⟩ = some (.slice (some ⟨q, 0, none⟩) B.pages.length cap3)) (ds := []) #[false, false, false, false, false, false, false] (by kernel_rfl) rfl rfl (pw_cell_below (below_drew (Below.refl _ _)) ((blk_cell HBI.out.x2 3).trans rfl)) (fun hHeld => ?_)
      refine with_tabW reg_block_8.tab reg_block_8.bits (fun HT_ HW_ => ?_)
      refine pure_ (i := 0) (N := (some 32)) (v := ?_) (a' := ?_) #[true, false, false, false, false, false, false] rfl rfl (any_of HT_.out (by kernel_rfl)) (fun _ _ _ h => h) (Or.inl ⟨by rfl, ?_⟩) ?_ ?_
      rotate_left
      · intro w'
        go_simp
        first | done | with_reducible rfl
      rotate_left
      · simp only [Act.put, List.setIfInBounds_toArray, List.set_cons_zero, List.set_cons_succ, i64_w, i32_w]
        rfl
      refine take_ (i := 1) (N := (some 33)) (v := ?_) (a' := ?_) #[true, true, false, false, false, false, false] rfl rfl (take_ofW HT_.out HW_.out (by kernel_rfl)) (fun _ _ _ h => h) (Or.inl ⟨by rfl, ?_⟩) hHeld ?_ ?_
      rotate_left
      · rintro w' s0
        go_simp
        first | done | with_reducible rfl
      rotate_left
      · simp only [Act.put, List.setIfInBounds_toArray, List.set_cons_zero, List.set_cons_succ, i64_w, i32_w]
        rfl
      refine pure_ (i := 2) (N := (some 34)) (v := ?_) (a' := ?_) #[true, true, true, false, false, false, false] rfl rfl (any_of HT_.out (by kernel_rfl)) (fun _ _ _ h => h) (Or.inl ⟨by rfl, ?_⟩) ?_ ?_
      rotate_left
      · intro w'
        go_simp
        first | done | with_reducible rfl
      rotate_left
      · simp only [Act.put, List.setIfInBounds_toArray, List.set_cons_zero, List.set_cons_succ, i64_w, i32_w]
        rfl
      refine pure_ (i := 3) (N := (some 35)) (v := ?_) (a' := ?_) #[true, true, true, true, false, false, false] rfl rfl (any_of HT_.out (by kernel_rfl)) (fun _ _ _ h => h) (Or.inl ⟨by rfl, ?_⟩) ?_ ?_
      rotate_left
      · intro w'
        go_simp
        first | done | with_reducible rfl
      rotate_left
      · simp only [Act.put, List.setIfInBounds_toArray, List.set_cons_zero, List.set_cons_succ, i64_w, i32_w]
        rfl
      refine one_ (i := 4) (N := (some 36)) #[true, true, true, true, true, false, false] rfl rfl (one_of HT_.out (by kernel_rfl)) (by decide) (fun K hK => ?_)
      refine goes_ Try.func47 (by kernel_rfl) rfl #[.slice A xs.length c] (by rfl) rfl rfl (by (try simp only [List.map_toArray, List.map_cons, List.map_nil]); first | done | rfl) ?_
      with_reducible refine (CloneByte.calls A c xs _ (Kd.C_drew HC3.out) HCc.out (by have := HXL.out; omega)).mono ?_
      rintro ev_ w4 ⟨v4, rfl, hR4, hb4⟩
      refine ⟨_, rfl, ?_⟩
      obtain ⟨A9, n9, c9_, rfl⟩ := R_shape hR4
      have HB4 := Aside0.mk (below_step (below_drew (Below.refl _ wr)) hb4)
      have HR4 := Aside0.mk hR4
      have HX4 := Aside0.mk ((HB4.out.block b2 (blk_lt HBI.out.x2)).trans HBI.out.x2)
      obtain ⟨qs4, hq4, -, hq5⟩ := HBI.out.qs
      have HQ4 := Aside0.mk ((HB4.out.block q (blk_lt hq4)).trans hq4)
      have HQ5 := Aside0.mk (hq5 k hkl (Nat.le_refl _))
      clear hR4 hb4 hq4 hq5
      refine hK.out _ _ ((blk_cell HX4.out 3).trans rfl) (fun hHeld => ?_)
      clear hK K
      refine norm_ (a' := ?_) ?_ ?_
      rotate_left
      · show Act.put _ (some 36) _ = _
        simp only [Act.put, List.setIfInBounds_toArray, List.set_cons_zero, List.set_cons_succ, i64_w, i32_w]
        rfl
      refine take_ (i := 5) (N := (some 37)) (v := ?_) (a' := ?_) #[true, true, true, true, true, true, false] rfl rfl (take_ofW HT_.out HW_.out (by kernel_rfl)) (fun _ _ _ h => h) (Or.inl ⟨by rfl, ?_⟩) hHeld ?_ ?_
      rotate_left
      · rintro w' s0
        go_simp
        first | done | with_reducible rfl
      rotate_left
      · simp only [Act.put, List.setIfInBounds_toArray, List.set_cons_zero, List.set_cons_succ, i64_w, i32_w]
        rfl
      refine one_ (i := 6) (N := none) #[true, true, true, true, true, true, true] rfl rfl (one_of HT_.out (by kernel_rfl)) (by decide) (fun K hK => ?_)
      have u9 := (blk_cell HQ4.out k).trans HQ5.out
      have fz9 : w4.frozen? ⟨q, k, none⟩ = false := blk_frozen HQ4.out k
      unfold encS at u9
      go_simp
      clear u9 fz9
      obtain ⟨w5, hw5⟩ : ∃ w5, w4.setCell ⟨q, k, none⟩ (.slice A9 n9 c9_) = w5 := ⟨_, rfl⟩
      rw [hw5]
      have HBI5 : Aside0 (Bi w w5 b1 b2 q cap3 B l (k + 1)) := ⟨by rw [← hw5]; exact HBI.out.step HB4.out HXS.out HLL.out HQ.out (Kd.R_lower HR4.out (Nat.le_refl _))⟩
      clear hw5
      refine hK.out _ _ ((blk_cell HBI5.out.x2 3).trans rfl) (fun hHeld => ?_)
      clear hK K
      refine done_ (done_of HT_.out (by kernel_rfl)) ?_
      go_wp2_with fail
      go_roundw
      case measure =>
        have hm : B.pages.length - ((k + 1 : Nat) : Int).toNat < B.pages.length - ((k : Nat) : Int).toNat := by
          rw [Int.toNat_natCast, Int.toNat_natCast]
          exact Nat.sub_lt_sub_left hlt (Nat.lt_succ_self k)
        rw [hw2]
        exact hm
      case rel => exact ⟨k + 1, hlt, by rw [hw2], HBI5⟩
    · have he : k = B.pages.length := by omega
      subst he
      have hn : ¬ (((B.pages.length : Nat) : Int) < (B.pages.length : Int)) := by omega
      have e1 : wr.cell? ⟨b1, 0, none⟩ = some (.bool false) := (blk_cell HBI.out.x1 0).trans rfl
      have e2 : wr.cell? ⟨b1, 1, none⟩ = some (.int .i64 0) := (blk_cell HBI.out.x1 1).trans rfl
      have e3 : wr.cell? ⟨b1, 2, none⟩ = some (.int .i64 0) := (blk_cell HBI.out.x1 2).trans rfl
      have e4 : wr.cell? ⟨b1, 3, none⟩ = some (.slice none 0 0) := (blk_cell HBI.out.x1 3).trans rfl
      have f1 : wr.frozen? ⟨b1, 0, none⟩ = false := blk_frozen HBI.out.x1 0
      have f2 : wr.frozen? ⟨b1, 1, none⟩ = false := blk_frozen HBI.out.x1 1
      have f3 : wr.frozen? ⟨b1, 2, none⟩ = false := blk_frozen HBI.out.x1 2
      have f4 : wr.frozen? ⟨b1, 3, none⟩ = false := blk_frozen HBI.out.x1 3
      have g1 : wr.cell? ⟨b2, 0, none⟩ = some (.bool B.bad) := (blk_cell HBI.out.x2 0).trans rfl
      have g2 : wr.cell? ⟨b2, 1, none⟩ = some (.int .i64 B.next) := (blk_cell HBI.out.x2 1).trans rfl
      have g3 : wr.cell? ⟨b2, 2, none⟩ = some (.int .i64 B.count) := (blk_cell HBI.out.x2 2).trans rfl
      have g4 : wr.cell? ⟨b2, 3, none⟩ = some (.slice (some ⟨q, 0, none⟩) B.pages.length cap3) := (blk_cell HBI.out.x2 3).trans rfl
      clear hlim
      go_wp2_with fail
      have hx1 : ((((wr.setCell ⟨b1, 0, none⟩ (.bool B.bad)).setCell ⟨b1, 1, none⟩ (.int .i64 B.next)).setCell ⟨b1, 2, none⟩ (.int .i64 B.count)).setCell ⟨b1, 3, none⟩ (.slice (some ⟨q, 0, none⟩) B.pages.length cap3)).heap[b1]? = some (.cells #[.bool B.bad, .int .i64 B.next, .int .i64 B.count, .slice (some ⟨q, 0, none⟩) B.pages.length cap3] 36 (0, 0)) :=
        blk_put (blk_put (blk_put (blk_put HBI.out.x1 0 _ rfl) 1 _ rfl) 2 _ rfl) 3 _ rfl
      refine bodyPost_ret (results_single rfl (.cell b1 36 #[.bool B.bad, .int .i64 B.next, .int .i64 B.count, .slice (some ⟨q, 0, none⟩) B.pages.length cap3] (0, 0) _ rfl hx1 Try.underlying36 rfl (by kernel_rfl) .nil)) rfl ⟨_, rfl, ⟨_, rfl, some ⟨q, 0, none⟩, cap3, rfl, HQC.out, fun j xs hj => ?_⟩, ?_⟩
      · obtain ⟨qs', h1, h2, -⟩ := HBI.out.qs
        obtain ⟨v, h3, h4⟩ := h2 j xs hj (List.getElem?_eq_some_iff.1 hj).1
        have y1 := HBI.out.x1
        have far : ∀ (W : World) (o : Nat) (u : Value), W.heap[q]? = some (.cells qs' 22 (0, 0)) → q ≠ b1 → (W.setCell ⟨b1, o, none⟩ u).heap[q]? = some (.cells qs' 22 (0, 0)) := fun W o u hh hne => blk_far hh (p := ⟨b1, o, none⟩) hne u
        have hne : q ≠ b1 := type_ne h1 y1 (by decide)
        refine ⟨⟨q, 0, none⟩, v, rfl, HQ.out, ?_, Kd.R_set (Kd.R_set (Kd.R_set (Kd.R_set h4 y1 (u8_ne _ (by decide)) 0 _) (blk_set y1 0 _) (u8_ne _ (by decide)) 1 _) (blk_set (blk_set y1 0 _) 1 _) (u8_ne _ (by decide)) 2 _) (blk_set (blk_set (blk_set y1 0 _) 1 _) 2 _) (u8_ne _ (by decide)) 3 _⟩
        rw [add_plain, blk_cell (far _ _ _ (far _ _ _ (far _ _ _ (far _ _ _ h1 hne) hne) hne) hne)]
        exact h3
      · have hb1 : w.heap.size ≤ b1 := Nat.le_of_eq HB1E.out
        exact (((HBI.out.below.setCell (p := ⟨b1, 0, none⟩) hb1 _).setCell (p := ⟨b1, 1, none⟩) hb1 _).setCell (p := ⟨b1, 2, none⟩) hb1 _).setCell (p := ⟨b1, 3, none⟩) hb1 _
/-- Block. -/
theorem block {w : World} {base : Nat} {ok : Nat → Prop} {g : Nat} {s : Chp} (hI : IsChip w base ok g s) (b : Int) (hx : ∀ xs ∈ (blockB s b).pages, xs.length ≤ 100000) :
    Calls Try.prog 16 #[.pointer (some ⟨g, 0, none⟩), .int .i64 b] w fun e w' => ∃ v, e = .returned v ∧ BlkV w' w.heap.size v (blockB s b) ∧ Below w.heap.size w w' := by
  cases hs : hasB s b with
  | false =>
    have : blockB s b = noB := by unfold blockB; rw [if_neg (by rw [hs]; decide)]
    rw [this]
    exact blockN hI b hs
  | true =>
    obtain ⟨i, B, rfl, hB, hi⟩ := has_at hs
    have : blockB s (i : Int) = B := by unfold blockB; rw [if_pos hs, Int.toNat_natCast, hB]; rfl
    rw [this] at hx ⊢
    exact blockY hI i B hs hB hi hx
end Go.Proofs.Ytloldgiggnhemaa.Cm
