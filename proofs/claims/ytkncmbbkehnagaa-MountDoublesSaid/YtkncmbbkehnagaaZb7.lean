import Derived.Test.YtkncmbbkehnagaaZb3
import Derived.Test.YtkncmbbkehnagaaZb6
import Derived.Test.YtkncmbbkehnagaaZWEqStruct
set_option linter.unusedVariables false
set_option linter.unusedSimpArgs false
/-! A chip and a scan of it, in memory; mount.New. -/
namespace Go.Proofs.Ytkncmbbkehnagaa.Cm
open Go.RowKit Go.Proofs.YtkncmbbkehnagaaW.PrintWords Go.Proofs.YtkncmbbkehnagaaW.PrintLast Go.Proofs.YtkncmbbkehnagaaW.PrintMore Go.Proofs.Ytkncmbbkehnagaa.Kp Go.Proofs.Ytkncmbbkehnagaa.Cp Go.Proofs.Ytkncmbbkehnagaa.PAll Go.Proofs.Ytkncmbbkehnagaa.Iter

abbrev Sp2 := Int × Int
def SpAt (W : World) (b1 : Nat) (A : Option Addr) (c : Nat) (sp : List Sp2) : Prop := sp.length ≤ c ∧ (sp = [] ∨ ∃ r o cs, A = some ⟨r, o, none⟩ ∧ b1 ≤ r ∧ W.heap[r]? = some (.cells cs 40 (0, 0)) ∧ ∀ j x, sp[j]? = some x → cs[o + j * 2]? = some (.int .i64 x.1) ∧ cs[o + j * 2 + 1]? = some (.int .i64 x.2))
theorem SpAt.move {W W' : World} {b1 : Nat} {A : Option Addr} {c : Nat} {sp : List Sp2} (h : SpAt W b1 A c sp) (hk : ∀ k cs, b1 ≤ k → W.heap[k]? = some (.cells cs 40 (0, 0)) → W'.heap[k]? = some (.cells cs 40 (0, 0))) : SpAt W' b1 A c sp := by
  obtain ⟨h1, h2⟩ := h
  refine ⟨h1, ?_⟩
  rcases h2 with h2 | ⟨r, o, cs, e, hr, hh, hx⟩
  · exact .inl h2
  · exact .inr ⟨r, o, cs, e, hr, hk r cs hr hh, hx⟩
/-- A chip (base b0, blocks S), a scan of it (its blocks from b1 on). -/
structure Pr (w0 W : World) (b0 b1 : Nat) (S : Nat → Prop) (g q : Nat) (s : Chp) (A : Option Addr) (c : Nat) (uf vf uh vh : Value) (sp : List Sp2) (fs : List FD) (shs : List S28) : Prop where
  below : Below b0 w0 W
  chip : Hd W b0 S g s
  lt1 : ∀ k, S k → k < b1
  b01 : b0 ≤ b1
  q1 : b1 ≤ q
  box : W.heap[q]? = some (.cells (scCells g (.slice A sp.length c) uf uh) 87 (0, 0))
  spots : SpAt W b1 A c sp
  f : kFD.R 49 W b1 (fun _ => True) vf fs
  h : k28.R 28 W b1 (fun _ => True) vh shs
section
variable {w0 W W1 : World} {b0 b1 : Nat} {S : Nat → Prop} {g q : Nat} {s s' : Chp} {A : Option Addr} {c : Nat} {uf vf uh vh : Value} {sp : List Sp2} {fs : List FD} {shs : List S28}
theorem Pr.ge (h : Pr w0 W b0 b1 S g q s A c uf vf uh vh sp fs shs) : b1 ≤ W.heap.size := Nat.le_of_lt (Nat.lt_of_le_of_lt h.q1 (blk_lt h.box))
/-- Something was made; the chip, too, may have done something in its own blocks. -/
theorem Pr.next (h : Pr w0 W b0 b1 S g q s A c uf vf uh vh sp fs shs) (hc : Hd W1 b0 S g s') (hn : Nx b0 W S W1 S) : Pr w0 W1 b0 b1 S g q s' A c uf vf uh vh sp fs shs := by
  have key : ∀ k, k < W.heap.size → b1 ≤ k → W1.heap[k]? = W.heap[k]? := fun k hk h1 => (hn.keep k hk (fun hs => by have := h.lt1 k hs; omega)).2
  have keyR : ∀ k, (b1 ≤ k) → k < W.heap.size → W1.heap[k]? = W.heap[k]? := fun k h1 hk => key k hk h1
  exact ⟨h.below.trans hn.bel, hc, h.lt1, h.b01, h.q1, (key q (blk_lt h.box) h.q1).trans h.box, h.spots.move (fun k cs hk hh => (key k (blk_lt hh) hk).trans hh),
    Kd.R_mono (Kd.R_step (Kd.R_mono (Kd.R_bound h.f) (fun k hk => hk.2.1)) keyR) (fun _ _ => trivial), Kd.R_mono (Kd.R_step (Kd.R_mono (Kd.R_bound h.h) (fun k hk => hk.2.1)) keyR) (fun _ _ => trivial)⟩
theorem Pr.step (h : Pr w0 W b0 b1 S g q s A c uf vf uh vh sp fs shs) (hb : Below W.heap.size W W1) : Pr w0 W1 b0 b1 S g q s A c uf vf uh vh sp fs shs :=
  h.next (h.chip.below hb) (Nx.of_below hb (by have := h.ge; have := h.b01; omega))
theorem Pr.alloc (h : Pr w0 W b0 b1 S g q s A c uf vf uh vh sp fs shs) (o : Obj) : Pr w0 (W.alloc o) b0 b1 S g q s A c uf vf uh vh sp fs shs := h.step (below_alloc (Below.refl _ _) _)
theorem Pr.drew (h : Pr w0 W b0 b1 S g q s A c uf vf uh vh sp fs shs) : Pr w0 W.drew b0 b1 S g q s A c uf vf uh vh sp fs shs := h.step (below_drew (Below.refl _ _))
theorem Pr.cells (h : Pr w0 W b0 b1 S g q s A c uf vf uh vh sp fs shs) : W.cell? ⟨q, 0, none⟩ = some (.pointer (some ⟨g, 0, none⟩)) ∧ W.cell? ⟨q, 1, none⟩ = some (.slice A sp.length c) ∧ W.cell? ⟨q, 2, none⟩ = some uf ∧ W.cell? ⟨q, 3, none⟩ = some uh := scAt h.box
theorem Pr.hdKeep (h : Pr w0 W b0 b1 S g q s A c uf vf uh vh sp fs shs) (hs : W.heap.size ≤ W1.heap.size) (hk : ∀ k, k < b1 → W1.heap[k]? = W.heap[k]?) : Hd W1 b0 S g s :=
  ⟨h.chip.chip.keep hs (fun k hS _ => hk k (h.lt1 k hS)), fun k hS => Nat.lt_of_lt_of_le (h.chip.lt k hS) hs⟩
/-- A row of the scan's has grown: what is of other types stays. -/
theorem Pr.grownF (h : Pr w0 W b0 b1 S g q s A c uf vf uh vh sp fs shs) {vf' : Value} {fs' : List FD} (hg : W.grownBy W1 vf.ownBlock) (hb : Below b1 W W1) (hR : kFD.R 49 W1 b1 (fun _ => True) vf' fs') : Pr w0 W1 b0 b1 S g q s A c uf vf' uh vh sp fs' shs := by
  have key : ∀ {k t : Nat} {cs : Array Value}, W.heap[k]? = some (.cells cs t (0, 0)) → t ≠ 49 → W1.heap[k]? = some (.cells cs t (0, 0)) := fun {k t cs} hh ht => by
    refine (hg.block k (blk_lt hh) (fun e => ?_)).trans hh
    exact Kd.R_ne h.f hh ht.symm e
  exact ⟨h.below.trans (hb.mono h.b01), h.hdKeep hb.size (fun k hk => hb.block k hk), h.lt1, h.b01, h.q1, key h.box (by decide), h.spots.move (fun k cs _ hh => key hh (by decide)), hR,
    Kd.R_mono (Kd.R_grown (Kd.R_bound h.h) hg (fun k hk e => by
      obtain ⟨_, _, _, t, ht, cells, hc⟩ := hk
      refine Kd.R_ne h.f hc ?_ e
      rcases List.mem_cons.1 ht with rfl | ht
      · decide
      · rcases List.mem_cons.1 ht with rfl | ht
        · decide
        · cases ht)) (fun _ hk => trivial)⟩
theorem Pr.grownH (h : Pr w0 W b0 b1 S g q s A c uf vf uh vh sp fs shs) {vh' : Value} {shs' : List S28} (hg : W.grownBy W1 vh.ownBlock) (hb : Below b1 W W1) (hR : k28.R 28 W1 b1 (fun _ => True) vh' shs') : Pr w0 W1 b0 b1 S g q s A c uf vf uh vh' sp fs shs' := by
  have key : ∀ {k t : Nat} {cs : Array Value}, W.heap[k]? = some (.cells cs t (0, 0)) → t ≠ 28 → W1.heap[k]? = some (.cells cs t (0, 0)) := fun {k t cs} hh ht => by
    refine (hg.block k (blk_lt hh) (fun e => ?_)).trans hh
    exact Kd.R_ne h.h hh ht.symm e
  exact ⟨h.below.trans (hb.mono h.b01), h.hdKeep hb.size (fun k hk => hb.block k hk), h.lt1, h.b01, h.q1, key h.box (by decide), h.spots.move (fun k cs _ hh => key hh (by decide)),
    Kd.R_mono (Kd.R_grown (Kd.R_bound h.f) hg (fun k hk e => by
      obtain ⟨_, _, _, t, ht, cells, hc⟩ := hk
      refine Kd.R_ne h.h hc ?_ e
      rcases List.mem_cons.1 ht with rfl | ht
      · decide
      · cases ht)) (fun _ hk => trivial), hR⟩
/-- A field of the scan is written. -/
theorem Pr.setBox (h : Pr w0 W b0 b1 S g q s A c uf vf uh vh sp fs shs) (j : Nat) (v : Value) {A' : Option Addr} {c' : Nat} {uf' uh' : Value} {sp' : List Sp2} (hc : (scCells g (.slice A sp.length c) uf uh).setIfInBounds j v = scCells g (.slice A' sp'.length c') uf' uh') (hs : SpAt W b1 A' c' sp') :
    Pr w0 (W.setCell ⟨q, j, none⟩ v) b0 b1 S g q s A' c' uf' vf uh' vh sp' fs shs := by
  have hq := h.q1
  have far : ∀ {k t : Nat} {cs : Array Value}, W.heap[k]? = some (.cells cs t (0, 0)) → t ≠ 87 → (W.setCell ⟨q, j, none⟩ v).heap[k]? = some (.cells cs t (0, 0)) := fun hh ht => blk_far hh (p := ⟨q, j, none⟩) (type_ne hh h.box ht) _
  exact ⟨h.below.setCell (p := ⟨q, j, none⟩) (Nat.le_trans h.b01 h.q1) _, h.hdKeep (by simp [World.setCell]) (fun k hk => Below.heap_setCell W ⟨q, j, none⟩ v k (by show k ≠ q; omega)), h.lt1, h.b01, h.q1, blk_put h.box j v hc, hs.move (fun k cs _ hh => far hh (by decide)),
    Kd.R_set h.f h.box (fun t ht => by rcases List.mem_cons.1 ht with rfl | ht; decide; cases ht) j v, Kd.R_set h.h h.box (fun t ht => by rcases List.mem_cons.1 ht with rfl | ht; decide; rcases List.mem_cons.1 ht with rfl | ht; decide; cases ht) j v⟩
/-- A scan that lies whole. -/
def Sc (w0 W : World) (b0 : Nat) (S : Nat → Prop) (g q : Nat) (s : Chp) (sp : List Sp2) (fs : List FD) (shs : List S28) : Prop := ∃ b1 A c vf vh, Pr w0 W b0 b1 S g q s A c vf vf vh vh sp fs shs
theorem Sc.step (h : Sc w0 W b0 S g q s sp fs shs) (hb : Below W.heap.size W W1) : Sc w0 W1 b0 S g q s sp fs shs := by
  obtain ⟨b1, A, c, vf, vh, h⟩ := h
  exact ⟨b1, A, c, vf, vh, h.step hb⟩
theorem Sc.below (h : Sc w0 W b0 S g q s sp fs shs) : Below b0 w0 W := by
  obtain ⟨b1, A, c, vf, vh, h⟩ := h
  exact h.below
theorem Sc.chip (h : Sc w0 W b0 S g q s sp fs shs) : Hd W b0 S g s := by
  obtain ⟨b1, A, c, vf, vh, h⟩ := h
  exact h.chip
end
def spots2 (n p : Int) : List Sp2 := (spotsList n p).map (fun x => x.2)
theorem rowsS_get : ∀ (l : List Spot3) (j : Nat) (x : Spot3), l[j]? = some x → (rowsS l)[j * 2]? = some (.int .i64 x.2.1) ∧ (rowsS l)[j * 2 + 1]? = some (.int .i64 x.2.2)
  | y :: l, 0, x, h => by
    obtain rfl : y = x := by simpa using h
    simp [rowsS, rowS]
  | y :: l, j + 1, x, h => by
    have ih := rowsS_get l j x (by simpa using h)
    have e : rowsS (y :: l) = rowS y ++ rowsS l := rfl
    rw [e, List.getElem?_append_right (by simp [rowS]; omega), List.getElem?_append_right (by simp [rowS]; omega)]
    have e1 : (j + 1) * 2 - (rowS y).length = j * 2 := by simp [rowS]; omega
    have e2 : (j + 1) * 2 + 1 - (rowS y).length = j * 2 + 1 := by simp [rowS]; omega
    rw [e1, e2]
    exact ih
set_option maxHeartbeats 1000000 in
/-- New. -/
theorem mnew {w0 w : World} {b0 : Nat} {S : Nat → Prop} {g : Nat} {s : Chp} (hb : Below b0 w0 w) (h : Hd w b0 S g s) (hn1 : 0 < s.blocks.length) (hx : ∀ B ∈ s.blocks, ∀ xs ∈ B.pages, xs.length ≤ 100000) :
    Calls Try.prog 14 #[.pointer (some ⟨g, 0, none⟩)] w fun e w' => ∃ q, e = .returned (.pointer (some ⟨q, 0, none⟩)) ∧ w.heap.size ≤ q ∧ Below w.heap.size w w' ∧ Sc w0 w' b0 S g q s (spots2 s.blocks.length s.pages) [] [] := by
  refine (callsIn_wide.1 (mnewIn h hn1 hx)).mono ?_
  rintro ev w' ⟨q, v, rfl, hq, hbw, hbox, hrow⟩
  refine ⟨q, rfl, hq, hbw, ?_⟩
  have hsh : ∃ A c, v = .slice A (spotsList s.blocks.length s.pages).length c := by
    rcases hrow.2 with ⟨h1, h2⟩ | ⟨r, cap, cur, rfl, _⟩
    · exact ⟨none, 0, by rw [h1, h2]⟩
    · exact ⟨_, _, rfl⟩
  obtain ⟨A, c, rfl⟩ := hsh
  have hl : (spots2 s.blocks.length s.pages).length = (spotsList s.blocks.length s.pages).length := by simp [spots2]
  refine ⟨w.heap.size, A, c, .slice none 0 0, .slice none 0 0, ⟨hb.trans (hbw.mono h.base_le), h.below hbw, h.lt, h.base_le, hq, by rw [hl]; exact hbox, ?_, Kd.R_nil _ _ _ _ _, Kd.R_nil _ _ _ _ _⟩⟩
  rcases hrow.2 with ⟨h1, h2⟩ | ⟨r, cap, cur, e, hrb, hh, hnc, hcl, hsz, hxx⟩
  · refine ⟨by rw [hl, h2]; exact Nat.zero_le _, .inl (List.eq_nil_of_length_eq_zero (by rw [hl, h2]))⟩
  · injection e with e1 e2 e3
    subst e1 e3
    refine ⟨by rw [hl]; exact hnc, .inr ⟨r, 0, cur, rfl, hrb, hh, fun j x hj => ?_⟩⟩
    simp only [spots2, List.getElem?_map] at hj
    obtain ⟨y, hy, rfl⟩ := Option.map_eq_some_iff.1 hj
    obtain ⟨r1, r2⟩ := rowsS_get _ _ _ hy
    have hjl : j < (spotsList s.blocks.length s.pages).length := (List.getElem?_eq_some_iff.1 hy).1
    have get : ∀ k, k < (spotsList s.blocks.length s.pages).length * 2 → cur[k]? = (rowsS (spotsList s.blocks.length s.pages))[k]? := fun k hk => by
      rw [← hxx, List.getElem?_take, if_pos hk]
      simp
    rw [Nat.zero_add, get _ (by omega), get _ (by omega)]
    exact ⟨r1, r2⟩
end Go.Proofs.Ytkncmbbkehnagaa.Cm

set_option linter.unusedVariables false
set_option linter.unusedSimpArgs false
/-! reads. -/
namespace Go.Proofs.Ytkncmbbkehnagaa.Cm
open Go.RowKit Go.Proofs.YtkncmbbkehnagaaW.PrintWords Go.Proofs.YtkncmbbkehnagaaW.PrintLast Go.Proofs.YtkncmbbkehnagaaW.PrintMore Go.Proofs.Ytkncmbbkehnagaa.Kp Go.Proofs.Ytkncmbbkehnagaa.Cp Go.Proofs.Ytkncmbbkehnagaa.PAll Go.Proofs.Ytkncmbbkehnagaa.Iter Go.Proofs.Ytkncmbbkehnagaa.St Go.Proofs.Ytkncmbbkehnagaa.Sp
attribute [local go_sem] max2_int min2_int max_two min_two max_three min_three max_four min_four

/-- A page is read. -/
def rdChip (s : Chp) (b p : Int) : Chp := if (blockB s b).next = 0 then s else readS s b p
def rdNew (s : Chp) (b p : Int) : List S28 := if (blockB s b).next = 0 then [] else if (parseL (readX s b p)).2.2.2 = 0 then [⟨(parseL (readX s b p)).1, (parseL (readX s b p)).2.1, (parseL (readX s b p)).2.2.1⟩] else []
def asF (b p : Int) (x : S28) : FD := ⟨x.f0, x.f1, b, p⟩
theorem rdHeld {w0 W W1 : World} {b0 b1 : Nat} {S : Nat → Prop} {g q bx : Nat} {s : Chp} {A : Option Addr} {c : Nat} {uf vf uh vh : Value} {sp : List Sp2} {fs : List FD} {shs : List S28} {b p : Int} (h : Pr w0 W b0 b1 S g q s A c uf vf uh vh sp fs shs) (hx : W.heap[bx]? = some (.cells #[.int .i64 b, .int .i64 p] 40 (0, 0))) (hb : Below W.heap.size W W1) :
    W1.cell? ⟨q, 0, none⟩ = some (.pointer (some ⟨g, 0, none⟩)) ∧ W1.cell? ⟨bx, 0, none⟩ = some (.int .i64 b) ∧ W1.cell? ⟨bx, 1, none⟩ = some (.int .i64 p) :=
  ⟨(h.step hb).cells.1, (two (blk_below hx hb)).1, (two (blk_below hx hb)).2⟩
theorem fdHeld {w0 W W1 : World} {b0 b1 : Nat} {S : Nat → Prop} {g q bx by_ : Nat} {s : Chp} {A : Option Addr} {c : Nat} {uf vf uh vh : Value} {sp : List Sp2} {fs : List FD} {shs : List S28} {b p x y : Int} {z : Value} (h : Pr w0 W b0 b1 S g q s A c uf vf uh vh sp fs shs) (hx : W.heap[bx]? = some (.cells #[.int .i64 b, .int .i64 p] 40 (0, 0))) (hy : W.heap[by_]? = some (.cells #[.int .i64 x, .int .i64 y, z] 28 (0, 0))) (hb : Below W.heap.size W W1) :
    W1.cell? ⟨q, 2, none⟩ = some uf ∧ (W1.cell? ⟨bx, 0, none⟩ = some (.int .i64 b) ∧ W1.cell? ⟨bx, 1, none⟩ = some (.int .i64 p)) ∧ W1.cell? ⟨by_, 0, none⟩ = some (.int .i64 x) ∧ W1.cell? ⟨by_, 1, none⟩ = some (.int .i64 y) :=
  ⟨(h.step hb).cells.2.2.1, two (blk_below hx hb), (blk_cell (blk_below hy hb) 0).trans rfl, (blk_cell (blk_below hy hb) 1).trans rfl⟩
theorem shHeld {w0 W W1 : World} {b0 b1 : Nat} {S : Nat → Prop} {g q by_ : Nat} {s : Chp} {A : Option Addr} {c : Nat} {uf vf uh vh : Value} {sp : List Sp2} {fs : List FD} {shs : List S28} {x y : Int} {z : Value} (h : Pr w0 W b0 b1 S g q s A c uf vf uh vh sp fs shs) (hy : W.heap[by_]? = some (.cells #[.int .i64 x, .int .i64 y, z] 28 (0, 0))) (hb : Below W.heap.size W W1) :
    W1.cell? ⟨q, 3, none⟩ = some uh ∧ (W1.cell? ⟨by_, 0, none⟩ = some (.int .i64 x) ∧ W1.cell? ⟨by_, 1, none⟩ = some (.int .i64 y) ∧ W1.cell? ⟨by_, 2, none⟩ = some z) :=
  ⟨(h.step hb).cells.2.2.2, (blk_cell (blk_below hy hb) 0).trans rfl, (blk_cell (blk_below hy hb) 1).trans rfl, (blk_cell (blk_below hy hb) 2).trans rfl⟩
theorem Pr.keepF {w0 W W1 : World} {b0 b1 : Nat} {S : Nat → Prop} {g q : Nat} {s : Chp} {A : Option Addr} {c : Nat} {uf vf uh vh : Value} {sp : List Sp2} {fs : List FD} {shs : List S28} (h : Pr w0 W b0 b1 S g q s A c uf vf uh vh sp fs shs) (hg : W.grownBy W1 vf.ownBlock) {k t : Nat} {cs : Array Value} (hh : W.heap[k]? = some (.cells cs t (0, 0))) (ht : 49 ≠ t) : W1.heap[k]? = some (.cells cs t (0, 0)) :=
  (hg.block k (blk_lt hh) (fun e => Kd.R_ne h.f hh ht e)).trans hh
theorem R_shapeA {α : Type} {d : Kd α} {e base : Nat} {w : World} {ok : Nat → Prop} {v : Value} {xs : List α} (h : d.R e w base ok v xs) : ∃ A n c, v = .slice A n c := by
  obtain ⟨A, c, h1, -, -⟩ := Kd.R_reads h
  exact ⟨A, _, c, h1⟩
theorem kFD_mkM (w : World) (base : Nat) (ok : Nat → Prop) (x : FD) : kFD.M w base ok x [.int .i64 x.p, .int .i64 x.q, .int .i64 x.b, .int .i64 x.k] :=
  ⟨[.int .i64 x.p], [.int .i64 x.q, .int .i64 x.b, .int .i64 x.k], rfl, rfl, ⟨[.int .i64 x.q], [.int .i64 x.b, .int .i64 x.k], rfl, rfl, ⟨[.int .i64 x.b], [.int .i64 x.k], rfl, rfl, rfl⟩⟩⟩
theorem infoSH : (Try.prog.info? 28).map (fun i => (i.zero, i.size, i.bytes)) = some (some (.agg #[.int .i64 0, .int .i64 0, .slice none 0 0]), 3, 40) := by kernel_rfl
def reg_mreads_1.T : Bool × List (List Nat × List Nat) := (true, [([], []), ([0], [0]), ([1], [1]), ([2], [2]), ([], []), ([4], [4]), ([3, 5], [3, 5]), ([6], [6]), ([7], [7])])
def reg_mreads_1.B : List Nat := [0, 1, 3, 7, 0, 16, 63, 127, 255]
theorem reg_mreads_1.tab : rtab .any (opsOf Try.f34 1) = reg_mreads_1.T := by kernel_rfl
theorem reg_mreads_1.bits : waitsOk reg_mreads_1.T.2 reg_mreads_1.B = true := by kernel_rfl
def reg_mreads_3.T : Bool × List (List Nat × List Nat) := (true, [([], []), ([0], [0]), ([1], [1]), ([2], [2]), ([], []), ([3, 4], [3, 4]), ([5], [5]), ([6], [6]), ([6], [6]), ([7, 5, 0, 1, 2, 3, 4, 5, 6, 7], [7]), ([8, 9, 0, 1, 2, 3, 4, 5, 6, 7, 8, 9], [8])])
def reg_mreads_3.B : List Nat := [0, 1, 3, 7, 0, 31, 63, 127, 127, 255, 1023]
theorem reg_mreads_3.tab : rtab .any (opsOf Try.f34 3) = reg_mreads_3.T := by kernel_rfl
theorem reg_mreads_3.bits : waitsOk reg_mreads_3.T.2 reg_mreads_3.B = true := by kernel_rfl
def reg_mreads_8.T : Bool × List (List Nat × List Nat) := (true, [([], []), ([], []), ([1], [1]), ([2], [2]), ([3], [3]), ([], []), ([5], [5]), ([], []), ([7], [7]), ([6, 8], [6, 8]), ([], []), ([9, 10], [9, 10]), ([11], [11]), ([4, 12], [4, 12]), ([0, 0, 1, 2, 3, 4, 5, 6, 7, 8, 9, 10, 11, 12, 13], [0]), ([14, 0, 1, 2, 3, 4, 5, 6, 7, 8, 9, 10, 11, 12, 13], [14]), ([15, 13, 13, 0, 1, 2, 3, 4, 5, 6, 7, 8, 9, 10, 11, 12, 13], [13, 15])])
def reg_mreads_8.B : List Nat := [0, 0, 2, 6, 14, 0, 32, 0, 128, 480, 0, 2016, 4064, 8190, 16383, 32767, 65535]
theorem reg_mreads_8.tab : rtab .any (opsOf Try.f34 8) = reg_mreads_8.T := by kernel_rfl
theorem reg_mreads_8.bits : waitsOk reg_mreads_8.T.2 reg_mreads_8.B = true := by kernel_rfl
def reg_mreads_9.T : Bool × List (List Nat × List Nat) := (true, [([], []), ([], []), ([1], [1]), ([2], [2]), ([3], [3]), ([], []), ([5], [5]), ([4, 6], [4, 6]), ([0, 0, 1, 2, 3, 4, 5, 6, 7], [0]), ([8, 0, 1, 2, 3, 4, 5, 6, 7], [8]), ([9, 7, 7, 0, 1, 2, 3, 4, 5, 6, 7], [7, 9])])
def reg_mreads_9.B : List Nat := [0, 0, 2, 6, 14, 0, 32, 126, 255, 511, 1023]
theorem reg_mreads_9.tab : rtab .any (opsOf Try.f34 9) = reg_mreads_9.T := by kernel_rfl
theorem reg_mreads_9.bits : waitsOk reg_mreads_9.T.2 reg_mreads_9.B = true := by kernel_rfl
set_option maxHeartbeats 4000000 in
set_option maxRecDepth 100000 in
theorem mreads {w0 w : World} {b0 : Nat} {S : Nat → Prop} {g q : Nat} {s : Chp} {sp : List Sp2} {fs : List FD} {shs : List S28} (h : Sc w0 w b0 S g q s sp fs shs) (b p : Int) (hs : spotB s b p = true) (hd : s.down = false) (hx : ∀ xs ∈ (blockB s b).pages, xs.length ≤ 100000) (hf : Fine (readX s b p)) (hxl : (readX s b p).length ≤ 100000) (hl : fs.length ≤ 100000) (hl2 : shs.length ≤ 100000) :
    Calls Try.prog 34 #[.pointer (some ⟨q, 0, none⟩), .agg #[.int .i64 b, .int .i64 p]] w fun e w' => e = .returned (.int .i64 0) ∧ Sc w0 w' b0 S g q (rdChip s b p) sp (fs ++ (rdNew s b p).map (asF b p)) (shs ++ rdNew s b p) := by
  obtain ⟨b1, A, c, vf, vh, h⟩ := h
  obtain ⟨w1, hw1⟩ : ∃ w1, w.alloc (.cells #[.int .i64 b, .int .i64 p] 40) = w1 := ⟨_, rfl⟩
  obtain ⟨bx, hbx⟩ : ∃ bx, w.heap.size = bx := ⟨_, rfl⟩
  have HP1 : Aside0 (Pr w0 w1 b0 b1 S g q s A c vf vf vh vh sp fs shs) := ⟨by rw [← hw1]; exact h.alloc _⟩
  have HX1 : Aside0 (w1.heap[bx]? = some (.cells #[.int .i64 b, .int .i64 p] 40 (0, 0))) := ⟨by rw [← hw1, ← hbx]; exact blk_new w _⟩
  have HBX : Aside0 (b1 ≤ bx) := ⟨by rw [← hbx]; exact h.ge⟩
  have HW := Aside0.mk hw1
  have HWB := Aside0.mk hbx
  have HS := Aside0.mk hs
  have HD := Aside0.mk hd
  have HXS := Aside0.mk hx
  have HL := Aside0.mk (And.intro hl hl2)
  obtain ⟨nx, hnx⟩ : ∃ n, (blockB s b).next = n := ⟨_, rfl⟩
  have HNX := Aside0.mk hnx
  obtain ⟨c0, -⟩ := HP1.out.cells
  obtain ⟨ch, hch⟩ : ∃ ch, rdChip s b p = ch := ⟨_, rfl⟩
  obtain ⟨nw, hnw⟩ : ∃ nw, rdNew s b p = nw := ⟨_, rfl⟩
  have HCH := Aside0.mk hch
  have HNE := Aside0.mk hnw
  rw [hch, hnw]
  obtain ⟨xs, hxs⟩ : ∃ xs, readX s b p = xs := ⟨_, rfl⟩
  obtain ⟨pp, pq, pd, pe, hpe⟩ : ∃ a b c d, parseL xs = (a, b, c, d) := ⟨_, _, _, _, rfl⟩
  rw [hxs] at hf hxl
  have HXE := Aside0.mk hxs
  have HPE := Aside0.mk hpe
  have HXL := Aside0.mk (show (readX s b p).length ≤ 100000 by rw [hxs]; exact hxl)
  have HF := Aside0.mk hf
  clear h hw1 hbx hs hd hx hf hxl hl hl2 hnx hch hnw hxs hpe
  go_enter Try.func34, Try.ntmps34
  go_upto_region 1 with fail
  rw [HW.out, HWB.out]
  clear c0
  refine start_ (n := 9) (S := fun w' => w'.cell? ⟨q, 0, none⟩ = some (.pointer (some ⟨g, 0, none⟩)) ∧ w'.cell? ⟨bx, 0, none⟩ = some (.int .i64 b) ∧ w'.cell? ⟨bx, 1, none⟩ = some (.int .i64 p)) (ds := []) #[false, false, false, false, false, false, false, false, false] (by kernel_rfl) rfl rfl (rdHeld HP1.out HX1.out (below_drew (Below.refl _ _))) (fun hHeld => ?_)
  refine with_tabW reg_mreads_1.tab reg_mreads_1.bits (fun HT_ HW_ => ?_)
  refine pure_ (i := 0) (N := (some 9)) (v := ?_) (a' := ?_) #[true, false, false, false, false, false, false, false, false] rfl rfl (any_of HT_.out (by kernel_rfl)) (fun _ _ _ h => h) (Or.inl ⟨by rfl, ?_⟩) ?_ ?_
  rotate_left
  · intro w'
    go_simp
    first | done | with_reducible rfl
  rotate_left
  · simp only [Act.put, List.setIfInBounds_toArray, List.set_cons_zero, List.set_cons_succ, i64_w, i32_w]
    rfl
  refine pure_ (i := 1) (N := (some 10)) (v := ?_) (a' := ?_) #[true, true, false, false, false, false, false, false, false] rfl rfl (any_of HT_.out (by kernel_rfl)) (fun _ _ _ h => h) (Or.inl ⟨by rfl, ?_⟩) ?_ ?_
  rotate_left
  · intro w'
    go_simp
    first | done | with_reducible rfl
  rotate_left
  · simp only [Act.put, List.setIfInBounds_toArray, List.set_cons_zero, List.set_cons_succ, i64_w, i32_w]
    rfl
  refine pure_ (i := 2) (N := (some 11)) (v := ?_) (a' := ?_) #[true, true, true, false, false, false, false, false, false] rfl rfl (any_of HT_.out (by kernel_rfl)) (fun _ _ _ h => h) (Or.inl ⟨by rfl, ?_⟩) ?_ ?_
  rotate_left
  · intro w'
    go_simp
    first | done | with_reducible rfl
  rotate_left
  · simp only [Act.put, List.setIfInBounds_toArray, List.set_cons_zero, List.set_cons_succ, i64_w, i32_w]
    rfl
  refine take_ (i := 3) (N := (some 12)) (v := ?_) (a' := ?_) #[true, true, true, true, false, false, false, false, false] rfl rfl (take_ofW HT_.out HW_.out (by kernel_rfl)) (fun _ _ _ h => h) (Or.inl ⟨by rfl, ?_⟩) hHeld ?_ ?_
  rotate_left
  · rintro w' ⟨s0, s1, s2⟩
    go_simp
    first | done | with_reducible rfl
  rotate_left
  · simp only [Act.put, List.setIfInBounds_toArray, List.set_cons_zero, List.set_cons_succ, i64_w, i32_w]
    rfl
  refine pure_ (i := 4) (N := (some 13)) (v := ?_) (a' := ?_) #[true, true, true, true, true, false, false, false, false] rfl rfl (any_of HT_.out (by kernel_rfl)) (fun _ _ _ h => h) (Or.inl ⟨by rfl, ?_⟩) ?_ ?_
  rotate_left
  · intro w'
    go_simp
    first | done | with_reducible rfl
  rotate_left
  · simp only [Act.put, List.setIfInBounds_toArray, List.set_cons_zero, List.set_cons_succ, i64_w, i32_w]
    rfl
  refine take_ (i := 5) (N := (some 14)) (v := ?_) (a' := ?_) #[true, true, true, true, true, true, false, false, false] rfl rfl (take_ofW HT_.out HW_.out (by kernel_rfl)) (fun _ _ _ h => h) (Or.inl ⟨by rfl, ?_⟩) hHeld ?_ ?_
  rotate_left
  · rintro w' ⟨s0, s1, s2⟩
    go_simp
    first | done | with_reducible rfl
  rotate_left
  · simp only [Act.put, List.setIfInBounds_toArray, List.set_cons_zero, List.set_cons_succ, i64_w, i32_w]
    rfl
  refine one_ (i := 6) (N := (some 15)) #[true, true, true, true, true, true, true, false, false] rfl rfl (one_of HT_.out (by kernel_rfl)) (by decide) (fun K hK => ?_)
  refine goes_ Try.func52 (by kernel_rfl) rfl #[.pointer (some ⟨g, 0, none⟩), .int .i64 b] (by rfl) rfl rfl (by (try simp only [List.map_toArray, List.map_cons, List.map_nil]); first | done | rfl) ?_
  with_reducible refine (blockH (HP1.out.drew.chip) b HXS.out).mono ?_
  rintro ev_ w2 ⟨v2, rfl, ⟨pv, rfl, A2, c2, rfl, -, -⟩, -, hb2⟩
  refine ⟨_, rfl, ?_⟩
  rw [HNX.out]
  have HB2 := Aside0.mk (below_step (below_drew (Below.refl _ w1)) hb2)
  have hf1 := field1
  clear hb2
  refine hK.out _ _ (rdHeld HP1.out HX1.out HB2.out) (fun hHeld => ?_)
  clear hK K
  refine norm_ (a' := ?_) ?_ ?_
  rotate_left
  · show Act.put _ (some 15) _ = _
    simp only [Act.put, List.setIfInBounds_toArray, List.set_cons_zero, List.set_cons_succ, i64_w, i32_w]
    rfl
  refine pure_ (i := 7) (N := (some 16)) (v := ?_) (a' := ?_) #[true, true, true, true, true, true, true, true, false] rfl rfl (any_of HT_.out (by kernel_rfl)) (fun _ _ _ h => h) (Or.inl ⟨by rfl, ?_⟩) ?_ ?_
  rotate_left
  · intro w'
    go_simp
    first | done | with_reducible rfl
  rotate_left
  · simp only [Act.put, List.setIfInBounds_toArray, List.set_cons_zero, List.set_cons_succ, i64_w, i32_w]
    rfl
  refine pure_ (i := 8) (N := (some 17)) (v := ?_) (a' := ?_) #[true, true, true, true, true, true, true, true, true] rfl rfl (any_of HT_.out (by kernel_rfl)) (fun _ _ _ h => h) (Or.inl ⟨by rfl, ?_⟩) ?_ ?_
  rotate_left
  · intro w'
    go_simp
    first | done | with_reducible rfl
  rotate_left
  · simp only [Act.put, List.setIfInBounds_toArray, List.set_cons_zero, List.set_cons_succ, i64_w, i32_w]
    rfl
  refine done_ (done_of HT_.out (by kernel_rfl)) ?_
  have HP2 := Aside0.mk (HP1.out.step HB2.out)
  have HX2 := Aside0.mk (blk_below HX1.out HB2.out)
  clear HP1 HX1 HT_ HW_ hHeld HB2
  by_cases hn : nx = 0
  · subst hn
    go_wp2
    go_ret
    have e1 : ch = s := by rw [← HCH.out]; unfold rdChip; rw [HNX.out, if_pos rfl]
    have e2 : nw = [] := by rw [← HNE.out]; unfold rdNew; rw [HNX.out, if_pos rfl]
    subst e1 e2
    simp only [List.map_nil, List.append_nil]
    exact ⟨rfl, _, _, _, _, _, HP2.out⟩
  · have hn2 : (nx == 0) = false := beq_eq_false_iff_ne.2 hn
    have HC2 : Aside0 (ch = readS s b p) := ⟨by rw [← HCH.out]; unfold rdChip; rw [HNX.out, if_neg hn]⟩
    have HN2 : Aside0 (nw = if pe = 0 then [⟨pp, pq, pd⟩] else []) := ⟨by rw [← HNE.out]; unfold rdNew; rw [HNX.out, if_neg hn, HXE.out, HPE.out]⟩
    have HE : Aside0 (readE s b p = 0) := ⟨by unfold readE; rw [if_pos HS.out, if_neg (by rw [HD.out]; decide)]⟩
    clear hn
    go_upto_region 3 with fail
    clear hn2 hf1
    refine start_ (n := 11) (S := fun w' => w'.cell? ⟨q, 0, none⟩ = some (.pointer (some ⟨g, 0, none⟩)) ∧ w'.cell? ⟨bx, 0, none⟩ = some (.int .i64 b) ∧ w'.cell? ⟨bx, 1, none⟩ = some (.int .i64 p)) (ds := []) #[false, false, false, false, false, false, false, false, false, false, false] (by kernel_rfl) rfl rfl (rdHeld HP2.out HX2.out (below_drew (Below.refl _ _))) (fun hHeld => ?_)
    refine with_tabW reg_mreads_3.tab reg_mreads_3.bits (fun HT_ HW_ => ?_)
    refine pure_ (i := 0) (N := (some 19)) (v := ?_) (a' := ?_) #[true, false, false, false, false, false, false, false, false, false, false] rfl rfl (any_of HT_.out (by kernel_rfl)) (fun _ _ _ h => h) (Or.inl ⟨by rfl, ?_⟩) ?_ ?_
    rotate_left
    · intro w'
      go_simp
      first | done | with_reducible rfl
    rotate_left
    · simp only [Act.put, List.setIfInBounds_toArray, List.set_cons_zero, List.set_cons_succ, i64_w, i32_w]
      rfl
    refine pure_ (i := 1) (N := (some 20)) (v := ?_) (a' := ?_) #[true, true, false, false, false, false, false, false, false, false, false] rfl rfl (any_of HT_.out (by kernel_rfl)) (fun _ _ _ h => h) (Or.inl ⟨by rfl, ?_⟩) ?_ ?_
    rotate_left
    · intro w'
      go_simp
      first | done | with_reducible rfl
    rotate_left
    · simp only [Act.put, List.setIfInBounds_toArray, List.set_cons_zero, List.set_cons_succ, i64_w, i32_w]
      rfl
    refine pure_ (i := 2) (N := (some 21)) (v := ?_) (a' := ?_) #[true, true, true, false, false, false, false, false, false, false, false] rfl rfl (any_of HT_.out (by kernel_rfl)) (fun _ _ _ h => h) (Or.inl ⟨by rfl, ?_⟩) ?_ ?_
    rotate_left
    · intro w'
      go_simp
      first | done | with_reducible rfl
    rotate_left
    · simp only [Act.put, List.setIfInBounds_toArray, List.set_cons_zero, List.set_cons_succ, i64_w, i32_w]
      rfl
    refine take_ (i := 3) (N := (some 22)) (v := ?_) (a' := ?_) #[true, true, true, true, false, false, false, false, false, false, false] rfl rfl (take_ofW HT_.out HW_.out (by kernel_rfl)) (fun _ _ _ h => h) (Or.inl ⟨by rfl, ?_⟩) hHeld ?_ ?_
    rotate_left
    · rintro w' ⟨s0, s1, s2⟩
      go_simp
      first | done | with_reducible rfl
    rotate_left
    · simp only [Act.put, List.setIfInBounds_toArray, List.set_cons_zero, List.set_cons_succ, i64_w, i32_w]
      rfl
    refine take_ (i := 4) (N := (some 23)) (v := ?_) (a' := ?_) #[true, true, true, true, true, false, false, false, false, false, false] rfl rfl (take_ofW HT_.out HW_.out (by kernel_rfl)) (fun _ _ _ h => h) (Or.inl ⟨by rfl, ?_⟩) hHeld ?_ ?_
    rotate_left
    · rintro w' ⟨s0, s1, s2⟩
      go_simp
      first | done | with_reducible rfl
    rotate_left
    · simp only [Act.put, List.setIfInBounds_toArray, List.set_cons_zero, List.set_cons_succ, i64_w, i32_w]
      rfl
    refine one_ (i := 5) (N := (some 24)) #[true, true, true, true, true, true, false, false, false, false, false] rfl rfl (one_of HT_.out (by kernel_rfl)) (by decide) (fun K hK => ?_)
    refine goes_ Try.func54 (by kernel_rfl) rfl #[.pointer (some ⟨g, 0, none⟩), .agg #[.int .i64 b, .int .i64 p]] (by rfl) rfl rfl (by (try simp only [List.map_toArray, List.map_cons, List.map_nil]); first | done | rfl) ?_
    with_reducible refine (readH (HP2.out.drew.chip) b p HXL.out).mono ?_
    rintro ev_ w4 ⟨v4, rfl, hR4, hh4, hn4⟩
    refine ⟨_, rfl, ?_⟩
    rw [HE.out]
    obtain ⟨A4, n4, c4, rfl⟩ := R_shape hR4
    have HP4 := Aside0.mk (HP2.out.drew.next hh4 hn4)
    have HX4 : Aside0 (w4.heap[bx]? = some (.cells #[.int .i64 b, .int .i64 p] 40 (0, 0))) := ⟨(hn4.keep bx (blk_lt HX2.out) (fun hs => by have := HP2.out.lt1 _ hs; have := HBX.out; omega)).2.trans HX2.out⟩
    have HR4 := Aside0.mk hR4
    clear hR4 hh4 hn4
    refine hK.out _ _ (rdHeld HP4.out HX4.out (Below.refl _ _)) (fun hHeld => ?_)
    clear hK K
    refine norm_ (a' := ?_) ?_ ?_
    rotate_left
    · show Act.put _ (some 24) _ = _
      simp only [Act.put, List.setIfInBounds_toArray, List.set_cons_zero, List.set_cons_succ, i64_w, i32_w]
      rfl
    refine pure_ (i := 6) (N := (some 18)) (v := ?_) (a' := ?_) #[true, true, true, true, true, true, true, false, false, false, false] rfl rfl (any_of HT_.out (by kernel_rfl)) (fun _ _ _ h => h) (Or.inl ⟨by rfl, ?_⟩) ?_ ?_
    rotate_left
    · intro w'
      go_simp
      first | done | with_reducible rfl
    rotate_left
    · simp only [Act.put, List.setIfInBounds_toArray, List.set_cons_zero, List.set_cons_succ, i64_w, i32_w]
      rfl
    refine pure_ (i := 7) (N := (some 25)) (v := ?_) (a' := ?_) #[true, true, true, true, true, true, true, true, false, false, false] rfl rfl (any_of HT_.out (by kernel_rfl)) (fun _ _ _ h => h) (Or.inl ⟨by rfl, ?_⟩) ?_ ?_
    rotate_left
    · intro w'
      go_simp
      first | done | with_reducible rfl
    rotate_left
    · simp only [Act.put, List.setIfInBounds_toArray, List.set_cons_zero, List.set_cons_succ, i64_w, i32_w]
      rfl
    refine pure_ (i := 8) (N := (some 26)) (v := ?_) (a' := ?_) #[true, true, true, true, true, true, true, true, true, false, false] rfl rfl (any_of HT_.out (by kernel_rfl)) (fun _ _ _ h => h) (Or.inl ⟨by rfl, ?_⟩) ?_ ?_
    rotate_left
    · intro w'
      go_simp
      first | done | with_reducible rfl
    rotate_left
    · simp only [Act.put, List.setIfInBounds_toArray, List.set_cons_zero, List.set_cons_succ, i64_w, i32_w]
      rfl
    refine pure_ (i := 9) (N := (some 5)) (v := ?_) (a' := ?_) #[true, true, true, true, true, true, true, true, true, true, false] rfl rfl (any_of HT_.out (by kernel_rfl)) (fun _ _ _ h => h) (Or.inl ⟨by rfl, ?_⟩) ?_ ?_
    rotate_left
    · intro w'
      go_simp
      first | done | with_reducible rfl
    rotate_left
    · simp only [Act.put, List.setIfInBounds_toArray, List.set_cons_zero, List.set_cons_succ, i64_w, i32_w]
      rfl
    refine pure_ (i := 10) (N := (some 6)) (v := ?_) (a' := ?_) #[true, true, true, true, true, true, true, true, true, true, true] rfl rfl (any_of HT_.out (by kernel_rfl)) (fun _ _ _ h => h) (Or.inl ⟨by rfl, ?_⟩) ?_ ?_
    rotate_left
    · intro w'
      go_simp
      first | done | with_reducible rfl
    rotate_left
    · simp only [Act.put, List.setIfInBounds_toArray, List.set_cons_zero, List.set_cons_succ, i64_w, i32_w]
      rfl
    refine done_ (done_of HT_.out (by kernel_rfl)) ?_
    clear hHeld HT_ HW_
    go_wp2_with fail
    have hr4 := HR4.out
    rw [HXE.out] at hr4
    obtain ⟨A4', c4', e4, hc4, hC4⟩ := Kd.R_reads hr4
    cases e4
    have hcc := Parse.parse_walk A4 c4 xs w4 hC4 hc4 HF.out
    rw [HPE.out] at hcc
    have HCC := Aside0.mk hcc
    clear hc4 hC4 hcc hr4
    refine HCC.out.mono ?_
    rintro ev w5 ⟨v5, rfl, hR5, hb5⟩
    obtain ⟨A5, c5, rfl, -, -⟩ := Kd.R_reads hR5
    have HR5 := Aside0.mk (Kd.R_lower hR5 HP4.out.ge)
    have HP5 := Aside0.mk (HP4.out.step hb5)
    have HX5 := Aside0.mk (blk_below HX4.out hb5)
    clear hR5 hb5 HP4 HX4 HR4 HCC
    by_cases he : pe = 0
    · subst he
      go_upto_region 8 with fail
      obtain ⟨w6, hw6⟩ : ∃ w6, w5.alloc (.cells #[.int .i64 pp, .int .i64 pq, .slice A5 pd.length c5] 28) = w6 := ⟨_, rfl⟩
      obtain ⟨by_, hby⟩ : ∃ x, w5.heap.size = x := ⟨_, rfl⟩
      have HB6 : Aside0 (Below w5.heap.size w5 w6) := ⟨by rw [← hw6]; exact below_alloc (Below.refl _ _) _⟩
      have HP6 := Aside0.mk (HP5.out.step HB6.out)
      have HX6 := Aside0.mk (blk_below HX5.out HB6.out)
      have HY6 : Aside0 (w6.heap[by_]? = some (.cells #[.int .i64 pp, .int .i64 pq, .slice A5 pd.length c5] 28 (0, 0))) := ⟨by rw [← hw6, ← hby]; exact blk_new w5 _⟩
      have HR6 := Aside0.mk (Kd.R_below HR5.out HB6.out)
      have HNV : Aside0 (some by_ ≠ vh.ownBlock) := ⟨fun e => by
        obtain ⟨inner, ho⟩ := Kd.R_own HP5.out.h
        have := own_lt ho by_ e.symm
        omega⟩
      rw [hw6, hby]
      clear hw6 hby HB6 HP5 HX5 HR5
      refine start_ (n := 17) (S := fun w' => w'.cell? ⟨q, 2, none⟩ = some vf ∧ (w'.cell? ⟨bx, 0, none⟩ = some (.int .i64 b) ∧ w'.cell? ⟨bx, 1, none⟩ = some (.int .i64 p)) ∧ w'.cell? ⟨by_, 0, none⟩ = some (.int .i64 pp) ∧ w'.cell? ⟨by_, 1, none⟩ = some (.int .i64 pq)) (ds := [16]) #[false, false, false, false, false, false, false, false, false, false, false, false, false, false, false, false, false] (by kernel_rfl) rfl rfl (fdHeld HP6.out HX6.out HY6.out (below_drew (Below.refl _ _))) (fun hHeld => ?_)
      refine with_tabW reg_mreads_8.tab reg_mreads_8.bits (fun HT_ HW_ => ?_)
      obtain ⟨wd, hwd⟩ : ∃ wd, w6.drew = wd := ⟨_, rfl⟩
      have HPd : Aside0 (Pr w0 wd b0 b1 S g q (readS s b p) A c vf vf vh vh sp fs shs) := ⟨by rw [← hwd]; exact HP6.out.drew⟩
      have HXd : Aside0 (wd.heap[bx]? = some (.cells #[.int .i64 b, .int .i64 p] 40 (0, 0))) := ⟨by rw [← hwd]; exact HX6.out⟩
      have HYd : Aside0 (wd.heap[by_]? = some (.cells #[.int .i64 pp, .int .i64 pq, .slice A5 pd.length c5] 28 (0, 0))) := ⟨by rw [← hwd]; exact HY6.out⟩
      have HRd : Aside0 (Kd.R (Kd.int .u8) 5 wd b1 (fun _ => True) (.slice A5 pd.length c5) pd) := ⟨by rw [← hwd]; exact Kd.R_below HR6.out (below_drew (Below.refl _ _))⟩
      rw [hwd] at hHeld ⊢
      clear hwd HP6 HX6 HY6 HR6
      refine pure_ (i := 0) (N := (some 37)) (v := ?_) (a' := ?_) #[true, false, false, false, false, false, false, false, false, false, false, false, false, false, false, false, false] rfl rfl (any_of HT_.out (by kernel_rfl)) (fun _ _ _ h => h) (Or.inl ⟨by rfl, ?_⟩) ?_ ?_
      rotate_left
      · intro w'
        go_simp
        first | done | with_reducible rfl
      rotate_left
      · simp only [Act.put, List.setIfInBounds_toArray, List.set_cons_zero, List.set_cons_succ, i64_w, i32_w]
        rfl
      refine pure_ (i := 1) (N := (some 38)) (v := ?_) (a' := ?_) #[true, true, false, false, false, false, false, false, false, false, false, false, false, false, false, false, false] rfl rfl (any_of HT_.out (by kernel_rfl)) (fun _ _ _ h => h) (Or.inl ⟨by rfl, ?_⟩) ?_ ?_
      rotate_left
      · intro w'
        go_simp
        first | done | with_reducible rfl
      rotate_left
      · simp only [Act.put, List.setIfInBounds_toArray, List.set_cons_zero, List.set_cons_succ, i64_w, i32_w]
        rfl
      refine pure_ (i := 2) (N := (some 39)) (v := ?_) (a' := ?_) #[true, true, true, false, false, false, false, false, false, false, false, false, false, false, false, false, false] rfl rfl (any_of HT_.out (by kernel_rfl)) (fun _ _ _ h => h) (Or.inl ⟨by rfl, ?_⟩) ?_ ?_
      rotate_left
      · intro w'
        go_simp
        first | done | with_reducible rfl
      rotate_left
      · simp only [Act.put, List.setIfInBounds_toArray, List.set_cons_zero, List.set_cons_succ, i64_w, i32_w]
        rfl
      refine pure_ (i := 3) (N := (some 40)) (v := ?_) (a' := ?_) #[true, true, true, true, false, false, false, false, false, false, false, false, false, false, false, false, false] rfl rfl (any_of HT_.out (by kernel_rfl)) (fun _ _ _ h => h) (Or.inl ⟨by rfl, ?_⟩) ?_ ?_
      rotate_left
      · intro w'
        go_simp
        first | done | with_reducible rfl
      rotate_left
      · simp only [Act.put, List.setIfInBounds_toArray, List.set_cons_zero, List.set_cons_succ, i64_w, i32_w]
        rfl
      refine take_ (i := 4) (N := (some 41)) (v := ?_) (a' := ?_) #[true, true, true, true, true, false, false, false, false, false, false, false, false, false, false, false, false] rfl rfl (take_ofW HT_.out HW_.out (by kernel_rfl)) (fun _ _ _ h => h) (Or.inl ⟨by rfl, ?_⟩) hHeld ?_ ?_
      rotate_left
      · rintro w' ⟨s0, ⟨s1, s2⟩, s3, s4⟩
        go_simp
        first | done | with_reducible rfl
      rotate_left
      · simp only [Act.put, List.setIfInBounds_toArray, List.set_cons_zero, List.set_cons_succ, i64_w, i32_w]
        rfl
      refine pure_ (i := 5) (N := (some 42)) (v := ?_) (a' := ?_) #[true, true, true, true, true, true, false, false, false, false, false, false, false, false, false, false, false] rfl rfl (any_of HT_.out (by kernel_rfl)) (fun _ _ _ h => h) (Or.inl ⟨by rfl, ?_⟩) ?_ ?_
      rotate_left
      · intro w'
        go_simp
        first | done | with_reducible rfl
      rotate_left
      · simp only [Act.put, List.setIfInBounds_toArray, List.set_cons_zero, List.set_cons_succ, i64_w, i32_w]
        rfl
      refine take_ (i := 6) (N := (some 43)) (v := ?_) (a' := ?_) #[true, true, true, true, true, true, true, false, false, false, false, false, false, false, false, false, false] rfl rfl (take_ofW HT_.out HW_.out (by kernel_rfl)) (fun _ _ _ h => h) (Or.inl ⟨by rfl, ?_⟩) hHeld ?_ ?_
      rotate_left
      · rintro w' ⟨s0, ⟨s1, s2⟩, s3, s4⟩
        go_simp
        first | done | with_reducible rfl
      rotate_left
      · simp only [Act.put, List.setIfInBounds_toArray, List.set_cons_zero, List.set_cons_succ, i64_w, i32_w]
        rfl
      refine pure_ (i := 7) (N := (some 44)) (v := ?_) (a' := ?_) #[true, true, true, true, true, true, true, true, false, false, false, false, false, false, false, false, false] rfl rfl (any_of HT_.out (by kernel_rfl)) (fun _ _ _ h => h) (Or.inl ⟨by rfl, ?_⟩) ?_ ?_
      rotate_left
      · intro w'
        go_simp
        first | done | with_reducible rfl
      rotate_left
      · simp only [Act.put, List.setIfInBounds_toArray, List.set_cons_zero, List.set_cons_succ, i64_w, i32_w]
        rfl
      refine take_ (i := 8) (N := (some 45)) (v := ?_) (a' := ?_) #[true, true, true, true, true, true, true, true, true, false, false, false, false, false, false, false, false] rfl rfl (take_ofW HT_.out HW_.out (by kernel_rfl)) (fun _ _ _ h => h) (Or.inl ⟨by rfl, ?_⟩) hHeld ?_ ?_
      rotate_left
      · rintro w' ⟨s0, ⟨s1, s2⟩, s3, s4⟩
        go_simp
        first | done | with_reducible rfl
      rotate_left
      · simp only [Act.put, List.setIfInBounds_toArray, List.set_cons_zero, List.set_cons_succ, i64_w, i32_w]
        rfl
      refine pure_ (i := 9) (N := (some 46)) (v := ?_) (a' := ?_) #[true, true, true, true, true, true, true, true, true, true, false, false, false, false, false, false, false] rfl rfl (any_of HT_.out (by kernel_rfl)) (fun _ _ _ h => h) (Or.inl ⟨by rfl, ?_⟩) ?_ ?_
      rotate_left
      · intro w'
        go_simp
        first | done | with_reducible rfl
      rotate_left
      · simp only [Act.put, List.setIfInBounds_toArray, List.set_cons_zero, List.set_cons_succ, i64_w, i32_w]
        rfl
      refine take_ (i := 10) (N := (some 47)) (v := ?_) (a' := ?_) #[true, true, true, true, true, true, true, true, true, true, true, false, false, false, false, false, false] rfl rfl (take_ofW HT_.out HW_.out (by kernel_rfl)) (fun _ _ _ h => h) (Or.inl ⟨by rfl, ?_⟩) hHeld ?_ ?_
      rotate_left
      · rintro w' ⟨s0, ⟨s1, s2⟩, s3, s4⟩
        go_simp
        first | done | with_reducible rfl
      rotate_left
      · simp only [Act.put, List.setIfInBounds_toArray, List.set_cons_zero, List.set_cons_succ, i64_w, i32_w]
        rfl
      refine pure_ (i := 11) (N := (some 48)) (v := ?_) (a' := ?_) #[true, true, true, true, true, true, true, true, true, true, true, true, false, false, false, false, false] rfl rfl (any_of HT_.out (by kernel_rfl)) (fun _ _ _ h => h) (Or.inl ⟨by rfl, ?_⟩) ?_ ?_
      rotate_left
      · intro w'
        go_simp
        first | done | with_reducible rfl
      rotate_left
      · simp only [Act.put, List.setIfInBounds_toArray, List.set_cons_zero, List.set_cons_succ, i64_w, i32_w]
        rfl
      refine one_ (i := 12) (N := (some 49)) #[true, true, true, true, true, true, true, true, true, true, true, true, true, false, false, false, false] rfl rfl (one_of HT_.out (by kernel_rfl)) (by decide) (fun K hK => ?_)
      go_simp
      refine hK.out _ _ (fdHeld HPd.out HXd.out HYd.out (below_alloc (Below.refl _ _) _)) (fun hHeld => ?_)
      clear hK K
      refine one_ (i := 13) (N := (some 50)) #[true, true, true, true, true, true, true, true, true, true, true, true, true, true, false, false, false] rfl rfl (one_of HT_.out (by kernel_rfl)) (by decide) (fun K hK => ?_)
      refine Kd.R_append_step kFD (w0 := wd) (W := wd) b1 (by rfl) (.tmp 41) (.tmp 49) 45 49 (.agg #[.int .i64 0, .int .i64 0, .int .i64 0, .int .i64 0]) 32 rfl Try.underlying45 infoF rfl (by decide) (by decide) vf fs ⟨pp, pq, b, p⟩ [.int .i64 pp, .int .i64 pq, .int .i64 b, .int .i64 p] (fun _ => True) (fun _ => False) rfl rfl (kFD_mkM _ _ _ _) (fun _ hk => hk.elim) (fun _ _ => trivial) HPd.out.f (Below.refl _ _) HPd.out.ge (by have := HL.out.1; omega) ?_
      intro v7 w7 hR7 hb7 hg7 hat7
      obtain ⟨A7, n7, c7, rfl⟩ := R_shapeA hR7
      have HP7 := Aside0.mk (HPd.out.grownF hg7 hb7 hR7)
      have HX7 := Aside0.mk (HPd.out.keepF hg7 HXd.out (by decide))
      have HY7 := Aside0.mk (HPd.out.keepF hg7 HYd.out (by decide))
      have HR7 : Aside0 (Kd.R (Kd.int .u8) 5 w7 b1 (fun _ => True) (.slice A5 pd.length c5) pd) := ⟨Kd.R_mono (Kd.R_step (Kd.R_bound HRd.out) (fun k hk hlt => hg7.block k hlt (fun e => by obtain ⟨_, _, _, t, ht, cells, hc⟩ := hk; exact Kd.R_ne HPd.out.f hc (by rcases List.mem_cons.1 ht with rfl | ht; decide; cases ht) e))) (fun _ _ => trivial)⟩
      clear hR7 hb7 hg7 hat7
      refine hK.out _ _ (fdHeld HP7.out HX7.out HY7.out (Below.refl _ _)) (fun hHeld => ?_)
      clear hK K
      refine norm_ (a' := ?_) ?_ ?_
      rotate_left
      · show Act.put _ (some 50) _ = _
        simp only [Act.put, List.setIfInBounds_toArray, List.set_cons_zero, List.set_cons_succ, i64_w, i32_w]
        rfl
      refine pure_ (i := 14) (N := (some 51)) (v := ?_) (a' := ?_) #[true, true, true, true, true, true, true, true, true, true, true, true, true, true, true, false, false] rfl rfl (any_of HT_.out (by kernel_rfl)) (fun _ _ _ h => h) (Or.inl ⟨by rfl, ?_⟩) ?_ ?_
      rotate_left
      · intro w'
        go_simp
        first | done | with_reducible rfl
      rotate_left
      · simp only [Act.put, List.setIfInBounds_toArray, List.set_cons_zero, List.set_cons_succ, i64_w, i32_w]
        rfl
      refine pure_ (i := 15) (N := (some 52)) (v := ?_) (a' := ?_) #[true, true, true, true, true, true, true, true, true, true, true, true, true, true, true, true, false] rfl rfl (any_of HT_.out (by kernel_rfl)) (fun _ _ _ h => h) (Or.inl ⟨by rfl, ?_⟩) ?_ ?_
      rotate_left
      · intro w'
        go_simp
        first | done | with_reducible rfl
      rotate_left
      · simp only [Act.put, List.setIfInBounds_toArray, List.set_cons_zero, List.set_cons_succ, i64_w, i32_w]
        rfl
      refine last_ (i := 16) (N := none) #[true, true, true, true, true, true, true, true, true, true, true, true, true, true, true, true, true] rfl rfl (one_of HT_.out (by kernel_rfl)) (by decide) (fun K hK => ?_)
      have cG := HP7.out.cells.2.2.1
      have fG : w7.frozen? ⟨q, 2, none⟩ = false := blk_frozen HP7.out.box 2
      go_simp
      clear cG fG
      obtain ⟨w8, hw8⟩ : ∃ w8, w7.setCell ⟨q, 2, none⟩ (.slice A7 n7 c7) = w8 := ⟨_, rfl⟩
      have HP8 : Aside0 (Pr w0 w8 b0 b1 S g q (readS s b p) A c (.slice A7 n7 c7) (.slice A7 n7 c7) vh vh sp (fs ++ [⟨pp, pq, b, p⟩]) shs) := ⟨by rw [← hw8]; exact HP7.out.setBox 2 _ rfl HP7.out.spots⟩
      have HY8 : Aside0 (w8.heap[by_]? = some (.cells #[.int .i64 pp, .int .i64 pq, .slice A5 pd.length c5] 28 (0, 0))) := ⟨by rw [← hw8]; exact blk_far HY7.out (p := ⟨q, 2, none⟩) (type_ne HY7.out HP7.out.box (by decide)) _⟩
      have HR8 : Aside0 (Kd.R (Kd.int .u8) 5 w8 b1 (fun _ => True) (.slice A5 pd.length c5) pd) := ⟨by rw [← hw8]; exact Kd.R_set HR7.out HP7.out.box (u8_ne _ (by decide)) 2 _⟩
      rw [hw8]
      clear hw8 HP7 HX7 HY7 HR7 HPd HXd HYd HRd
      refine hK.out _ _ ?_
      clear hK K
      refine done_ (done_of HT_.out (by kernel_rfl)) ?_
      clear hHeld HT_ HW_
      go_upto_region 9 with fail
      refine start_ (n := 11) (S := fun w' => w'.cell? ⟨q, 3, none⟩ = some vh ∧ (w'.cell? ⟨by_, 0, none⟩ = some (.int .i64 pp) ∧ w'.cell? ⟨by_, 1, none⟩ = some (.int .i64 pq) ∧ w'.cell? ⟨by_, 2, none⟩ = some (.slice A5 pd.length c5))) (ds := [10]) #[false, false, false, false, false, false, false, false, false, false, false] (by kernel_rfl) rfl rfl (shHeld HP8.out HY8.out (below_drew (Below.refl _ _))) (fun hHeld => ?_)
      refine with_tabW reg_mreads_9.tab reg_mreads_9.bits (fun HT_ HW_ => ?_)
      obtain ⟨we, hwe⟩ : ∃ wd, w8.drew = wd := ⟨_, rfl⟩
      have HPe : Aside0 (Pr w0 we b0 b1 S g q (readS s b p) A c (.slice A7 n7 c7) (.slice A7 n7 c7) vh vh sp (fs ++ [⟨pp, pq, b, p⟩]) shs) := ⟨by rw [← hwe]; exact HP8.out.drew⟩
      have HYe : Aside0 (we.heap[by_]? = some (.cells #[.int .i64 pp, .int .i64 pq, .slice A5 pd.length c5] 28 (0, 0))) := ⟨by rw [← hwe]; exact HY8.out⟩
      have HRe : Aside0 (Kd.R (Kd.int .u8) 5 we b1 (fun _ => True) (.slice A5 pd.length c5) pd) := ⟨by rw [← hwe]; exact Kd.R_below HR8.out (below_drew (Below.refl _ _))⟩
      rw [hwe] at hHeld ⊢
      clear hwe HP8 HY8 HR8
      refine pure_ (i := 0) (N := (some 53)) (v := ?_) (a' := ?_) #[true, false, false, false, false, false, false, false, false, false, false] rfl rfl (any_of HT_.out (by kernel_rfl)) (fun _ _ _ h => h) (Or.inl ⟨by rfl, ?_⟩) ?_ ?_
      rotate_left
      · intro w'
        go_simp
        first | done | with_reducible rfl
      rotate_left
      · simp only [Act.put, List.setIfInBounds_toArray, List.set_cons_zero, List.set_cons_succ, i64_w, i32_w]
        rfl
      refine pure_ (i := 1) (N := (some 54)) (v := ?_) (a' := ?_) #[true, true, false, false, false, false, false, false, false, false, false] rfl rfl (any_of HT_.out (by kernel_rfl)) (fun _ _ _ h => h) (Or.inl ⟨by rfl, ?_⟩) ?_ ?_
      rotate_left
      · intro w'
        go_simp
        first | done | with_reducible rfl
      rotate_left
      · simp only [Act.put, List.setIfInBounds_toArray, List.set_cons_zero, List.set_cons_succ, i64_w, i32_w]
        rfl
      refine pure_ (i := 2) (N := (some 55)) (v := ?_) (a' := ?_) #[true, true, true, false, false, false, false, false, false, false, false] rfl rfl (any_of HT_.out (by kernel_rfl)) (fun _ _ _ h => h) (Or.inl ⟨by rfl, ?_⟩) ?_ ?_
      rotate_left
      · intro w'
        go_simp
        first | done | with_reducible rfl
      rotate_left
      · simp only [Act.put, List.setIfInBounds_toArray, List.set_cons_zero, List.set_cons_succ, i64_w, i32_w]
        rfl
      refine pure_ (i := 3) (N := (some 56)) (v := ?_) (a' := ?_) #[true, true, true, true, false, false, false, false, false, false, false] rfl rfl (any_of HT_.out (by kernel_rfl)) (fun _ _ _ h => h) (Or.inl ⟨by rfl, ?_⟩) ?_ ?_
      rotate_left
      · intro w'
        go_simp
        first | done | with_reducible rfl
      rotate_left
      · simp only [Act.put, List.setIfInBounds_toArray, List.set_cons_zero, List.set_cons_succ, i64_w, i32_w]
        rfl
      refine take_ (i := 4) (N := (some 57)) (v := ?_) (a' := ?_) #[true, true, true, true, true, false, false, false, false, false, false] rfl rfl (take_ofW HT_.out HW_.out (by kernel_rfl)) (fun _ _ _ h => h) (Or.inl ⟨by rfl, ?_⟩) hHeld ?_ ?_
      rotate_left
      · rintro w' ⟨s0, s1, s2, s3⟩
        go_simp
        first | done | with_reducible rfl
      rotate_left
      · simp only [Act.put, List.setIfInBounds_toArray, List.set_cons_zero, List.set_cons_succ, i64_w, i32_w]
        rfl
      refine take_ (i := 5) (N := (some 58)) (v := ?_) (a' := ?_) #[true, true, true, true, true, true, false, false, false, false, false] rfl rfl (take_ofW HT_.out HW_.out (by kernel_rfl)) (fun _ _ _ h => h) (Or.inl ⟨by rfl, ?_⟩) hHeld ?_ ?_
      rotate_left
      · rintro w' ⟨s0, s1, s2, s3⟩
        go_simp
        first | done | with_reducible rfl
      rotate_left
      · simp only [Act.put, List.setIfInBounds_toArray, List.set_cons_zero, List.set_cons_succ, i64_w, i32_w]
        rfl
      refine one_ (i := 6) (N := (some 59)) #[true, true, true, true, true, true, true, false, false, false, false] rfl rfl (one_of HT_.out (by kernel_rfl)) (by decide) (fun K hK => ?_)
      go_simp
      refine hK.out _ _ (shHeld HPe.out HYe.out (below_alloc (Below.refl _ _) _)) (fun hHeld => ?_)
      clear hK K
      refine one_ (i := 7) (N := (some 60)) #[true, true, true, true, true, true, true, true, false, false, false] rfl rfl (one_of HT_.out (by kernel_rfl)) (by decide) (fun K hK => ?_)
      refine Kd.R_append_step k28 (w0 := we) (W := we) b1 (by rfl) (.tmp 57) (.tmp 59) 22 28 (.agg #[.int .i64 0, .int .i64 0, .slice none 0 0]) 40 rfl Try.underlying22 infoSH rfl (by decide) (by decide) vh shs ⟨pp, pq, pd⟩ [.int .i64 pp, .int .i64 pq, .slice A5 pd.length c5] (fun _ => True) (fun k => some k ≠ vh.ownBlock) rfl rfl (k28_mkM _ _ _ ⟨pp, pq, pd⟩ (Kd.R_mono (Kd.R_bound HRe.out) (fun k hk e => by obtain ⟨_, _, _, t, ht, cells, hc⟩ := hk; exact Kd.R_ne HPe.out.h hc (by rcases List.mem_cons.1 ht with rfl | ht; decide; cases ht) e))) (fun _ hk => ⟨trivial, hk⟩) (fun _ _ => trivial) HPe.out.h (Below.refl _ _) HPe.out.ge (by have := HL.out.2; omega) ?_
      intro vb wb hRb hbb hgb hatb
      obtain ⟨Ab, nb, cb, rfl⟩ := R_shapeA hRb
      have HPb := Aside0.mk (HPe.out.grownH hgb hbb hRb)
      have HYb : Aside0 (wb.cell? ⟨by_, 0, none⟩ = some (.int .i64 pp) ∧ wb.cell? ⟨by_, 1, none⟩ = some (.int .i64 pq) ∧ wb.cell? ⟨by_, 2, none⟩ = some (.slice A5 pd.length c5)) := ⟨by have hy := (hgb.block by_ (blk_lt HYe.out) HNV.out).trans HYe.out; exact ⟨(blk_cell hy 0).trans rfl, (blk_cell hy 1).trans rfl, (blk_cell hy 2).trans rfl⟩⟩
      clear hRb hbb hgb hatb
      refine hK.out _ _ ⟨HPb.out.cells.2.2.2, HYb.out⟩ (fun hHeld => ?_)
      clear hK K
      refine norm_ (a' := ?_) ?_ ?_
      rotate_left
      · show Act.put _ (some 60) _ = _
        simp only [Act.put, List.setIfInBounds_toArray, List.set_cons_zero, List.set_cons_succ, i64_w, i32_w]
        rfl
      refine pure_ (i := 8) (N := (some 61)) (v := ?_) (a' := ?_) #[true, true, true, true, true, true, true, true, true, false, false] rfl rfl (any_of HT_.out (by kernel_rfl)) (fun _ _ _ h => h) (Or.inl ⟨by rfl, ?_⟩) ?_ ?_
      rotate_left
      · intro w'
        go_simp
        first | done | with_reducible rfl
      rotate_left
      · simp only [Act.put, List.setIfInBounds_toArray, List.set_cons_zero, List.set_cons_succ, i64_w, i32_w]
        rfl
      refine pure_ (i := 9) (N := (some 62)) (v := ?_) (a' := ?_) #[true, true, true, true, true, true, true, true, true, true, false] rfl rfl (any_of HT_.out (by kernel_rfl)) (fun _ _ _ h => h) (Or.inl ⟨by rfl, ?_⟩) ?_ ?_
      rotate_left
      · intro w'
        go_simp
        first | done | with_reducible rfl
      rotate_left
      · simp only [Act.put, List.setIfInBounds_toArray, List.set_cons_zero, List.set_cons_succ, i64_w, i32_w]
        rfl
      refine last_ (i := 10) (N := none) #[true, true, true, true, true, true, true, true, true, true, true] rfl rfl (one_of HT_.out (by kernel_rfl)) (by decide) (fun K hK => ?_)
      have cG := HPb.out.cells.2.2.2
      have fG : wb.frozen? ⟨q, 3, none⟩ = false := blk_frozen HPb.out.box 3
      go_simp
      clear cG fG
      obtain ⟨wc, hwc⟩ : ∃ wc, wb.setCell ⟨q, 3, none⟩ (.slice Ab nb cb) = wc := ⟨_, rfl⟩
      have HPc : Aside0 (Pr w0 wc b0 b1 S g q (readS s b p) A c (.slice A7 n7 c7) (.slice A7 n7 c7) (.slice Ab nb cb) (.slice Ab nb cb) sp (fs ++ [⟨pp, pq, b, p⟩]) (shs ++ [⟨pp, pq, pd⟩])) := ⟨by rw [← hwc]; exact HPb.out.setBox 3 _ rfl HPb.out.spots⟩
      rw [hwc]
      clear hwc HPb HYb HPe HYe HRe
      refine hK.out _ _ ?_
      clear hK K
      refine done_ (done_of HT_.out (by kernel_rfl)) ?_
      clear hHeld HT_ HW_
      go_wp2
      go_ret
      have e1 := HC2.out
      have e2 : nw = [⟨pp, pq, pd⟩] := by rw [HN2.out]; simp
      subst e1 e2
      exact ⟨rfl, _, _, _, _, _, HPc.out⟩
    · have hn3 : (pe == 0) = false := beq_eq_false_iff_ne.2 he
      have HE0 := Aside0.mk he
      clear he
      go_wp2
      go_ret
      have e1 := HC2.out
      have e2 : nw = [] := by rw [HN2.out, if_neg HE0.out]
      subst e1 e2
      simp only [List.map_nil, List.append_nil]
      exact ⟨rfl, _, _, _, _, _, HP5.out.alloc _⟩
end Go.Proofs.Ytkncmbbkehnagaa.Cm

set_option linter.unusedVariables false
set_option linter.unusedSimpArgs false
/-! Step. -/
namespace Go.Proofs.Ytkncmbbkehnagaa.Cm
open Go.RowKit Go.Proofs.YtkncmbbkehnagaaW.PrintWords Go.Proofs.YtkncmbbkehnagaaW.PrintLast Go.Proofs.YtkncmbbkehnagaaW.PrintMore Go.Proofs.Ytkncmbbkehnagaa.Kp Go.Proofs.Ytkncmbbkehnagaa.Cp Go.Proofs.Ytkncmbbkehnagaa.PAll Go.Proofs.Ytkncmbbkehnagaa.Iter Go.Proofs.Ytkncmbbkehnagaa.St Go.Proofs.Ytkncmbbkehnagaa.Sp
attribute [local go_sem] max2_int min2_int max_two min_two max_three min_three max_four min_four

/-- Pages are read, one after the other. -/
def scanS (s : Chp) (l : List Sp2) : Chp := l.foldl (fun s x => rdChip s x.1 x.2) s
def scanN (s : Chp) (l : List Sp2) : List S28 := l.flatMap (fun x => rdNew s x.1 x.2)
def scanF (s : Chp) (l : List Sp2) : List FD := l.flatMap (fun x => (rdNew s x.1 x.2).map (asF x.1 x.2))
theorem rdChip_same (s : Chp) (b p : Int) : ∃ r, rdChip s b p = { s with br := r } := by
  unfold rdChip
  split
  · exact ⟨s.br, rfl⟩
  · unfold readS
    split
    · exact ⟨_, rfl⟩
    · exact ⟨s.br, rfl⟩
theorem scanS_same : ∀ (l : List Sp2) (s : Chp), ∃ r, scanS s l = { s with br := r }
  | [], s => ⟨s.br, rfl⟩
  | x :: l, s => by
    obtain ⟨r, hr⟩ := rdChip_same s x.1 x.2
    obtain ⟨r', hr'⟩ := scanS_same l (rdChip s x.1 x.2)
    refine ⟨r', ?_⟩
    have e : scanS s (x :: l) = scanS (rdChip s x.1 x.2) l := rfl
    rw [e, hr', hr]
theorem scanS_snoc (s : Chp) (l : List Sp2) (x : Sp2) : scanS s (l ++ [x]) = rdChip (scanS s l) x.1 x.2 := by
  unfold scanS
  rw [List.foldl_append]
  rfl
theorem scanN_snoc (s : Chp) (l : List Sp2) (x : Sp2) : scanN s (l ++ [x]) = scanN s l ++ rdNew s x.1 x.2 := by
  unfold scanN
  rw [List.flatMap_append]
  simp
theorem scanF_snoc (s : Chp) (l : List Sp2) (x : Sp2) : scanF s (l ++ [x]) = scanF s l ++ (rdNew s x.1 x.2).map (asF x.1 x.2) := by
  unfold scanF
  rw [List.flatMap_append]
  simp
theorem take_snoc2 {α : Type} (l : List α) (k : Nat) (x : α) (h : l[k]? = some x) : l.take (k + 1) = l.take k ++ [x] := by
  obtain ⟨hl, rfl⟩ := List.getElem?_eq_some_iff.1 h
  exact List.take_succ_eq_append_getElem hl
theorem drop_cons2 {α : Type} (l : List α) (k : Nat) (x : α) (h : l[k]? = some x) : l.drop k = x :: l.drop (k + 1) := by
  obtain ⟨hl, rfl⟩ := List.getElem?_eq_some_iff.1 h
  exact List.drop_eq_getElem_cons hl
theorem add_at (r o k : Nat) : (⟨r, o, none⟩ : Addr).add k = ⟨r, o + k, none⟩ := by
  unfold Addr.add
  split
  · rename_i h; rw [h, Nat.add_zero]
  · rfl
theorem SpAt.tail {b1 : Nat} {A : Option Addr} {c : Nat} {x : Sp2} {sp : List Sp2} (n : Nat) (hn : sp.length + 1 = n) (hc : n ≤ c) :
    ∃ A' c', (∀ W : World, (Instr.slice 85 (.slice A n c) (some (.int .i64 1)) none none).run Try.prog W = .ok (.slice A' sp.length c') W) ∧ ∀ W', SpAt W' b1 A c (x :: sp) → SpAt W' b1 A' c' sp := by
  obtain ⟨i5, hi5, hz5, hs5, hb5⟩ := info_parts infoSP
  have hcut := cut_from (P := Try.prog) 85 40 .i64 Try.underlying85 hi5 2 hs5 A n c 1 (by omega) (by omega)
  have e1 : n - (1 : Int).toNat = sp.length := by have : (1 : Int).toNat = 1 := rfl; omega
  rw [e1] at hcut
  refine ⟨_, _, hcut, fun W' h => ?_⟩
  have e2 : (1 : Int).toNat = 1 := rfl
  rw [e2]
  refine ⟨by omega, ?_⟩
  by_cases hc1 : c = 1
  · exact .inl (List.eq_nil_of_length_eq_zero (by omega))
  · rw [if_neg hc1]
    rcases h.2 with h2 | ⟨r, o, cs, rfl, hr, hh, hx⟩
    · cases h2
    · refine .inr ⟨r, o + 1 * 2, cs, by rw [Option.map_some, add_at], hr, hh, fun j y hj => ?_⟩
      have := hx (j + 1) y (by simpa using hj)
      rw [show o + 1 * 2 + j * 2 = o + (j + 1) * 2 by omega]
      exact this
/-- The first that is left. -/
theorem SpAt.head {W : World} {b1 : Nat} {A : Option Addr} {c : Nat} {x : Sp2} {sp : List Sp2} (h : SpAt W b1 A c (x :: sp)) : ∃ r o, A = some ⟨r, o, none⟩ ∧ W.cell? ⟨r, o, none⟩ = some (.int .i64 x.1) ∧ W.cell? ⟨r, o + 1, none⟩ = some (.int .i64 x.2) := by
  rcases h.2 with h2 | ⟨r, o, cs, rfl, hr, hh, hx⟩
  · cases h2
  · obtain ⟨h1, h2⟩ := hx 0 x rfl
    exact ⟨r, o, rfl, (blk_cell hh o).trans (by simpa using h1), (blk_cell hh (o + 1)).trans (by simpa using h2)⟩
/-- What a step wants of the chip. -/
structure Rdy (s : Chp) (sp : List Sp2) : Prop where
  down : s.down = false
  spot : ∀ x ∈ sp, spotB s x.1 x.2 = true
  pages : ∀ x ∈ sp, (∀ xs ∈ (blockB s x.1).pages, xs.length ≤ 100000) ∧ Fine (readX s x.1 x.2) ∧ (readX s x.1 x.2).length ≤ 100000
theorem rdNew_le (s : Chp) (b p : Int) : (rdNew s b p).length ≤ 1 := by
  unfold rdNew
  split
  · simp
  · split <;> simp
theorem scanN_le (s : Chp) (l : List Sp2) : (scanN s l).length ≤ l.length := by
  induction l with
  | nil => simp [scanN]
  | cons x l ih =>
    have := rdNew_le s x.1 x.2
    have e : scanN s (x :: l) = rdNew s x.1 x.2 ++ scanN s l := rfl
    rw [e, List.length_append, List.length_cons]
    omega
theorem scanF_le (s : Chp) (l : List Sp2) : (scanF s l).length ≤ l.length := by
  induction l with
  | nil => simp [scanF]
  | cons x l ih =>
    have := rdNew_le s x.1 x.2
    have e : scanF s (x :: l) = (rdNew s x.1 x.2).map (asF x.1 x.2) ++ scanF s l := rfl
    rw [e, List.length_append, List.length_cons, List.length_map]
    omega
set_option maxHeartbeats 4000000 in
set_option maxRecDepth 100000 in
theorem mstep {w0 w : World} {b0 : Nat} {S : Nat → Prop} {g q : Nat} {s : Chp} {sp : List Sp2} {fs : List FD} {shs : List S28} (h : Sc w0 w b0 S g q s sp fs shs) (n : Int) (hn : 1 ≤ n) (hr : Rdy s sp) (hl : fs.length + sp.length ≤ 100000) (hl2 : shs.length + sp.length ≤ 100000) (m : Nat) (hm : (m : Int) = if (sp.length : Int) < n then (sp.length : Int) else n) :
    Calls Try.prog 15 #[.pointer (some ⟨q, 0, none⟩), .int .i64 n] w fun e w' => e = .returned (.tuple #[.bool (decide (sp.length ≤ m)), .int .i64 0]) ∧ Sc w0 w' b0 S g q (scanS s (sp.take m)) (sp.drop m) (fs ++ scanF s (sp.take m)) (shs ++ scanN s (sp.take m)) := by
  obtain ⟨b1, A, c, vf, vh, hP⟩ := h
  have hmn : m ≤ sp.length := by
    split at hm <;> omega
  obtain ⟨c0, c1, -, -⟩ := hP.cells
  have hdn := down hP.chip.chip
  rw [hr.down] at hdn
  have d1 : decide (n < 1) = false := decide_eq_false (by omega)
  have hlen : 0 ≤ (sp.length : Int) := by omega
  have HR := Aside0.mk hr
  have HL := Aside0.mk (And.intro hl hl2)
  have HM := Aside0.mk hmn
  have HSc0 : Aside0 (Sc w0 w b0 S g q s sp fs shs) := ⟨⟨_, _, _, _, _, hP⟩⟩
  have hm2 := hm.symm
  have HM2 := Aside0.mk hm2
  obtain ⟨N, hN⟩ : ∃ N, sp.length = N := ⟨_, rfl⟩
  have HNN := Aside0.mk hN
  rw [hN] at c1 hm2 hlen ⊢
  clear hn hr hl hl2 hP hm hmn hN
  go_enter Try.func15, Try.ntmps15
  go_wp2_with fail
  refine hdn.mono ?_
  rintro ev w1 ⟨rfl, rfl⟩
  clear hdn
  go_wp2_with fail
  clear c0 c1 hlen hm2 d1
  go_loopw [27] (fun v27 wr => ∃ k : Nat, k ≤ m ∧ v27 = .int .i64 (k : Int) ∧ Aside0 (Sc w0 wr b0 S g q (scanS s (sp.take k)) (sp.drop k) (fs ++ scanF s (sp.take k)) (shs ++ scanN s (sp.take k)))) (fun v27 _ => m - (intOf v27).toNat)
  case atStart => exact ⟨0, Nat.zero_le _, rfl, ⟨by simpa [scanS, scanF, scanN] using HSc0.out⟩⟩
  case round =>
    clear HSc0
    obtain ⟨k, hk, rfl, HSc⟩ := hrel
    by_cases hlt : k < m
    · have hlt2 : (k : Int) < (m : Int) := by omega
      have HLT := Aside0.mk hlt
      have hw3 : wrap64 ((k : Int) + 1) = ((k + 1 : Nat) : Int) := by rw [show (k : Int) + 1 = ((k + 1 : Nat) : Int) by omega]; exact wrap_small _ (by omega) (by have := HL.out.1; have := HM.out; omega)
      have hkN : k < sp.length := by have := HM.out; omega
      obtain ⟨x, hx⟩ : ∃ x, sp[k]? = some x := ⟨_, List.getElem?_eq_getElem hkN⟩
      have HX := Aside0.mk hx
      have HXM := Aside0.mk (List.mem_of_getElem? hx)
      obtain ⟨b1, A, c, vf, vh, hP⟩ := HSc.out
      rw [drop_cons2 sp k x hx] at hP
      obtain ⟨sp', hsp'⟩ : ∃ l, sp.drop (k + 1) = l := ⟨_, rfl⟩
      rw [hsp'] at hP
      have HSP := Aside0.mk hsp'
      obtain ⟨n1, hn1⟩ : ∃ n1, sp'.length + 1 = n1 := ⟨_, rfl⟩
      have HN1 := Aside0.mk hn1
      have hn1p : 0 < n1 := by omega
      obtain ⟨r, o, rfl, x0, x1⟩ := hP.spots.head
      obtain ⟨-, c1, -, -⟩ := hP.cells
      have hcl : (x :: sp').length = n1 := hn1
      rw [hcl] at c1
      have HSc2 : Aside0 (Sc w0 wr b0 S g q (scanS s (sp.take k)) (x :: sp') (fs ++ scanF s (sp.take k)) (shs ++ scanN s (sp.take k))) := ⟨⟨_, _, _, _, _, hP⟩⟩
      have h00 : o + 0 * 2 = o := by omega
      clear hk hx hsp' hn1 hcl hlt hP HSc hkN
      go_wp2_with fail
      obtain ⟨rr, hrr⟩ := scanS_same (sp.take k) s
      have hsc := HSc2.out
      rw [hrr] at hsc
      have HRR := Aside0.mk hrr
      have hp := HR.out.pages x HXM.out
      refine (mreads hsc x.1 x.2 (HR.out.spot x HXM.out) HR.out.down hp.1 hp.2.1 hp.2.2 (by have := scanF_le s (sp.take k); rw [List.length_take] at this; rw [List.length_append]; have := HL.out.1; have := HM.out; have := HLT.out; omega) (by have := scanN_le s (sp.take k); rw [List.length_take] at this; rw [List.length_append]; have := HL.out.2; have := HM.out; have := HLT.out; omega)).mono ?_
      clear hp hsc hrr
      rintro ev w2 ⟨rfl, b1', A', c', vf', vh', hP2⟩
      obtain ⟨-, c1', -, -⟩ := hP2.cells
      have hcl : (x :: sp').length = n1 := HN1.out
      rw [hcl] at c1'
      have hspl := hP2.spots.1
      rw [hcl] at hspl
      obtain ⟨A2, c2, hcut, hsp2⟩ := SpAt.tail (b1 := b1') (A := A') (c := c') (x := x) (sp := sp') n1 HN1.out hspl
      have HP2 := Aside0.mk hP2
      have HCL := Aside0.mk hcl
      have HSP2 := Aside0.mk (hsp2 w2 hP2.spots)
      have fq : w2.frozen? ⟨q, 1, none⟩ = false := blk_frozen hP2.box 1
      obtain ⟨n2, hn2⟩ : ∃ n2, sp'.length = n2 := ⟨_, rfl⟩
      rw [hn2] at hcut
      have HN2 := Aside0.mk hn2
      clear c1 x0 x1 hP2 hcl hspl hsp2 hn2 HSc2
      go_wp2_with fail
      have HW3 : Aside0 (Sc w0 (w2.setCell ⟨q, 1, none⟩ (.slice A2 n2 c2)) b0 S g q (scanS s (sp.take (k + 1))) (sp.drop (k + 1)) (fs ++ scanF s (sp.take (k + 1))) (shs ++ scanN s (sp.take (k + 1)))) := ⟨by
        rw [take_snoc2 sp k x HX.out, scanS_snoc, scanF_snoc, scanN_snoc, HRR.out, ← List.append_assoc, ← List.append_assoc, HSP.out]
        exact ⟨_, _, _, _, _, HP2.out.setBox 1 _ (by rw [← HN2.out]; rfl) HSP2.out⟩⟩
      clear HP2 HSP2 hcut fq c1'
      go_roundw
      case measure =>
        have hm : m - ((k + 1 : Nat) : Int).toNat < m - ((k : Nat) : Int).toNat := by
          rw [Int.toNat_natCast, Int.toNat_natCast]
          exact Nat.sub_lt_sub_left HLT.out (Nat.lt_succ_self k)
        first | exact hm | (rw [hw3]; exact hm)
      case rel => exact ⟨k + 1, HLT.out, by first | rw [hw3] | rfl, HW3⟩
    · have he : k = m := by omega
      subst he
      have hnn : ¬ (((k : Nat) : Int) < (k : Int)) := by omega
      obtain ⟨b1, A, c, vf, vh, hP⟩ := HSc.out
      obtain ⟨-, c1, -, -⟩ := hP.cells
      obtain ⟨n1, hn1⟩ : ∃ n1, (sp.drop k).length = n1 := ⟨_, rfl⟩
      rw [hn1] at c1
      have HN1 := Aside0.mk hn1
      clear hlt hk hP hn1
      go_wp2_with fail
      go_ret2
      refine ⟨?_, HSc.out⟩
      have e1 : (n1 == 0) = decide (N ≤ k) := by
        have h1 := HN1.out
        rw [List.length_drop, HNN.out] at h1
        rw [Bool.eq_iff_iff, beq_iff_eq, decide_eq_true_iff]
        omega
      have e2 : ((n1 : Int) == 0) = decide (N ≤ k) := by
        rw [← e1, Bool.eq_iff_iff, beq_iff_eq, beq_iff_eq]
        omega
      first
        | (rw [e1]; rfl)
        | (rw [e2]; rfl)
end Go.Proofs.Ytkncmbbkehnagaa.Cm

set_option linter.unusedVariables false
set_option linter.unusedSimpArgs false
/-! Root. -/
namespace Go.Proofs.Ytkncmbbkehnagaa.Cm
open Go.RowKit Go.Proofs.YtkncmbbkehnagaaW.PrintWords Go.Proofs.YtkncmbbkehnagaaW.PrintLast Go.Proofs.YtkncmbbkehnagaaW.PrintMore Go.Proofs.Ytkncmbbkehnagaa.Kp Go.Proofs.Ytkncmbbkehnagaa.Cp Go.Proofs.Ytkncmbbkehnagaa.PAll Go.Proofs.Ytkncmbbkehnagaa.Iter Go.Proofs.Ytkncmbbkehnagaa.St Go.Proofs.Ytkncmbbkehnagaa.Sp
attribute [local go_sem] max2_int min2_int max_two min_two max_three min_three max_four min_four

def rootB (o x : S28) : Bool := decide (x.f0 = 0) && decide (o.f1 < x.f1)
def rootL (l : List S28) : S28 := l.foldl (fun o x => if rootB o x = true then x else o) ⟨0, 0, []⟩
theorem rootL_snoc (l : List S28) (x : S28) : rootL (l ++ [x]) = if rootB (rootL l) x = true then x else rootL l := by
  unfold rootL
  rw [List.foldl_append]
  rfl
theorem rootL_mem (l : List S28) : rootL l = ⟨0, 0, []⟩ ∨ rootL l ∈ l := by
  have key : ∀ (l : List S28) (o : S28), l.foldl (fun o x => if rootB o x = true then x else o) o = o ∨ l.foldl (fun o x => if rootB o x = true then x else o) o ∈ l := by
    intro l
    induction l with
    | nil => exact fun o => .inl rfl
    | cons x l ih =>
      intro o
      rw [List.foldl_cons]
      by_cases h : rootB o x = true
      · rw [if_pos h]
        rcases ih x with h1 | h1
        · rw [h1]; exact .inr List.mem_cons_self
        · exact .inr (List.mem_cons_of_mem _ h1)
      · rw [if_neg h]
        rcases ih o with h1 | h1
        · exact .inl h1
        · exact .inr (List.mem_cons_of_mem _ h1)
  exact key l _
theorem shHeld3 {W W1 : World} {b4 t : Nat} {x y z : Value} (h : W.heap[b4]? = some (.cells #[x, y, z] t (0, 0))) (hb : Below W.heap.size W W1) : W1.cell? ⟨b4, 0, none⟩ = some x ∧ W1.cell? ⟨b4, 1, none⟩ = some y ∧ W1.cell? ⟨b4, 2, none⟩ = some z :=
  ⟨(blk_cell (blk_below h hb) 0).trans rfl, (blk_cell (blk_below h hb) 1).trans rfl, (blk_cell (blk_below h hb) 2).trans rfl⟩
def reg_mroot_11.T : Bool × List (List Nat × List Nat) := (true, [([], []), ([], []), ([1], [1]), ([2], [2]), ([0, 0], [0]), ([3, 4, 0, 1, 2, 3, 4], [3])])
def reg_mroot_11.B : List Nat := [0, 0, 2, 6, 1, 31]
theorem reg_mroot_11.tab : rtab .any (opsOf Try.f17 11) = reg_mroot_11.T := by kernel_rfl
theorem reg_mroot_11.bits : waitsOk reg_mroot_11.T.2 reg_mroot_11.B = true := by kernel_rfl
/-- What Root has so far. -/
structure Rt (W0 W : World) (b2 b4 : Nat) (o : S28) (A : Option Addr) (c : Nat) : Prop where
  below : Below b2 W0 W
  x2 : W.heap[b2]? = some (.cells #[.int .i64 0, .int .i64 0, .slice none 0 0] 28 (0, 0))
  x4 : W.heap[b4]? = some (.cells #[.int .i64 o.f0, .int .i64 o.f1, .slice A o.f2.length c] 28 (0, 0))
  cd : Kd.C (Kd.int .u8) W0 A o.f2.length o.f2
  le : o.f2.length ≤ c
theorem Rt.step {W0 W W1 : World} {b2 b4 : Nat} {o : S28} {A : Option Addr} {c : Nat} (h : Rt W0 W b2 b4 o A c) (hb : Below W.heap.size W W1) : Rt W0 W1 b2 b4 o A c :=
  ⟨h.below.trans (hb.mono (Nat.le_of_lt (blk_lt h.x2))), blk_below h.x2 hb, blk_below h.x4 hb, h.cd, h.le⟩
theorem Rt.put {W0 W : World} {b2 b4 : Nat} {o x : S28} {A A' : Option Addr} {c c' : Nat} (h : Rt W0 W b2 b4 o A c) (h24 : b2 < b4) (hC : Kd.C (Kd.int .u8) W0 A' x.f2.length x.f2) (hc : x.f2.length ≤ c') :
    Rt W0 (((W.setCell ⟨b4, 0, none⟩ (.int .i64 x.f0)).setCell ⟨b4, 1, none⟩ (.int .i64 x.f1)).setCell ⟨b4, 2, none⟩ (.slice A' x.f2.length c')) b2 b4 x A' c' :=
  ⟨((h.below.setCell (p := ⟨b4, 0, none⟩) (Nat.le_of_lt h24) _).setCell (p := ⟨b4, 1, none⟩) (Nat.le_of_lt h24) _).setCell (p := ⟨b4, 2, none⟩) (Nat.le_of_lt h24) _,
    blk_far (blk_far (blk_far h.x2 (p := ⟨b4, 0, none⟩) (Nat.ne_of_lt h24) _) (p := ⟨b4, 1, none⟩) (Nat.ne_of_lt h24) _) (p := ⟨b4, 2, none⟩) (Nat.ne_of_lt h24) _,
    Parse.three_set h.x4 _ _ _, hC, hc⟩
set_option maxHeartbeats 4000000 in
set_option maxRecDepth 100000 in
theorem mroot {w0 w : World} {b0 : Nat} {S : Nat → Prop} {g q : Nat} {s : Chp} {fs : List FD} {shs : List S28} (h : Sc w0 w b0 S g q s [] fs shs) (hl : shs.length ≤ 100000) (hd : ∀ x ∈ shs, x.f2.length ≤ 100000) (hq : 0 ≤ (rootL shs).f1) :
    Calls Try.prog 17 #[.pointer (some ⟨q, 0, none⟩)] w fun e w' => ∃ v, e = .returned (.tuple #[.agg #[.int .i64 (rootL shs).f0, .int .i64 (rootL shs).f1, v], .bool (decide (0 < (rootL shs).f1))]) ∧ Kd.R (Kd.int .u8) 5 w' w.heap.size (fun _ => True) v (rootL shs).f2 ∧ Below w.heap.size w w' := by
  obtain ⟨b1, A, c, vf, vh, hP⟩ := h
  obtain ⟨Ah, ch, rfl, hch, hCh⟩ := Kd.R_reads hP.h
  obtain ⟨w2, hw2⟩ : ∃ w2, (w.alloc (.cells #[.int .i64 0, .int .i64 0, .slice none 0 0] 28)).alloc (.cells #[.int .i64 0, .int .i64 0, .slice none 0 0] 28) = w2 := ⟨_, rfl⟩
  obtain ⟨b2, hb2⟩ : ∃ b2, w.heap.size = b2 := ⟨_, rfl⟩
  obtain ⟨b4, hb4⟩ : ∃ b4, b2 + 1 = b4 := ⟨_, rfl⟩
  have hb4' : w.heap.size + 1 = b4 := by rw [hb2]; exact hb4
  have HB4 := Aside0.mk (show b2 < b4 by omega)
  have hB2 : Below w.heap.size w w2 := by rw [← hw2]; exact below_alloc (below_alloc (Below.refl _ _) _) _
  have HP := Aside0.mk (hP.step hB2)
  have HCH := Aside0.mk hCh
  have HRT : Aside0 (Rt w w2 b2 b4 ⟨0, 0, []⟩ none 0) := ⟨⟨by rw [← hb2]; exact hB2, by rw [← hw2, ← hb2]; exact blk_alloc (blk_new w _) _, by rw [← hw2, ← hb4']; have := blk_new (w.alloc (.cells #[.int .i64 0, .int .i64 0, .slice none 0 0] 28)) (.cells #[.int .i64 0, .int .i64 0, .slice none 0 0] 28); simpa using this, Kd.C_of_reads (d := (0 : Int)) ⟨rfl, Nat.zero_le _, fun h => absurd h (Nat.lt_irrefl 0)⟩, Nat.le_refl _⟩⟩
  have HB2 := Aside0.mk hB2
  have HBE := Aside0.mk hb2
  have HB4E := Aside0.mk hb4
  have HW2 := Aside0.mk hw2
  have hov := over HP.out.box
  have HL := Aside0.mk hl
  have HD := Aside0.mk hd
  have HQ := Aside0.mk hq
  obtain ⟨R, hR⟩ : ∃ R, rootL shs = R := ⟨_, rfl⟩
  have HRE := Aside0.mk hR
  rw [hR]
  have HOV := Aside0.mk hov
  obtain ⟨-, -, -, c3⟩ := HP.out.cells
  clear hP hch hCh hw2 hb2 hB2 hl hd hq hR hov hb4 hb4'
  go_enter Try.func17, Try.ntmps17
  go_wp2_with fail
  rw [HW2.out, HBE.out, HB4E.out]
  refine HOV.out.mono ?_
  rintro ev w3 ⟨rfl, rfl⟩
  go_wp2_with fail
  clear c3 HOV
  go_loopw [16] (fun v16 wr => ∃ (k : Nat) (o : S28) (A' : Option Addr) (c' : Nat), k ≤ shs.length ∧ v16 = .int .i64 (k : Int) ∧ Aside0 (o = rootL (shs.take k)) ∧ Aside0 (Rt w wr b2 b4 o A' c')) (fun v16 _ => shs.length - (intOf v16).toNat)
  case atStart => exact ⟨0, ⟨0, 0, []⟩, none, 0, Nat.zero_le _, rfl, ⟨rfl⟩, HRT⟩
  case round =>
    clear HRT
    obtain ⟨k, o, A', c', hk, rfl, HO, HRT⟩ := hrel
    by_cases hlt : k < shs.length
    · have hlt2 : (k : Int) < (shs.length : Int) := by omega
      have HLT := Aside0.mk hlt
      have hw3 : wrap64 ((k : Int) + 1) = ((k + 1 : Nat) : Int) := by rw [show (k : Int) + 1 = ((k + 1 : Nat) : Int) by omega]; exact wrap_small _ (by omega) (by have := HL.out; omega)
      obtain ⟨x, hx⟩ : ∃ x, shs[k]? = some x := ⟨_, List.getElem?_eq_getElem hlt⟩
      have hrd : rd_T28 shs (k : Int) = x := by unfold rd_T28; rw [List.getD_eq_getElem?_getD, Int.toNat_natCast, hx]; rfl
      have hbw : Below w.heap.size w wr := by rw [HBE.out]; exact HRT.out.below
      obtain ⟨ad, A5, c5, hA5, x0, x1, x2, hle5, hC5⟩ := at_T28 HCH.out (k : Int) (by omega) hlt2
      replace x0 := pw_cell_below hbw x0
      replace x1 := pw_cell_below hbw x1
      replace x2 := pw_cell_below hbw x2
      rw [hrd] at x0 x1 x2 hle5 hC5
      rw [Int.toNat_natCast] at x0 x1 x2
      cases hA5
      have HX := Aside0.mk hx
      have HC5 := Aside0.mk hC5
      have HLE5 := Aside0.mk hle5
      clear hk hlt hx hrd hbw hC5 hle5
      go_upto_region 7 with fail
      obtain ⟨w6, hw6⟩ : ∃ w6, wr.alloc (.cells #[.int .i64 x.f0, .int .i64 x.f1, .slice A5 x.f2.length c5] 28) = w6 := ⟨_, rfl⟩
      obtain ⟨b6, hb6⟩ : ∃ x, wr.heap.size = x := ⟨_, rfl⟩
      have HRT6 : Aside0 (Rt w w6 b2 b4 o A' c') := ⟨by rw [← hw6]; exact HRT.out.step (below_alloc (Below.refl _ _) _)⟩
      have hx6 : w6.heap[b6]? = some (.cells #[.int .i64 x.f0, .int .i64 x.f1, .slice A5 x.f2.length c5] 28 (0, 0)) := by rw [← hw6, ← hb6]; exact blk_new wr _
      rw [hw6, hb6]
      obtain ⟨q0, q1, q2, z0, z1, z2⟩ := Parse.three HRT6.out.x4
      obtain ⟨x0, x1, x2, -, -, -⟩ := Parse.three hx6
      clear hw6 hb6 hx6 HRT
      by_cases hp : x.f0 = 0
      · by_cases hgt : o.f1 < x.f1
        · have d1 : (x.f0 == 0) = true := by simp [hp]
          have d2 : decide (x.f1 > o.f1) = true := decide_eq_true hgt
          have HRB : Aside0 (rootB o x = true) := ⟨by unfold rootB; rw [decide_eq_true hp, decide_eq_true hgt]; rfl⟩
          clear hp hgt
          go_wp2_with fail
          have HRT8 := Aside0.mk (HRT6.out.put HB4.out HC5.out HLE5.out)
          clear HRT6 q0 q1 q2 z0 z1 z2 x0 x1 x2
          go_roundw
          case measure =>
            have hm : shs.length - ((k + 1 : Nat) : Int).toNat < shs.length - ((k : Nat) : Int).toNat := by
              rw [Int.toNat_natCast, Int.toNat_natCast]
              exact Nat.sub_lt_sub_left HLT.out (Nat.lt_succ_self k)
            first | exact hm | (rw [hw3]; exact hm)
          case rel => exact ⟨k + 1, x, _, _, HLT.out, by first | rw [hw3] | rfl, ⟨by rw [take_snoc2 shs k x HX.out, rootL_snoc, ← HO.out, if_pos HRB.out]⟩, HRT8⟩
        · have d1 : (x.f0 == 0) = true := by simp [hp]
          have d2 : decide (x.f1 > o.f1) = false := decide_eq_false hgt
          have HRB : Aside0 (rootB o x = false) := ⟨by unfold rootB; rw [decide_eq_false hgt, Bool.and_false]⟩
          clear hp hgt
          go_wp2_with fail
          go_roundw
          case measure =>
            have hm : shs.length - ((k + 1 : Nat) : Int).toNat < shs.length - ((k : Nat) : Int).toNat := by
              rw [Int.toNat_natCast, Int.toNat_natCast]
              exact Nat.sub_lt_sub_left HLT.out (Nat.lt_succ_self k)
            first | exact hm | (rw [hw3]; exact hm)
          case rel => exact ⟨k + 1, o, _, _, HLT.out, by first | rw [hw3] | rfl, ⟨by rw [take_snoc2 shs k x HX.out, rootL_snoc, ← HO.out, if_neg (by rw [HRB.out]; decide)]⟩, HRT6⟩
      · have d1 : (x.f0 == 0) = false := by simp [hp]
        have HRB : Aside0 (rootB o x = false) := ⟨by unfold rootB; rw [decide_eq_false hp, Bool.false_and]⟩
        clear hp
        go_wp2_with fail
        go_roundw
        case measure =>
          have hm : shs.length - ((k + 1 : Nat) : Int).toNat < shs.length - ((k : Nat) : Int).toNat := by
            rw [Int.toNat_natCast, Int.toNat_natCast]
            exact Nat.sub_lt_sub_left HLT.out (Nat.lt_succ_self k)
          first | exact hm | (rw [hw3]; exact hm)
        case rel => exact ⟨k + 1, o, _, _, HLT.out, by first | rw [hw3] | rfl, ⟨by rw [take_snoc2 shs k x HX.out, rootL_snoc, ← HO.out, if_neg (by rw [HRB.out]; decide)]⟩, HRT6⟩
    · have he : k = shs.length := by omega
      subst he
      have hnn : ¬ (((shs.length : Nat) : Int) < (shs.length : Int)) := by omega
      have ho := HO.out
      rw [List.take_length, HRE.out] at ho
      subst ho
      have HOL : Aside0 (o.f2.length ≤ 100000) := ⟨by
        rcases rootL_mem shs with h1 | h1
        · rw [← HRE.out, h1]; exact Nat.zero_le _
        · rw [← HRE.out]; exact HD.out _ h1⟩
      obtain ⟨q0, q1, q2, z0, z1, z2⟩ := Parse.three HRT.out.x4
      clear hlt hk HO
      go_wp2_with fail
      refine (CloneByte.calls A' c' o.f2 wr (Kd.C_below HRT.out.cd (by rw [HBE.out]; exact HRT.out.below)) HRT.out.le (by have := HOL.out; omega)).mono ?_
      rintro ev w7 ⟨v7, rfl, hR7, hb7⟩
      obtain ⟨A7, n7, c7, rfl⟩ := R_shapeA hR7
      have HRT7 := Aside0.mk (HRT.out.step hb7)
      have HR7 := Aside0.mk (Kd.R_lower hR7 (Nat.le_trans HRT.out.below.size (Nat.le_refl _)) : Kd.R (Kd.int .u8) 5 w7 w.heap.size (fun _ => True) (.slice A7 n7 c7) o.f2)
      obtain ⟨q0, q1, q2, z0, z1, z2⟩ := Parse.three HRT7.out.x4
      clear hR7 hb7 HRT
      go_upto_region 11 with fail
      obtain ⟨w8, hw8⟩ : ∃ w8, w7.setCell ⟨b4, 2, none⟩ (.slice A7 n7 c7) = w8 := ⟨_, rfl⟩
      have HX8 : Aside0 (w8.heap[b4]? = some (.cells #[.int .i64 o.f0, .int .i64 o.f1, .slice A7 n7 c7] 28 (0, 0))) := ⟨by rw [← hw8]; exact blk_put HRT7.out.x4 2 _ rfl⟩
      have HZ8 : Aside0 (w8.heap[b2]? = some (.cells #[.int .i64 0, .int .i64 0, .slice none 0 0] 28 (0, 0))) := ⟨by rw [← hw8]; exact blk_far HRT7.out.x2 (p := ⟨b4, 2, none⟩) (Nat.ne_of_lt HB4.out) _⟩
      have HR8 : Aside0 (Kd.R (Kd.int .u8) 5 w8 w.heap.size (fun _ => True) (.slice A7 n7 c7) o.f2) := ⟨by rw [← hw8]; exact Kd.R_set HR7.out HRT7.out.x4 (u8_ne _ (by decide)) 2 _⟩
      have HB8 : Aside0 (Below b2 w w8) := ⟨by rw [← hw8]; exact HRT7.out.below.setCell (p := ⟨b4, 2, none⟩) (Nat.le_of_lt HB4.out) _⟩
      rw [hw8]
      clear hw8 HRT7 HR7 q0 q1 q2 z0 z1 z2
      refine start_ (n := 6) (S := fun w' => w'.cell? ⟨b4, 0, none⟩ = some (.int .i64 o.f0) ∧ w'.cell? ⟨b4, 1, none⟩ = some (.int .i64 o.f1) ∧ w'.cell? ⟨b4, 2, none⟩ = some (.slice A7 n7 c7)) (ds := []) #[false, false, false, false, false, false] (by kernel_rfl) rfl rfl (shHeld3 HX8.out (below_drew (Below.refl _ _))) (fun hHeld => ?_)
      refine with_tabW reg_mroot_11.tab reg_mroot_11.bits (fun HT_ HW_ => ?_)
      obtain ⟨wd, hwd⟩ : ∃ wd, w8.drew = wd := ⟨_, rfl⟩
      have HXd : Aside0 (wd.heap[b4]? = some (.cells #[.int .i64 o.f0, .int .i64 o.f1, .slice A7 n7 c7] 28 (0, 0))) := ⟨by rw [← hwd]; exact HX8.out⟩
      have HZd : Aside0 (wd.heap[b2]? = some (.cells #[.int .i64 0, .int .i64 0, .slice none 0 0] 28 (0, 0))) := ⟨by rw [← hwd]; exact HZ8.out⟩
      have HRd : Aside0 (Kd.R (Kd.int .u8) 5 wd w.heap.size (fun _ => True) (.slice A7 n7 c7) o.f2) := ⟨by rw [← hwd]; exact Kd.R_below HR8.out (below_drew (Below.refl _ _))⟩
      have HBd : Aside0 (Below b2 w wd) := ⟨by rw [← hwd]; exact below_drew HB8.out⟩
      rw [hwd] at hHeld ⊢
      clear hwd HX8 HZ8 HR8 HB8
      refine take_ (i := 0) (N := (some 36)) (v := ?_) (a' := ?_) #[true, false, false, false, false, false] rfl rfl (take_ofW HT_.out HW_.out (by kernel_rfl)) (fun _ _ _ h => h) (Or.inl ⟨by rfl, ?_⟩) hHeld ?_ ?_
      rotate_left
      · rintro w' ⟨s0, s1, s2⟩
        go_simp
        first | done | with_reducible rfl
      rotate_left
      · simp only [Act.put, List.setIfInBounds_toArray, List.set_cons_zero, List.set_cons_succ, i64_w, i32_w]
        rfl
      refine pure_ (i := 1) (N := (some 37)) (v := ?_) (a' := ?_) #[true, true, false, false, false, false] rfl rfl (any_of HT_.out (by kernel_rfl)) (fun _ _ _ h => h) (Or.inl ⟨by rfl, ?_⟩) ?_ ?_
      rotate_left
      · intro w'
        go_simp
        first | done | with_reducible rfl
      rotate_left
      · simp only [Act.put, List.setIfInBounds_toArray, List.set_cons_zero, List.set_cons_succ, i64_w, i32_w]
        rfl
      refine take_ (i := 2) (N := (some 38)) (v := ?_) (a' := ?_) #[true, true, true, false, false, false] rfl rfl (take_ofW HT_.out HW_.out (by kernel_rfl)) (fun _ _ _ h => h) (Or.inl ⟨by rfl, ?_⟩) hHeld ?_ ?_
      rotate_left
      · rintro w' ⟨s0, s1, s2⟩
        go_simp
        first | done | with_reducible rfl
      rotate_left
      · simp only [Act.put, List.setIfInBounds_toArray, List.set_cons_zero, List.set_cons_succ, i64_w, i32_w]
        rfl
      refine pure_ (i := 3) (N := (some 39)) (v := ?_) (a' := ?_) #[true, true, true, true, false, false] rfl rfl (any_of HT_.out (by kernel_rfl)) (fun _ _ _ h => h) (Or.inl ⟨by rfl, ?_⟩) ?_ ?_
      rotate_left
      · intro w'
        go_simp
        first | done | with_reducible rfl
      rotate_left
      · simp only [Act.put, List.setIfInBounds_toArray, List.set_cons_zero, List.set_cons_succ, i64_w, i32_w]
        rfl
      refine one_ (i := 4) (N := none) #[true, true, true, true, true, false] rfl rfl (one_of HT_.out (by kernel_rfl)) (by decide) (fun K hK => ?_)
      obtain ⟨q0, q1, q2, z0, z1, z2⟩ := Parse.three HZd.out
      go_simp
      clear q0 q1 q2 z0 z1 z2
      obtain ⟨w9, hw9⟩ : ∃ w9, ((wd.setCell ⟨b2, 0, none⟩ (.int .i64 o.f0)).setCell ⟨b2, 1, none⟩ (.int .i64 o.f1)).setCell ⟨b2, 2, none⟩ (.slice A7 n7 c7) = w9 := ⟨_, rfl⟩
      have HZ9 : Aside0 (w9.heap[b2]? = some (.cells #[.int .i64 o.f0, .int .i64 o.f1, .slice A7 n7 c7] 28 (0, 0))) := ⟨by rw [← hw9]; exact Parse.three_set HZd.out _ _ _⟩
      have HX9 : Aside0 (w9.heap[b4]? = some (.cells #[.int .i64 o.f0, .int .i64 o.f1, .slice A7 n7 c7] 28 (0, 0))) := ⟨by rw [← hw9]; have hne : b4 ≠ b2 := Nat.ne_of_gt HB4.out; exact blk_far (blk_far (blk_far HXd.out (p := ⟨b2, 0, none⟩) hne _) (p := ⟨b2, 1, none⟩) hne _) (p := ⟨b2, 2, none⟩) hne _⟩
      have HR9 : Aside0 (Kd.R (Kd.int .u8) 5 w9 w.heap.size (fun _ => True) (.slice A7 n7 c7) o.f2) := ⟨by rw [← hw9]; exact Kd.R_set (Kd.R_set (Kd.R_set HRd.out HZd.out (u8_ne _ (by decide)) 0 _) (blk_set HZd.out 0 _) (u8_ne _ (by decide)) 1 _) (blk_set (blk_set HZd.out 0 _) 1 _) (u8_ne _ (by decide)) 2 _⟩
      have HB9 : Aside0 (Below b2 w w9) := ⟨by rw [← hw9]; exact ((HBd.out.setCell (p := ⟨b2, 0, none⟩) (Nat.le_refl _) _).setCell (p := ⟨b2, 1, none⟩) (Nat.le_refl _) _).setCell (p := ⟨b2, 2, none⟩) (Nat.le_refl _) _⟩
      rw [hw9]
      clear hw9 HXd HZd HRd HBd
      refine hK.out _ _ (shHeld3 HX9.out (Below.refl _ _)) (fun hHeld => ?_)
      clear hK K
      refine pure_ (i := 5) (N := (some 3)) (v := ?_) (a' := ?_) #[true, true, true, true, true, true] rfl rfl (any_of HT_.out (by kernel_rfl)) (fun _ _ _ h => h) (Or.inl ⟨by rfl, ?_⟩) ?_ ?_
      rotate_left
      · intro w'
        go_simp
        first | done | with_reducible rfl
      rotate_left
      · simp only [Act.put, List.setIfInBounds_toArray, List.set_cons_zero, List.set_cons_succ, i64_w, i32_w]
        rfl
      refine done_ (done_of HT_.out (by kernel_rfl)) ?_
      clear hHeld HT_ HW_
      go_wp2
      exact bodyPost_ret (results_ct rfl _ _ b2 28 #[.int .i64 o.f0, .int .i64 o.f1, .slice A7 n7 c7] (0, 0) _ rfl HZ9.out Try.underlying28 rfl (by kernel_rfl)) rfl ⟨_, rfl, HR9.out, by rw [HBE.out]; exact HB9.out⟩
end Go.Proofs.Ytkncmbbkehnagaa.Cm

set_option linter.unusedVariables false
set_option linter.unusedSimpArgs false
/-! Pick's small parts: the closures; cmp.Or; Refs in a row; twice; Contains. -/
namespace Go.Proofs.Ytkncmbbkehnagaa.Cm
open Go.RowKit Go.Proofs.YtkncmbbkehnagaaW.PrintWords Go.Proofs.YtkncmbbkehnagaaW.PrintLast Go.Proofs.YtkncmbbkehnagaaW.PrintMore Go.Proofs.Ytkncmbbkehnagaa.Kp Go.Proofs.Ytkncmbbkehnagaa.Cp Go.Proofs.Ytkncmbbkehnagaa.PAll Go.Proofs.Ytkncmbbkehnagaa.Iter Go.Proofs.Ytkncmbbkehnagaa.St Go.Proofs.Ytkncmbbkehnagaa.Sp
attribute [local go_sem] max2_int min2_int max_two min_two max_three min_three max_four min_four

abbrev Rf := Int × Int
def k2 : Kd Rf := Kd.pair (Kd.int .i64) (Kd.int .i64)
theorem k2_open {w : World} {x : Rf} {cs : List Value} (h : k2.K w x cs) : cs = [.int .i64 x.1, .int .i64 x.2] := by
  obtain ⟨_, _, rfl, rfl, rfl⟩ := h
  rfl
theorem rfAt {w : World} {A : Option Addr} {n : Nat} {xs : List Rf} (h : Kd.C k2 w A n xs) (i : Nat) (x : Rf) (hx : xs[i]? = some x) : ∃ ad, A = some ad ∧ w.cell? (ad.add (i * 2)) = some (.int .i64 x.1) ∧ w.cell? ⟨(ad.add (i * 2)).block, (ad.add (i * 2)).off + 1, none⟩ = some (.int .i64 x.2) := by
  have hi := (List.getElem?_eq_some_iff.1 hx).1
  have hn : n = xs.length := h.1.symm
  obtain ⟨ad, c, e, _, hK, hc0⟩ := Kd.C_get h (0, 0) (i : Int) (by omega) (by omega)
  have hg : xs.getD i (0, 0) = x := by rw [List.getD_eq_getElem?_getD, hx]; rfl
  rw [Int.toNat_natCast, hg] at hK
  have hc : ∀ j u, c[j]? = some u → w.cell? (ad.add (i * 2 + j)) = some u := hc0
  have hK2 := k2_open hK
  subst hK2
  exact ⟨ad, e, hc 0 _ rfl, by rw [← add_field _ _ 1 (by omega)]; exact hc 1 _ rfl⟩
set_option maxHeartbeats 2000000 in
set_option maxRecDepth 100000 in
theorem twice1 {w : World} {b : Nat} {r : Rf} (hb : w.heap[b]? = some (.cells #[.int .i64 r.1, .int .i64 r.2] 31 (0, 0))) (p q : Int) :
    Calls Try.prog 57 #[.agg #[.int .i64 p, .int .i64 q], .pointer (some ⟨b, 0, none⟩)] w fun e w' => e = .returned (.bool (p == r.1)) ∧ Below w.heap.size w w' := by
  have hlt := blk_lt hb
  obtain ⟨c0, -⟩ := two hb
  clear hb
  go_enter Try.func57, Try.ntmps57
  go_wp2
  go_ret
  exact ⟨rfl, below_alloc (Below.refl _ _) _⟩
set_option maxHeartbeats 2000000 in
set_option maxRecDepth 100000 in
theorem pickne {w : World} {b : Nat} {r : Rf} (hb : w.heap[b]? = some (.cells #[.int .i64 r.1, .int .i64 r.2] 31 (0, 0))) (x : FD) :
    Calls Try.prog 42 #[.agg #[.int .i64 x.p, .int .i64 x.q, .int .i64 x.b, .int .i64 x.k], .pointer (some ⟨b, 0, none⟩)] w fun e w' => e = .returned (.bool (!(x.p == r.1 && x.q == r.2))) ∧ Below w.heap.size w w' := by
  have hlt := blk_lt hb
  obtain ⟨c0, c1⟩ := two hb
  clear hb
  go_enter Try.func42, Try.ntmps42
  go_wp2
  all_goals
    go_ret
    refine ⟨?_, below_alloc (Below.refl _ _) _⟩
    show Ending.returned (.bool _) = _
    simp [*]
set_option maxHeartbeats 2000000 in
set_option maxRecDepth 100000 in
/-- cmp.Or of three. -/
theorem cmpor {w : World} {b : Nat} {x y z : Int} (hb : w.heap[b]? = some (.cells #[.int .i64 x, .int .i64 y, .int .i64 z] 3 (0, 0))) :
    Calls Try.prog 39 #[.slice (some ⟨b, 0, none⟩) 3 3] w fun e w' => e = .returned (.int .i64 (if x ≠ 0 then x else if y ≠ 0 then y else z)) ∧ w' = w := by
  obtain ⟨c0, c1, c2, -, -, -⟩ := Parse.three hb
  clear hb
  obtain ⟨r, hr⟩ : ∃ r, (if x ≠ 0 then x else if y ≠ 0 then y else z) = r := ⟨_, rfl⟩
  rw [hr]
  have HR := Aside0.mk hr
  clear hr
  go_enter Try.func39, Try.ntmps39
  go_wp2_with fail
  go_loop [8] (fun v8 => ∃ k : Int, 0 ≤ k ∧ k ≤ 3 ∧ v8 = .int .i64 k ∧ Aside0 ((1 ≤ k → x = 0) ∧ (2 ≤ k → y = 0) ∧ (3 ≤ k → z = 0))) (fun v8 => (3 - intOf v8).toNat)
  case atStart => exact ⟨0, by omega, by omega, rfl, ⟨by omega, by omega, by omega⟩⟩
  case round =>
    obtain ⟨k, hk0, hk3, rfl, HK⟩ := hrel
    have hk : k = 0 ∨ k = 1 ∨ k = 2 ∨ k = 3 := by omega
    clear hk0 hk3
    rcases hk with rfl | rfl | rfl | rfl
    · by_cases h0 : x = 0
      · have d0 : (x != 0) = false := by simp [h0]
        have H0 := Aside0.mk h0
        clear h0
        go_wp2
        go_round
        case rel => exact ⟨1, by omega, by omega, rfl, ⟨fun _ => H0.out, by omega, by omega⟩⟩
        case measure => simp [intOf]
      · have d0 : (x != 0) = true := by simp [h0]
        have H0 := Aside0.mk h0
        clear h0
        go_wp2
        go_ret
        exact ⟨by rw [← HR.out, if_pos H0.out]; rfl, rfl⟩
    · have hx := HK.out.1 (by omega)
      by_cases h0 : y = 0
      · have d0 : (y != 0) = false := by simp [h0]
        have H0 := Aside0.mk h0
        have HX := Aside0.mk hx
        clear h0 hx
        go_wp2
        go_round
        case rel => exact ⟨2, by omega, by omega, rfl, ⟨fun _ => HX.out, fun _ => H0.out, by omega⟩⟩
        case measure => simp [intOf]
      · have d0 : (y != 0) = true := by simp [h0]
        have H0 := Aside0.mk h0
        have HX := Aside0.mk hx
        clear h0 hx
        go_wp2
        go_ret
        exact ⟨by rw [← HR.out, if_neg (by rw [HX.out]; simp), if_pos H0.out]; rfl, rfl⟩
    · have hx := HK.out.1 (by omega)
      have hy := HK.out.2.1 (by omega)
      by_cases h0 : z = 0
      · have d0 : (z != 0) = false := by simp [h0]
        have H0 := Aside0.mk h0
        have HX := Aside0.mk hx
        have HY := Aside0.mk hy
        clear h0 hx hy
        go_wp2
        go_round
        case rel => exact ⟨3, by omega, by omega, rfl, ⟨fun _ => HX.out, fun _ => HY.out, fun _ => H0.out⟩⟩
        case measure => simp [intOf]
      · have d0 : (z != 0) = true := by simp [h0]
        have H0 := Aside0.mk h0
        have HX := Aside0.mk hx
        have HY := Aside0.mk hy
        clear h0 hx hy
        go_wp2
        go_ret
        exact ⟨by rw [← HR.out, if_neg (by rw [HX.out]; simp), if_neg (by rw [HY.out]; simp)]; rfl, rfl⟩
    · have hx := HK.out.1 (by omega)
      have hy := HK.out.2.1 (by omega)
      have hz := HK.out.2.2 (by omega)
      have HX := Aside0.mk hx
      have HY := Aside0.mk hy
      have HZ := Aside0.mk hz
      clear hx hy hz
      go_wp2
      go_ret
      exact ⟨by rw [← HR.out, if_neg (by rw [HX.out]; simp), if_neg (by rw [HY.out]; simp), HZ.out]; rfl, rfl⟩
def pgB (r : Rf) (x : Rf) : Bool := x.1 == r.1
theorem any_snoc {α : Type} (f : α → Bool) (l : List α) (k : Nat) (x : α) (h : l[k]? = some x) : (l.take (k + 1)).any f = ((l.take k).any f || f x) := by
  rw [take_snoc2 l k x h, List.any_append]
  simp
theorem any_take {α : Type} (f : α → Bool) (l : List α) (k : Nat) (x : α) (h : l[k]? = some x) (hf : f x = true) : l.any f = true := List.any_eq_true.2 ⟨x, List.mem_of_getElem? h, hf⟩
set_option maxHeartbeats 4000000 in
set_option maxRecDepth 100000 in
theorem indexfr {w : World} {b c : Nat} {r : Rf} {A : Option Addr} {l : List Rf} (hb : w.heap[b]? = some (.cells #[.int .i64 r.1, .int .i64 r.2] 31 (0, 0))) (hC : Kd.C k2 w A l.length l) (hl : l.length ≤ 1000) :
    Calls Try.prog 70 #[.slice A l.length c, .func (.func 57) #[] #[.pointer (some ⟨b, 0, none⟩)]] w fun e w' => ∃ j, e = .returned (.int .i64 j) ∧ decide (0 ≤ j) = l.any (pgB r) ∧ Below w.heap.size w w' := by
  have HB := Aside0.mk hb
  have HC := Aside0.mk hC
  have HL := Aside0.mk hl
  clear hb hC hl
  go_enter Try.func70, Try.ntmps70
  go_wp2_with fail
  go_loopw [8] (fun v8 wr => ∃ k : Nat, k ≤ l.length ∧ v8 = .int .i64 (k : Int) ∧ Aside0 ((l.take k).any (pgB r) = false) ∧ Aside0 (Below w.heap.size w wr)) (fun v8 _ => l.length - (intOf v8).toNat)
  case atStart => exact ⟨0, Nat.zero_le _, rfl, ⟨rfl⟩, ⟨Below.refl _ _⟩⟩
  case round =>
    obtain ⟨k, hk, rfl, HN, HBL⟩ := hrel
    by_cases hlt : k < l.length
    · have hlt2 : (k : Int) < (l.length : Int) := by omega
      have HLT := Aside0.mk hlt
      have hw3 : wrap64 ((k : Int) + 1) = ((k + 1 : Nat) : Int) := by rw [show (k : Int) + 1 = ((k + 1 : Nat) : Int) by omega]; exact wrap_small _ (by omega) (by have := HL.out; omega)
      obtain ⟨x, hx⟩ : ∃ x, l[k]? = some x := ⟨_, List.getElem?_eq_getElem hlt⟩
      obtain ⟨ad, rfl, x0, x1⟩ := rfAt (Kd.C_below HC.out HBL.out) k x hx
      have HX := Aside0.mk hx
      have hcc := twice1 (blk_below HB.out HBL.out) x.1 x.2
      have HCC := Aside0.mk hcc
      clear hk hlt hx hcc
      go_wp2_with fail
      refine HCC.out.mono ?_
      rintro ev w2 ⟨rfl, hb2⟩
      have HB2 := Aside0.mk (below_step HBL.out hb2)
      clear hb2 HBL HCC x0 x1
      cases hp : (x.1 == r.1) with
      | true =>
        have HP := Aside0.mk hp
        clear hp
        go_wp2_with fail
        go_ret
        exact ⟨_, rfl, by rw [any_take (pgB r) l k x HX.out HP.out]; exact decide_eq_true (by omega), HB2.out⟩
      | false =>
        have HP := Aside0.mk hp
        clear hp
        go_wp2_with fail
        go_roundw
        case measure =>
          have hm : l.length - ((k + 1 : Nat) : Int).toNat < l.length - ((k : Nat) : Int).toNat := by
            rw [Int.toNat_natCast, Int.toNat_natCast]
            exact Nat.sub_lt_sub_left HLT.out (Nat.lt_succ_self k)
          first | exact hm | (rw [hw3]; exact hm)
        case rel => exact ⟨k + 1, HLT.out, by first | rw [hw3] | rfl, ⟨by rw [any_snoc _ _ _ _ HX.out, HN.out]; exact HP.out⟩, HB2⟩
    · have he : k = l.length := by omega
      subst he
      have hnn : ¬ (((l.length : Nat) : Int) < (l.length : Int)) := by omega
      clear hlt hk
      go_wp2_with fail
      go_ret
      have hn := HN.out
      rw [List.take_length] at hn
      exact ⟨_, rfl, by rw [hn]; rfl, HBL.out⟩
set_option maxHeartbeats 4000000 in
set_option maxRecDepth 100000 in
theorem containsfr {w : World} {b c : Nat} {r : Rf} {A : Option Addr} {l : List Rf} (hb : w.heap[b]? = some (.cells #[.int .i64 r.1, .int .i64 r.2] 31 (0, 0))) (hC : Kd.C k2 w A l.length l) (hl : l.length ≤ 1000) :
    Calls Try.prog 56 #[.slice A l.length c, .func (.func 57) #[] #[.pointer (some ⟨b, 0, none⟩)]] w fun e w' => e = .returned (.bool (l.any (pgB r))) ∧ Below w.heap.size w w' := by
  have HCC := Aside0.mk (indexfr (c := c) hb hC hl)
  clear hb hC hl
  obtain ⟨q, hq⟩ : ∃ q, l.any (pgB r) = q := ⟨_, rfl⟩
  rw [hq] at HCC ⊢
  clear hq
  go_enter Try.func56, Try.ntmps56
  go_wp2_with fail
  refine HCC.out.mono ?_
  rintro ev w2 ⟨j, rfl, hj, hb2⟩
  have HJ := Aside0.mk hj
  have HB2 := Aside0.mk hb2
  clear hj hb2 HCC
  cases q with
  | true =>
    have h0 : 0 ≤ j := of_decide_eq_true HJ.out
    have d0 : decide (j ≥ 0) = true := decide_eq_true h0
    go_wp2_with fail
    go_ret
    exact ⟨rfl, HB2.out⟩
  | false =>
    have h0 : ¬ 0 ≤ j := of_decide_eq_false HJ.out
    have d0 : decide (j ≥ 0) = false := decide_eq_false h0
    go_wp2_with fail
    go_ret
    exact ⟨rfl, HB2.out⟩
/-- A page is there twice. -/
def twiceN (l : List Rf) (k : Nat) : Bool := (List.range k).any (fun i => (l.take i).any (pgB (l.getD i (0, 0))))
def twiceB (l : List Rf) : Bool := twiceN l l.length
theorem twiceN_succ (l : List Rf) (k : Nat) : twiceN l (k + 1) = (twiceN l k || (l.take k).any (pgB (l.getD k (0, 0)))) := by
  unfold twiceN
  rw [List.range_succ, List.any_append]
  simp
theorem twiceN_mono (l : List Rf) {k m : Nat} (h : k ≤ m) (ht : twiceN l k = true) : twiceN l m = true := by
  unfold twiceN at ht ⊢
  obtain ⟨i, hi, hf⟩ := List.any_eq_true.1 ht
  exact List.any_eq_true.2 ⟨i, List.mem_range.2 (by have := List.mem_range.1 hi; omega), hf⟩
set_option maxHeartbeats 4000000 in
set_option maxRecDepth 100000 in
theorem twice {w : World} {c : Nat} {A : Option Addr} {l : List Rf} (hC : Kd.C k2 w A l.length l) (hc : l.length ≤ c) (hl : l.length ≤ 1000) :
    Calls Try.prog 36 #[.slice A l.length c] w fun e w' => e = .returned (.bool (twiceB l)) ∧ Below w.heap.size w w' := by
  have HC := Aside0.mk hC
  have HL := Aside0.mk hl
  have HCC := Aside0.mk hc
  clear hC hl hc
  obtain ⟨t, ht⟩ : ∃ t, twiceB l = t := ⟨_, rfl⟩
  rw [ht]
  have HT := Aside0.mk ht
  clear ht
  obtain ⟨i5, hi5, hz5, hs5, hb5⟩ := info_parts (show (Try.prog.info? 31).map (fun i => (i.zero, i.size, i.bytes)) = some (some (.agg #[.int .i64 0, .int .i64 0]), 2, 16) by kernel_rfl)
  go_enter Try.func36, Try.ntmps36
  go_wp2_with fail
  go_loopw [7] (fun v7 wr => ∃ k : Nat, k ≤ l.length ∧ v7 = .int .i64 (k : Int) ∧ Aside0 (twiceN l k = false) ∧ Aside0 (Below w.heap.size w wr)) (fun v7 _ => l.length - (intOf v7).toNat)
  case atStart => exact ⟨0, Nat.zero_le _, rfl, ⟨rfl⟩, ⟨Below.refl _ _⟩⟩
  case round =>
    obtain ⟨k, hk, rfl, HN, HBL⟩ := hrel
    by_cases hlt : k < l.length
    · have hlt2 : (k : Int) < (l.length : Int) := by omega
      have HLT := Aside0.mk hlt
      have hw3 : wrap64 ((k : Int) + 1) = ((k + 1 : Nat) : Int) := by rw [show (k : Int) + 1 = ((k + 1 : Nat) : Int) by omega]; exact wrap_small _ (by omega) (by have := HL.out; omega)
      obtain ⟨x, hx⟩ : ∃ x, l[k]? = some x := ⟨_, List.getElem?_eq_getElem hlt⟩
      obtain ⟨ad, rfl, x0, x1⟩ := rfAt (Kd.C_below HC.out HBL.out) k x hx
      have HX := Aside0.mk hx
      have HG : Aside0 (l.getD k (0, 0) = x) := ⟨by rw [List.getD_eq_getElem?_getD, hx]; rfl⟩
      have hcut := cut_to (P := Try.prog) 25 31 .i64 Try.underlying25 hi5 (some ad) l.length c (k : Int) (by omega) (by omega) HCC.out
      clear hk hlt hx
      go_wp2_with fail
      obtain ⟨w3, hw3e⟩ : ∃ w3, wr.alloc (.cells #[.int .i64 x.1, .int .i64 x.2] 31) = w3 := ⟨_, rfl⟩
      obtain ⟨b3, hb3⟩ : ∃ b, wr.heap.size = b := ⟨_, rfl⟩
      have hx3 : w3.heap[b3]? = some (.cells #[.int .i64 x.1, .int .i64 x.2] 31 (0, 0)) := by rw [← hw3e, ← hb3]; exact blk_new wr _
      have hb3' : Below w.heap.size w w3 := by rw [← hw3e]; exact below_alloc HBL.out _
      have hkl : (l.take k).length = k := by rw [List.length_take]; have := HLT.out; omega
      have hcc := containsfr (c := c) (l := l.take k) (r := x) hx3 (Kd.C_take (m := k) (Kd.C_below HC.out hb3') (Nat.le_of_lt HLT.out)) (by rw [hkl]; have := HL.out; have := HLT.out; omega)
      rw [hkl] at hcc
      have HB3 := Aside0.mk hb3'
      have HCO := Aside0.mk hcc
      have hst : twiceN l (k + 1) = (l.take k).any (pgB x) := by rw [twiceN_succ, HN.out, HG.out]; rfl
      have HST := Aside0.mk hst
      rw [hw3e, hb3]
      clear hw3e hb3 hx3 hb3' hkl hcc hst HBL x0 x1 hcut
      refine HCO.out.mono ?_
      rintro ev w4 ⟨rfl, hb4⟩
      have HB4 := Aside0.mk (below_step HB3.out hb4)
      clear hb4 HCO
      obtain ⟨q, hq⟩ : ∃ q, (l.take k).any (pgB x) = q := ⟨_, rfl⟩
      rw [hq] at HST ⊢
      clear hq
      cases q with
      | true =>
        go_wp2_with fail
        go_ret
        exact ⟨by rw [← HT.out]; unfold twiceB; rw [twiceN_mono l HLT.out HST.out]; rfl, HB4.out⟩
      | false =>
        go_wp2_with fail
        go_roundw
        case measure =>
          have hm : l.length - ((k + 1 : Nat) : Int).toNat < l.length - ((k : Nat) : Int).toNat := by
            rw [Int.toNat_natCast, Int.toNat_natCast]
            exact Nat.sub_lt_sub_left HLT.out (Nat.lt_succ_self k)
          first | exact hm | (rw [hw3]; exact hm)
        case rel => exact ⟨k + 1, HLT.out, by first | rw [hw3] | rfl, HST, HB4⟩
    · have he : k = l.length := by omega
      subst he
      have hnn : ¬ (((l.length : Nat) : Int) < (l.length : Int)) := by omega
      clear hlt hk
      go_wp2_with fail
      go_ret
      exact ⟨by rw [← HT.out]; unfold twiceB; rw [HN.out]; rfl, HBL.out⟩
/-- A Ref is among them. -/
def rfB (r x : Rf) : Bool := x.1 == r.1 && x.2 == r.2
theorem int_eqA (d : Nat) (a c : Int) (w : World) : (Op.equalIn (d + 1) 3 (.int .i64 a) (.int .i64 c)).run Try.prog w = .ok (a == c) w := by
  simp [Op.equalIn, run_underlying Try.underlying3]
theorem ref_eqA (d : Nat) (a b c e : Int) (w : World) : (Op.equalIn (d + 2) 31 (.agg #[.int .i64 a, .int .i64 b]) (.agg #[.int .i64 c, .int .i64 e])).run Try.prog w = .ok (a == c && b == e) w :=
  eqA_of Try.underlying31 (by kernel_rfl) (eqf_cons rfl (by kernel_rfl) (by kernel_rfl) (int_eqA d a c w) (eqf_last rfl (by kernel_rfl) (by kernel_rfl) (int_eqA d b e w)))
theorem ref_eq (a b c d : Int) (w : World) : (binOp .eql 31 (.agg #[.int .i64 a, .int .i64 b]) (.agg #[.int .i64 c, .int .i64 d])).run Try.prog w = .ok (.bool (a == c && b == d)) w := by
  have e : Op.equal 31 (.agg #[.int .i64 a, .int .i64 b]) (.agg #[.int .i64 c, .int .i64 d]) = Op.equalIn 10000 31 (.agg #[.int .i64 a, .int .i64 b]) (.agg #[.int .i64 c, .int .i64 d]) := rfl
  simp only [binOp, e]
  simp [ref_eqA 9998]
set_option maxHeartbeats 4000000 in
set_option maxRecDepth 100000 in
theorem indexr {w : World} {c : Nat} {r : Rf} {A : Option Addr} {l : List Rf} (hC : Kd.C k2 w A l.length l) (hl : l.length ≤ 1000) :
    Calls Try.prog 71 #[.slice A l.length c, .agg #[.int .i64 r.1, .int .i64 r.2]] w fun e w' => ∃ j, e = .returned (.int .i64 j) ∧ decide (0 ≤ j) = l.any (rfB r) ∧ Below w.heap.size w w' := by
  obtain ⟨w1, hw1⟩ : ∃ w1, w.alloc (.cells #[.int .i64 r.1, .int .i64 r.2] 31) = w1 := ⟨_, rfl⟩
  obtain ⟨b1, hb1⟩ : ∃ b, w.heap.size = b := ⟨_, rfl⟩
  have HX1 : Aside0 (w1.heap[b1]? = some (.cells #[.int .i64 r.1, .int .i64 r.2] 31 (0, 0))) := ⟨by rw [← hw1, ← hb1]; exact blk_new w _⟩
  have HB1 : Aside0 (Below w.heap.size w w1) := ⟨by rw [← hw1]; exact below_alloc (Below.refl _ _) _⟩
  have HC := Aside0.mk (Kd.C_below hC HB1.out)
  have HL := Aside0.mk hl
  have HW := Aside0.mk hw1
  have HWB := Aside0.mk hb1
  clear hC hl hw1 hb1
  go_enter Try.func71, Try.ntmps71
  go_wp2_with fail
  rw [HW.out, HWB.out]
  go_loopw [8] (fun v8 wr => ∃ k : Nat, k ≤ l.length ∧ v8 = .int .i64 (k : Int) ∧ Aside0 ((l.take k).any (rfB r) = false) ∧ Aside0 (Below w1.heap.size w1 wr)) (fun v8 _ => l.length - (intOf v8).toNat)
  case atStart => exact ⟨0, Nat.zero_le _, rfl, ⟨rfl⟩, ⟨Below.refl _ _⟩⟩
  case round =>
    obtain ⟨k, hk, rfl, HN, HBL⟩ := hrel
    by_cases hlt : k < l.length
    · have hlt2 : (k : Int) < (l.length : Int) := by omega
      have HLT := Aside0.mk hlt
      have hw3 : wrap64 ((k : Int) + 1) = ((k + 1 : Nat) : Int) := by rw [show (k : Int) + 1 = ((k + 1 : Nat) : Int) by omega]; exact wrap_small _ (by omega) (by have := HL.out; omega)
      have HW3 := Aside0.mk hw3
      obtain ⟨x, hx⟩ : ∃ x, l[k]? = some x := ⟨_, List.getElem?_eq_getElem hlt⟩
      obtain ⟨ad, rfl, x0, x1⟩ := rfAt (Kd.C_below HC.out HBL.out) k x hx
      have HX := Aside0.mk hx
      have HXA := Aside0.mk x0
      have HXB := Aside0.mk x1
      have HXR := Aside0.mk (blk_below HX1.out HBL.out)
      clear hk hlt hx x0 x1 hw3
      obtain ⟨x0, x1⟩ : wr.cell? (ad.add (k * 2)) = some (.int .i64 x.1) ∧ wr.cell? ⟨(ad.add (k * 2)).block, (ad.add (k * 2)).off + 1, none⟩ = some (.int .i64 x.2) := ⟨HXA.out, HXB.out⟩
      obtain ⟨r0, r1⟩ := two HXR.out
      go_upto_region 4 with fail
      have hqe := ref_eq r.1 r.2 x.1 x.2
      obtain ⟨q, hq⟩ : ∃ q, (r.1 == x.1 && r.2 == x.2) = q := ⟨_, rfl⟩
      have HQ : Aside0 (rfB r x = q) := ⟨by rw [← hq]; unfold rfB; rw [Bool.beq_comm, Bool.beq_comm (a := x.2)]⟩
      rw [hq] at hqe
      clear hq
      go_quiet (fail)
      have HB4 := Aside0.mk (pw_below_drewN HBL.out nq)
      clear hqe x0 x1 r0 r1 HXA HXB HXR HBL
      have hw3 := HW3.out
      cases q with
      | true =>
        go_wp2_with fail
        go_ret
        exact ⟨_, rfl, by rw [any_take (rfB r) l k x HX.out HQ.out]; exact decide_eq_true (by omega), below_step HB1.out HB4.out⟩
      | false =>
        go_wp2_with fail
        go_roundw
        case measure =>
          have hm : l.length - ((k + 1 : Nat) : Int).toNat < l.length - ((k : Nat) : Int).toNat := by
            rw [Int.toNat_natCast, Int.toNat_natCast]
            exact Nat.sub_lt_sub_left HLT.out (Nat.lt_succ_self k)
          first | exact hm | (rw [hw3]; exact hm)
        case rel => exact ⟨k + 1, HLT.out, by first | rw [hw3] | rfl, ⟨by rw [any_snoc _ _ _ _ HX.out, HN.out]; exact HQ.out⟩, HB4⟩
    · have he : k = l.length := by omega
      subst he
      have hnn : ¬ (((l.length : Nat) : Int) < (l.length : Int)) := by omega
      clear hlt hk
      go_wp2_with fail
      go_ret
      have hn := HN.out
      rw [List.take_length] at hn
      exact ⟨_, rfl, by rw [hn]; rfl, below_step HB1.out HBL.out⟩
set_option maxHeartbeats 4000000 in
set_option maxRecDepth 100000 in
theorem containsr {w : World} {c : Nat} {r : Rf} {A : Option Addr} {l : List Rf} (hC : Kd.C k2 w A l.length l) (hl : l.length ≤ 1000) :
    Calls Try.prog 58 #[.slice A l.length c, .agg #[.int .i64 r.1, .int .i64 r.2]] w fun e w' => e = .returned (.bool (l.any (rfB r))) ∧ Below w.heap.size w w' := by
  have HCC := Aside0.mk (indexr (c := c) (r := r) (Kd.C_below hC (below_alloc (Below.refl _ _) (.cells #[.int .i64 r.1, .int .i64 r.2] 31))) hl)
  have HB1 := Aside0.mk (below_alloc (Below.refl _ w) (.cells #[.int .i64 r.1, .int .i64 r.2] 31))
  clear hC hl
  obtain ⟨q, hq⟩ : ∃ q, l.any (rfB r) = q := ⟨_, rfl⟩
  rw [hq] at HCC ⊢
  clear hq
  go_enter Try.func58, Try.ntmps58
  go_wp2_with fail
  refine HCC.out.mono ?_
  rintro ev w2 ⟨j, rfl, hj, hb2⟩
  have HJ := Aside0.mk hj
  have HB2 := Aside0.mk (below_step HB1.out hb2)
  clear hj hb2 HCC
  cases q with
  | true =>
    have h0 : 0 ≤ j := of_decide_eq_true HJ.out
    have d0 : decide (j ≥ 0) = true := decide_eq_true h0
    go_wp2_with fail
    go_ret
    exact ⟨rfl, HB2.out⟩
  | false =>
    have h0 : ¬ 0 ≤ j := of_decide_eq_false HJ.out
    have d0 : decide (j ≥ 0) = false := decide_eq_false h0
    go_wp2_with fail
    go_ret
    exact ⟨rfl, HB2.out⟩
end Go.Proofs.Ytkncmbbkehnagaa.Cm

