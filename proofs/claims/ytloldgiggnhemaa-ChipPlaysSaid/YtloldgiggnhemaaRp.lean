import Derived.Test.YtloldgiggnhemaaHd
set_option linter.unusedVariables false
set_option linter.unusedSimpArgs false
/-! The reference's chip as it lies in memory. -/
namespace Go.Proofs.Ytloldgiggnhemaa.Cp
open Go.RowKit Go.Proofs.YtloldgiggnhemaaW.PrintWords Go.Proofs.YtloldgiggnhemaaW.PrintLast Go.Proofs.Ytloldgiggnhemaa.Kp

/-- The reference's cells: what is waited for stands there as one more; nothing: 0. -/
def Chp.rcells (s : Chp) (h cap : Nat) : Array Value := #[.slice (some ⟨h, 0, none⟩) s.blocks.length cap, .int .i64 s.pages, .int .i64 s.fail, .int .i64 s.worn, .int .i64 s.cut, .int .i64 s.keep, .bool s.down, .int .i64 s.br, .int .i64 s.bp, .int .i64 s.be]
structure Chp.RInv (s : Chp) : Prop extends Chp.Inv s where
  f0 : 0 ≤ s.fail
  w0 : 0 ≤ s.worn
  c0 : 0 ≤ s.cut
theorem rmod_cells (s : Chp) (i : Nat) (f : Blk → Blk) (h cap : Nat) : (s.mod i f).rcells h cap = s.rcells h cap := by simp [Chp.rcells, Chp.mod]
theorem rmod_inv (s : Chp) (i : Nat) (f : Blk → Blk) (hf : ∀ b, (f b).pages.length = b.pages.length) (hi : s.RInv) : (s.mod i f).RInv := { toInv := mod_inv s i f hf hi.toInv, f0 := hi.f0, w0 := hi.w0, c0 := hi.c0 }
structure RRep (W : World) (base : Nat) (ok : Nat → Prop) (g h cap : Nat) (cs : Array Value) (pg : Nat → Nat) (s : Chp) : Prop where
  okb : ∀ k, ok k → base ≤ k
  okg : ok g
  okh : ok h
  okp : ∀ i : Nat, i < s.blocks.length → ok (pg i)
  hg : W.heap[g]? = some (.cells (s.rcells h cap) 58 (0, 0))
  hh : W.heap[h]? = some (.cells cs 36 (0, 0))
  le : s.blocks.length ≤ cap
  row : ∀ (i : Nat) (b : Blk), s.blocks[i]? = some b → cs[i * 4]? = some (.bool b.bad) ∧ cs[i * 4 + 1]? = some (.int .i64 b.next) ∧ cs[i * 4 + 2]? = some (.int .i64 b.count) ∧ cs[i * 4 + 3]? = some (.slice (some ⟨pg i, 0, none⟩) b.pages.length b.pages.length)
  pgs : ∀ (i : Nat) (b : Blk), s.blocks[i]? = some b → ∃ ps : Array Value, W.heap[pg i]? = some (.cells ps 22 (0, 0)) ∧ ∀ (j : Nat) (xs : List Int), b.pages[j]? = some xs → ∃ v : Value, ps[j]? = some v ∧ Kd.R (Kd.int .u8) 5 W base ok v xs
  inj : ∀ i j : Nat, i < s.blocks.length → j < s.blocks.length → pg i = pg j → i = j
  inv : s.RInv
def IsRef (W : World) (base : Nat) (ok : Nat → Prop) (g : Nat) (s : Chp) : Prop := ∃ h cap cs pg, RRep W base ok g h cap cs pg s

section
variable {W W1 : World} {base : Nat} {ok ok' : Nat → Prop} {g h cap : Nat} {cs : Array Value} {pg : Nat → Nat} {s s' : Chp}
/-- What is the chip's stays where it is. -/
theorem RRep.keep (r : RRep W base ok g h cap cs pg s) (hs : W.heap.size ≤ W1.heap.size) (hk : ∀ k, ok k → k < W.heap.size → W1.heap[k]? = W.heap[k]?) : RRep W1 base ok g h cap cs pg s where
  okb := r.okb
  okg := r.okg
  okh := r.okh
  okp := r.okp
  hg := (hk g r.okg (blk_lt r.hg)).trans r.hg
  hh := (hk h r.okh (blk_lt r.hh)).trans r.hh
  le := r.le
  row := r.row
  pgs := fun i b hb => by
    obtain ⟨ps, h1, h2⟩ := r.pgs i b hb
    refine ⟨ps, (hk (pg i) (r.okp i (List.getElem?_eq_some_iff.1 hb).1) (blk_lt h1)).trans h1, fun j xs hj => ?_⟩
    obtain ⟨v, h3, h4⟩ := h2 j xs hj
    exact ⟨v, h3, Kd.R_step h4 hk⟩
  inj := r.inj
  inv := r.inv
theorem RRep.below (r : RRep W base ok g h cap cs pg s) (hb : Below W.heap.size W W1) : RRep W1 base ok g h cap cs pg s := r.keep hb.size (fun k _ hk => hb.block k hk)
/-- Fewer blocks are the chip's: those that it has. -/
theorem RRep.tight (r : RRep W base ok g h cap cs pg s) : RRep W base (fun k => ok k ∧ k < W.heap.size) g h cap cs pg s := by
  refine { r with okb := fun k hk => r.okb k hk.1, okg := ⟨r.okg, blk_lt r.hg⟩, okh := ⟨r.okh, blk_lt r.hh⟩, okp := fun i hi => ?_, pgs := fun i b hi => ?_ }
  · obtain ⟨ps, h1, _⟩ := r.pgs i _ (List.getElem?_eq_getElem hi)
    exact ⟨r.okp i hi, blk_lt h1⟩
  · obtain ⟨ps, h1, h2⟩ := r.pgs i b hi
    refine ⟨ps, h1, fun j xs hj => ?_⟩
    obtain ⟨v, h3, h4⟩ := h2 j xs hj
    exact ⟨v, h3, Kd.R_mono (Kd.R_bound h4) (fun k hk => ⟨hk.1, hk.2.2.1⟩)⟩
theorem RRep.mono (r : RRep W base ok g h cap cs pg s) (hs : ∀ k, ok k → ok' k) (hb : ∀ k, ok' k → base ≤ k) : RRep W base ok' g h cap cs pg s := by
  refine { r with okb := hb, okg := hs _ r.okg, okh := hs _ r.okh, okp := fun i hi => hs _ (r.okp i hi), pgs := fun i b hi => ?_ }
  obtain ⟨ps, h1, h2⟩ := r.pgs i b hi
  refine ⟨ps, h1, fun j xs hj => ?_⟩
  obtain ⟨v, h3, h4⟩ := h2 j xs hj
  exact ⟨v, h3, Kd.R_mono h4 hs⟩
theorem RRep.gh (r : RRep W base ok g h cap cs pg s) : g ≠ h := type_ne r.hg r.hh (by decide)
theorem RRep.gp (r : RRep W base ok g h cap cs pg s) {i : Nat} {ps : Array Value} (hp : W.heap[pg i]? = some (.cells ps 22 (0, 0))) : g ≠ pg i := type_ne r.hg hp (by decide)
theorem RRep.hp (r : RRep W base ok g h cap cs pg s) {i : Nat} {ps : Array Value} (hp : W.heap[pg i]? = some (.cells ps 22 (0, 0))) : h ≠ pg i := type_ne r.hh hp (by decide)
/-- A number of the chip's is written. -/
theorem RRep.setG (r : RRep W base ok g h cap cs pg s) (j : Nat) (v : Value) (hc : (s.rcells h cap).setIfInBounds j v = s'.rcells h cap) (hb : s'.blocks = s.blocks) (hi : s'.RInv) : RRep (W.setCell ⟨g, j, none⟩ v) base ok g h cap cs pg s' where
  okb := r.okb
  okg := r.okg
  okh := r.okh
  okp := fun i hi => r.okp i (by rw [← hb]; exact hi)
  hg := blk_put r.hg j v hc
  hh := blk_far r.hh (p := ⟨g, j, none⟩) r.gh.symm v
  le := by rw [hb]; exact r.le
  row := fun i b hi => r.row i b (by rw [← hb]; exact hi)
  pgs := fun i b hi => by
    obtain ⟨ps, h1, h2⟩ := r.pgs i b (by rw [← hb]; exact hi)
    refine ⟨ps, blk_far h1 (p := ⟨g, j, none⟩) (r.gp h1).symm v, fun j' xs hj => ?_⟩
    obtain ⟨u, h3, h4⟩ := h2 j' xs hj
    exact ⟨u, h3, Kd.R_set h4 r.hg (u8_ne _ (by decide)) j v⟩
  inj := fun i j hi hj => r.inj i j (by rw [← hb]; exact hi) (by rw [← hb]; exact hj)
  inv := hi
/-- A field of a block (not its pages) is written. -/
theorem RRep.setH (r : RRep W base ok g h cap cs pg s) (i k : Nat) (hi : i < s.blocks.length) (hk : k < 3) (f : Blk → Blk) (hf : ∀ b, (f b).pages = b.pages) (v : Value)
    (h0 : ∀ b, s.blocks[i]? = some b → (if k = 0 then v else .bool b.bad) = .bool (f b).bad) (h1 : ∀ b, s.blocks[i]? = some b → (if k = 1 then v else .int .i64 b.next) = .int .i64 (f b).next) (h2 : ∀ b, s.blocks[i]? = some b → (if k = 2 then v else .int .i64 b.count) = .int .i64 (f b).count) :
    RRep (W.setCell ⟨h, i * 4 + k, none⟩ v) base ok g h cap (cs.setIfInBounds (i * 4 + k) v) pg (s.mod i f) where
  okb := r.okb
  okg := r.okg
  okh := r.okh
  okp := fun j hj => r.okp j (by rw [mod_len] at hj; exact hj)
  hg := by rw [rmod_cells]; exact blk_far r.hg (p := ⟨h, i * 4 + k, none⟩) r.gh v
  hh := blk_set r.hh _ v
  le := by rw [mod_len]; exact r.le
  row := fun j b hj => by
    rw [mod_get] at hj
    have get : ∀ q, q ≠ i * 4 + k → (cs.setIfInBounds (i * 4 + k) v)[q]? = cs[q]? := fun q hq => by rw [Array.getElem?_setIfInBounds, if_neg (Ne.symm hq)]
    by_cases e : i = j
    · subst e
      rw [if_pos rfl] at hj
      obtain ⟨b0, hb0, rfl⟩ := Option.map_eq_some_iff.1 hj
      obtain ⟨r0, r1, r2, r3⟩ := r.row i b0 hb0
      have lt : ∀ q u, cs[q]? = some u → q < cs.size := fun q u hu => (Array.getElem?_eq_some_iff.1 hu).1
      have own : ∀ q u, cs[q]? = some u → q = i * 4 + k → (cs.setIfInBounds (i * 4 + k) v)[q]? = some v := fun q u hu hq => by
        rw [Array.getElem?_setIfInBounds, if_pos hq.symm, if_pos (hq ▸ lt q u hu)]
      refine ⟨?_, ?_, ?_, ?_⟩
      · rw [← h0 b0 hb0]
        by_cases e : k = 0
        · rw [if_pos e]; exact own _ _ r0 (by omega)
        · rw [if_neg e, get _ (by omega)]; exact r0
      · rw [← h1 b0 hb0]
        by_cases e : k = 1
        · rw [if_pos e]; exact own _ _ r1 (by omega)
        · rw [if_neg e, get _ (by omega)]; exact r1
      · rw [← h2 b0 hb0]
        by_cases e : k = 2
        · rw [if_pos e]; exact own _ _ r2 (by omega)
        · rw [if_neg e, get _ (by omega)]; exact r2
      · rw [hf, get _ (by omega)]
        exact r3
    · rw [if_neg e] at hj
      obtain ⟨r0, r1, r2, r3⟩ := r.row j b hj
      exact ⟨by rw [get _ (by omega)]; exact r0, by rw [get _ (by omega)]; exact r1, by rw [get _ (by omega)]; exact r2, by rw [get _ (by omega)]; exact r3⟩
  pgs := fun j b hj => by
    rw [mod_get] at hj
    obtain ⟨b0, hb0, hp⟩ : ∃ b0, s.blocks[j]? = some b0 ∧ b.pages = b0.pages := by
      split at hj
      · obtain ⟨b0, hb0, rfl⟩ := Option.map_eq_some_iff.1 hj
        exact ⟨b0, hb0, hf b0⟩
      · exact ⟨b, hj, rfl⟩
    obtain ⟨ps, q1, q2⟩ := r.pgs j b0 hb0
    refine ⟨ps, blk_far q1 (p := ⟨h, i * 4 + k, none⟩) (r.hp q1).symm v, fun j' xs hj' => ?_⟩
    obtain ⟨u, q3, q4⟩ := q2 j' xs (by rw [← hp]; exact hj')
    exact ⟨u, q3, Kd.R_set q4 r.hh (u8_ne _ (by decide)) _ v⟩
  inj := fun a b ha hb => r.inj a b (by rw [mod_len] at ha; exact ha) (by rw [mod_len] at hb; exact hb)
  inv := rmod_inv s i f (fun b => by rw [hf]) r.inv
/-- A page of a block is written. -/
theorem RRep.setP (r : RRep W base ok g h cap cs pg s) (i j : Nat) (hi : i < s.blocks.length) (v : Value) (xs : List Int) (hv : Kd.R (Kd.int .u8) 5 W base ok v xs) :
    RRep (W.setCell ⟨pg i, j, none⟩ v) base ok g h cap cs pg (s.mod i fun b => { b with pages := b.pages.set j xs }) := by
  obtain ⟨ps0, p1, p2⟩ := r.pgs i _ (List.getElem?_eq_getElem hi)
  exact {
  okb := r.okb
  okg := r.okg
  okh := r.okh
  okp := fun j hj => r.okp j (by rw [mod_len] at hj; exact hj)
  hg := by rw [rmod_cells]; exact blk_far r.hg (p := ⟨pg i, j, none⟩) (r.gp p1) v
  hh := blk_far r.hh (p := ⟨pg i, j, none⟩) (r.hp p1) v
  le := by rw [mod_len]; exact r.le
  row := fun a b hb => by
    rw [mod_get] at hb
    split at hb
    · obtain ⟨b0, hb0, rfl⟩ := Option.map_eq_some_iff.1 hb
      simpa using r.row a b0 hb0
    · exact r.row a b hb
  pgs := fun a b hb => by
    rw [mod_get] at hb
    by_cases e : i = a
    · subst e
      rw [if_pos rfl] at hb
      obtain ⟨b0, hb0, rfl⟩ := Option.map_eq_some_iff.1 hb
      obtain ⟨ps, q1, q2⟩ := r.pgs i b0 hb0
      refine ⟨ps.setIfInBounds j v, blk_set q1 j v, fun j' ys hj' => ?_⟩
      simp only [List.getElem?_set] at hj'
      by_cases ej : j = j'
      · subst ej
        rw [if_pos rfl] at hj'
        split at hj'
        · rename_i hlt
          obtain rfl := Option.some.inj hj'
          obtain ⟨u, q3, _⟩ := q2 j _ (List.getElem?_eq_getElem hlt)
          exact ⟨v, by rw [Array.getElem?_setIfInBounds, if_pos rfl, if_pos (Array.getElem?_eq_some_iff.1 q3).1], Kd.R_set hv q1 (u8_ne _ (by decide)) _ v⟩
        · cases hj'
      · rw [if_neg ej] at hj'
        obtain ⟨u, q3, q4⟩ := q2 j' ys hj'
        exact ⟨u, by rw [Array.getElem?_setIfInBounds, if_neg ej]; exact q3, Kd.R_set q4 q1 (u8_ne _ (by decide)) _ v⟩
    · rw [if_neg e] at hb
      obtain ⟨ps, q1, q2⟩ := r.pgs a b hb
      refine ⟨ps, blk_far q1 (p := ⟨pg i, j, none⟩) (fun e2 => e (r.inj i a hi (List.getElem?_eq_some_iff.1 hb).1 e2.symm)) v, fun j' ys hj' => ?_⟩
      obtain ⟨u, q3, q4⟩ := q2 j' ys hj'
      exact ⟨u, q3, Kd.R_set q4 p1 (u8_ne _ (by decide)) _ v⟩
  inj := fun a b ha hb => r.inj a b (by rw [mod_len] at ha; exact ha) (by rw [mod_len] at hb; exact hb)
  inv := rmod_inv s i _ (fun b => by simp) r.inv }
theorem IsRef.below (r : IsRef W base ok g s) (hb : Below W.heap.size W W1) : IsRef W1 base ok g s := by
  obtain ⟨h, cap, cs, pg, r⟩ := r
  exact ⟨h, cap, cs, pg, r.below hb⟩
theorem IsRef.tight (r : IsRef W base ok g s) : IsRef W base (fun k => ok k ∧ k < W.heap.size) g s := by
  obtain ⟨h, cap, cs, pg, r⟩ := r
  exact ⟨h, cap, cs, pg, r.tight⟩
theorem IsRef.mono (r : IsRef W base ok g s) (hs : ∀ k, ok k → ok' k) (hb : ∀ k, ok' k → base ≤ k) : IsRef W base ok' g s := by
  obtain ⟨h, cap, cs, pg, r⟩ := r
  exact ⟨h, cap, cs, pg, r.mono hs hb⟩
theorem IsRef.okb (r : IsRef W base ok g s) : ∀ k, ok k → base ≤ k := by
  obtain ⟨h, cap, cs, pg, r⟩ := r
  exact r.okb
theorem IsRef.inv (r : IsRef W base ok g s) : s.RInv := by
  obtain ⟨h, cap, cs, pg, r⟩ := r
  exact r.inv
theorem IsRef.lt (r : IsRef W base ok g s) : g < W.heap.size := by
  obtain ⟨h, cap, cs, pg, r⟩ := r
  exact blk_lt r.hg
theorem IsRef.keep (r : IsRef W base ok g s) (hs : W.heap.size ≤ W1.heap.size) (hk : ∀ k, ok k → k < W.heap.size → W1.heap[k]? = W.heap[k]?) : IsRef W1 base ok g s := by
  obtain ⟨h, cap, cs, pg, r⟩ := r
  exact ⟨h, cap, cs, pg, r.keep hs hk⟩
theorem IsRef.kp {S : Nat → Prop} (r : IsRef W base ok g s) (hk : Kp S W W1) (hn : ∀ k, ok k → ¬ S k) : IsRef W1 base ok g s := r.keep hk.bel.size (fun k ho hlt => hk.block k hlt (hn k ho))
end
end Go.Proofs.Ytloldgiggnhemaa.Cp
