/-
  Iterators at the wide fence: what a round must keep is named by blocks ('KpS'); small words for callers.
-/
import Derived.RangeFuncNested
import Derived.RangeFuncBound
import Derived.RangeFuncCalls
import Derived.RangeFuncLeaves
import Derived.RangeFuncBox
import Derived.Shelf.Abstract
import Derived.WalkKit
import Derived.OwnWalkIn
import Derived.TacticsInMore
import Derived.LoopNIn
import Derived.LoopIn
import Derived.Maps.AppendAt
set_option linter.unusedVariables false
set_option linter.unusedSimpArgs false
namespace Go.Proofs.Ytloldgiggnhemaa.Iter
open Go.RowKit Go.Shelf

theorem room_of_none {F : Fence} (hd : F.depth = none) (k : Nat) : F.room k := fun d h => by rw [hd] at h; cases h
theorem roundIn_anyDepth {F : Fence} (hd : F.depth = none) {m m' : Nat} {P : Program} {l : Nat} {f : FuncId} {tmps : Array Value} {assign body : Code} {w : World} {R : Ending → World → Prop}
    (h : RoundIn F m P l f tmps assign body w R) : RoundIn F m' P l f tmps assign body w R := ⟨h.1, fun c cs _ => h.2 c cs (room_of_none hd _)⟩
theorem yieldAt_anyDepth {F : Fence} (hd : F.depth = none) {m : Nat} (m' : Nat) {P : Program} {l : Nat} {args : Array Value} {W : World} {R : Ending → World → Prop} (h : YieldAt F m P l args W R) : YieldAt F m' P l args W R := by
  obtain ⟨fn, tmps, assign, body, hy, hR⟩ := h
  exact ⟨fn, tmps, assign, body, hy, roundIn_anyDepth hd hR⟩

/-- The blocks of cells that are named lie as they lay. -/
def KpS (S : Nat → Prop) (W W' : World) : Prop := ∀ k, S k → ∀ c t f, W.heap[k]? = some (.cells c t f) → W'.heap[k]? = some (.cells c t f)
theorem KpS.refl (S : Nat → Prop) (W : World) : KpS S W W := fun _ _ _ _ _ h => h
theorem KpS.trans {S : Nat → Prop} {A B C : World} (h : KpS S A B) (k : KpS S B C) : KpS S A C := fun i hi c t f hh => k i hi c t f (h i hi c t f hh)
theorem KpS.t {S : Nat → Prop} : ∀ {A B C : World}, KpS S A B → KpS S B C → KpS S A C := fun h k => h.trans k
theorem KpS.b {S : Nat → Prop} {B : Nat} : ∀ (W : World) (l : Nat) (o o' : Obj), B ≤ l → W.heap[l]? = some o → o.isCells = false → o.isWalk = false → KpS S W (W.putObj l o') := fun W l o o' _ hl ho _ k _ c t f hk => by
  have hne : k ≠ l := by
    rintro rfl
    rw [hk] at hl
    cases hl
    cases ho
  rw [World.putObj_heap_other hne]
  exact hk
theorem KpS.of_grownBy {S : Nat → Prop} {W W' : World} {row : Option Nat} (hg : W.grownBy W' row) (h : ∀ k, row = some k → ¬ S k) : KpS S W W' := fun k hk c t f hh =>
  (hg.block k (Array.getElem?_eq_some_iff.1 hh).1 (fun e => h k e.symm hk)).trans hh
theorem KpS.of_below {n : Nat} {S : Nat → Prop} {W W' : World} (hb : Below n W W') (h : ∀ k, S k → k < n) : KpS S W W' := fun k hk c t f hh => (hb.block k (h k hk)).trans hh
theorem KpS.mono {S S' : Nat → Prop} {W W' : World} (h : KpS S W W') (hs : ∀ k, S' k → S k) : KpS S' W W' := fun k hk => h k (hs k hk)
theorem KpS.setCell {S : Nat → Prop} (W : World) (b : Nat) (v : Value) (h : ¬ S b) : KpS S W (W.setCell ⟨b, 0, none⟩ v) := KpS.of_grownBy (grownBy_setCell' W b v) (fun k e hk => by cases e; exact h hk)
theorem KpS.alloc {S : Nat → Prop} (W : World) (o : Obj) : KpS S W (W.alloc o) := KpS.of_grownBy (World.grownBy_alloc W o none) (fun k e => by cases e)

theorem KpS.cell' {S : Nat → Prop} {W W' : World} (h : KpS S W W') {a : Addr} {v : Value} (hs : S a.block) (hc : W.cell? a = some v) : W'.cell? a = some v := by
  unfold World.cell? at hc ⊢
  cases hh : W.heap[a.block]? with
  | none => rw [hh] at hc; cases hc
  | some o =>
    rw [hh] at hc
    cases o <;> try (cases hc; done)
    rename_i cs t f
    rw [h _ hs _ _ _ hh]
    exact hc
theorem SeqStopsK.kp {α : Type} {F : Fence} {n : Nat} {P : Program} {g : Nat} {lb : Array Value} {encs : α → Array Value} {Kp Kp' : World → World → Prop} {S Sp : List α → Prop} {N : Nat} {w : World}
    (h : SeqStopsK F n P g lb encs Kp S Sp N w) (hk : ∀ A B, Kp' A B → Kp A B) : SeqStopsK F n P g lb encs Kp' S Sp N w := fun l J Jx W hW hJ hJx hY h0 =>
  h l J Jx W hW hJ hJx (fun pre x W1 hj hl => YieldAt.mono (hY pre x W1 hj hl) fun e W' hr => hr.imp (fun ⟨a, b, c⟩ => ⟨a, b, hk _ _ c⟩) id) h0
theorem SeqStopsK.later {α : Type} {F : Fence} {n : Nat} {P : Program} {g : Nat} {lb : Array Value} {encs : α → Array Value} {Kp : World → World → Prop} {S Sp : List α → Prop} {N : Nat} {w w' : World}
    (h : SeqStopsK F n P g lb encs Kp S Sp N w) (hb : Below w.heap.size w w') : SeqStopsK F n P g lb encs Kp S Sp N w' :=
  fun l J Jx W hW hJ hJx hY h0 => h l J Jx W (hb.trans (hW.mono hb.size)) hJ hJx hY h0
/-- An iterator of bare values serves where the elements bear a proof, if all that come do. -/
theorem hdd : ∀ k : Nat, (Fence.wide.depth.isSome = true → 1 ≤ k) := fun k h => by cases h
end Go.Proofs.Ytloldgiggnhemaa.Iter
