import Derived.Test.YtloldgiggnhemaaWWords
import Derived.Test.YtloldgiggnhemaaWLast
import Derived.Test.YtloldgiggnhemaaWTab
import Derived.Test.YtloldgiggnhemaaWMore
import Derived.Test.YtloldgiggnhemaaWKept
set_option linter.unusedVariables false
set_option linter.unusedSimpArgs false
/-! What a call keeps: all but the blocks of S. Plain, over any program. -/
namespace Go.Proofs.Ytloldgiggnhemaa.Kp
open Go.RowKit Go.Proofs.YtloldgiggnhemaaW.PrintWords Go.Proofs.YtloldgiggnhemaaW.PrintLast

structure Kp (S : Nat → Prop) (w w' : World) : Prop where
  bel : Below 0 w w'
  block : ∀ i, i < w.heap.size → ¬ S i → w'.heap[i]? = w.heap[i]?
section
variable {S S' : Nat → Prop} {w w1 w2 : World}
theorem Kp.refl (S : Nat → Prop) (w : World) : Kp S w w := ⟨Below.refl _ _, fun _ _ _ => rfl⟩
theorem Kp.of_below (h : Below w.heap.size w w1) (S : Nat → Prop) : Kp S w w1 := ⟨h.mono (Nat.zero_le _), fun i hi _ => h.block i hi⟩
theorem Kp.trans (h : Kp S w w1) (k : Kp S w1 w2) : Kp S w w2 := ⟨h.bel.trans k.bel, fun i hi hn => (k.block i (Nat.lt_of_lt_of_le hi h.bel.size) hn).trans (h.block i hi hn)⟩
theorem Kp.mono (h : Kp S w w1) (hs : ∀ k, S k → S' k) : Kp S' w w1 := ⟨h.bel, fun i hi hn => h.block i hi (fun hk => hn (hs i hk))⟩
/-- New blocks need not be named. -/
theorem Kp.monoLt (h : Kp S w w1) (hs : ∀ k, k < w.heap.size → S k → S' k) : Kp S' w w1 := ⟨h.bel, fun i hi hn => h.block i hi (fun hk => hn (hs i hi hk))⟩
theorem Kp.below (h : Kp S w w1) (hb : Below w1.heap.size w1 w2) : Kp S w w2 := h.trans (Kp.of_below hb S)
theorem Kp.set (h : Kp S w w1) {p : Addr} (hp : S p.block) (v : Value) : Kp S w (w1.setCell p v) :=
  ⟨h.bel.setCell (Nat.zero_le _) v, fun i hi hn => (Below.heap_setCell w1 p v i (fun e => hn (e ▸ hp))).trans (h.block i hi hn)⟩
theorem Kp.setNew (h : Kp S w w1) {p : Addr} (hp : w.heap.size ≤ p.block) (v : Value) : Kp S w (w1.setCell p v) :=
  ⟨h.bel.setCell (Nat.zero_le _) v, fun i hi hn => (Below.heap_setCell w1 p v i (fun e => by rw [← e] at hp; omega)).trans (h.block i hi hn)⟩
theorem Kp.drew (h : Kp S w w1) : Kp S w w1.drew := ⟨below_drew h.bel, h.block⟩
theorem Kp.blk (h : Kp S w w1) {g : Nat} {o : Obj} (hb : w.heap[g]? = some o) (hn : ¬ S g) : w1.heap[g]? = some o := (h.block g (blk_lt hb) hn).trans hb
/-- From an elder world on. -/
theorem Kp.elder {w0 : World} {base : Nat} (h0 : Below base w0 w) (hbase : base ≤ w.heap.size) (h : Kp S w w1) (hs : ∀ k, S k → base ≤ k) : Below base w0 w1 :=
  ⟨h.bel.os.trans h0.os, h.bel.tape.trans h0.tape, h.bel.output.trans h0.output, Nat.le_trans h0.size h.bel.size, fun k hk => (h.block k (Nat.lt_of_lt_of_le hk hbase) (fun hn => by have := hs k hn; omega)).trans (h0.block k hk)⟩
theorem Kp.R {α : Type} {d : Kd α} {e base : Nat} {ok : Nat → Prop} {v : Value} {xs : List α} (h : Kp S w w1) (hR : d.R e w base ok v xs) (hn : ∀ k, ok k → ¬ S k) : d.R e w1 base ok v xs := Kd.R_step hR (fun k ho hk => h.block k hk (hn k ho))
theorem Kp.cell (h : Kp S w w1) {a : Addr} {v : Value} (hc : w.cell? a = some v) (hn : ¬ S a.block) : w1.cell? a = some v := by
  have hlt := World.block_lt_of_cell? w a hc
  have hb := h.block a.block hlt hn
  unfold World.cell? at hc ⊢
  rw [hb]
  exact hc
end
end Go.Proofs.Ytloldgiggnhemaa.Kp
