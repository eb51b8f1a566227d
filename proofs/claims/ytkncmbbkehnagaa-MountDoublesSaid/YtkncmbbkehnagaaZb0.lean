import Derived.ChangeArms
import Derived.DataReads
import Derived.DataElems
import Derived.Deep.Slices
import Derived.WideShapes
import Derived.Carry
import Derived.SizedLaws
import Derived.Test.YtkncmbbkehnagaaZWWords
import Derived.Test.YtkncmbbkehnagaaZWLast
import Derived.Test.YtkncmbbkehnagaaZWTab
import Derived.Test.YtkncmbbkehnagaaZWMore
import Derived.Test.YtkncmbbkehnagaaZWKept
import Derived.Test.YtkncmbbkehnagaaProg
import Derived.Below
import Derived.Tactics
import Derived.WalkKit
import Derived.KernelRfl
import Derived.RowKit3
import Derived.Deep.QuietTactic
import Derived.BigQuiet
import Derived.Deep.DeepCutAuto
import Derived.WalkSpells
import Derived.Test.YtkncmbbkehnagaaZWFoot
/-
  How an argument that can be read as data is opened into the printed words' descriptors ('Kd'): one lemma for each shape of type. Plain, over any program.
-/
set_option linter.unusedVariables false
set_option linter.unusedSimpArgs false
namespace Go.Proofs.Ytkncmbbkehnagaa.Opens
open Go.RowKit Go.Proofs.YtkncmbbkehnagaaW.PrintWords Go.WideShapes

/-- Whatever reads as data of type t is described by d, and is well formed. -/
structure Opens {α : Type} (P : Program) (t : TypeId) (d : Kd α) (ok : α → Prop) : Prop where
  cells : P.cellsOf t = d.sz
  out : ∀ {H : Type} {enc : TypeId × Value → H} {w : World} {base : Nat} {spare : Nat → Bool} {held : Bool} {fuel : Nat} {cs : List Value} {x : DataW H × List MemPlace},
    DataW.trod enc P w base spare held fuel t cs = some x → ∃ y, d.K w y cs ∧ ok y

theorem opens_int {P : Program} {t : TypeId} {k : IntKind} (ht : P.underlying t = some (.int k)) (hc : P.cellsOf t = 1) : Opens P t (Kd.int k) (fun n => (Lit.int k n).wf = true) :=
  ⟨hc, fun h => by
    obtain ⟨n, rfl, _, hw⟩ := DataW.trod_int ht h
    exact ⟨n, rfl, hw⟩⟩
theorem opens_bool {P : Program} {t : TypeId} (ht : P.underlying t = some .bool) (hc : P.cellsOf t = 1) : Opens P t Kd.bool (fun _ => True) :=
  ⟨hc, fun h => by
    obtain ⟨b, rfl, _⟩ := DataW.trod_bool ht h
    exact ⟨b, rfl, trivial⟩⟩
theorem list_of_lt {α : Type} {p : Nat → α → Prop} : ∀ n, (∀ i, i < n → ∃ y, p i y) → ∃ xs : List α, xs.length = n ∧ ∀ i y, xs[i]? = some y → p i y
  | 0, _ => ⟨[], rfl, fun i y h => by simp at h⟩
  | n + 1, h => by
    obtain ⟨xs, hl, hp⟩ := list_of_lt n (fun i hi => h i (by omega))
    obtain ⟨y, hy⟩ := h n (by omega)
    refine ⟨xs ++ [y], by simp [hl], fun i z hz => ?_⟩
    by_cases hi : i < n
    · rw [List.getElem?_append_left (by omega)] at hz
      exact hp i z hz
    · have : i < (xs ++ [y]).length := by
        rcases Nat.lt_or_ge i (xs ++ [y]).length with h' | h'
        · exact h'
        · rw [List.getElem?_eq_none h'] at hz
          cases hz
      obtain rfl : i = n := by
        simp at this
        omega
      rw [List.getElem?_append_right (by omega), hl, Nat.sub_self] at hz
      obtain rfl : y = z := by simpa using hz
      exact hy

/-- A row of cells that reads as a row of elements. -/
theorem row_of {α : Type} {P : Program} {e : TypeId} {d : Kd α} {ok : α → Prop} (hd : Opens P e d ok) {H : Type} {enc : TypeId × Value → H} {w : World} {base : Nat} {spare : Nat → Bool} {held : Bool} {n : Nat} {a : Addr} {len : Nat} (hlen : len ≤ maxLen)
    {D : Nat → DataW H} {Pl : Nat → List MemPlace} (hx : ∀ i, i < len → ∃ cs', w.cells? base (a.add (i * P.cellsOf e)) (P.cellsOf e) = some cs' ∧ DataW.trod enc P w base spare held n e cs' = some (D i, Pl i)) :
    ∃ xs : List α, xs.length = len ∧ d.C w (some a) len xs ∧ ∀ x ∈ xs, ok x := by
  obtain ⟨xs, hl, hp⟩ := list_of_lt (α := α) (p := fun i y => ∃ cs', w.cells? base (a.add (i * P.cellsOf e)) (P.cellsOf e) = some cs' ∧ d.K w y cs' ∧ ok y) len (fun i hi => by
    obtain ⟨cs', h1, h2⟩ := hx i hi
    obtain ⟨y, hK, hok⟩ := hd.out h2
    exact ⟨y, cs', h1, hK, hok⟩)
  refine ⟨xs, hl, ⟨hl, by unfold maxLen at hlen; omega, fun _ => ⟨a, rfl, fun j p hj => ?_⟩⟩, fun x hx => ?_⟩
  · obtain ⟨cs', h1, hK, _⟩ := hp j p hj
    obtain ⟨_, hcl, hcc⟩ := World.cells?_some h1
    refine ⟨cs', by rw [hcl, hd.cells], hK, fun i u hu => ?_⟩
    have hi : i < P.cellsOf e := by
      rcases Nat.lt_or_ge i cs'.length with h' | h'
      · omega
      · rw [List.getElem?_eq_none h'] at hu
        cases hu
    rw [← hd.cells, ← Deep.add_add, hcc i hi, hu]
  · obtain ⟨i, hi, rfl⟩ := List.getElem_of_mem hx
    obtain ⟨_, _, _, hok⟩ := hp i _ (List.getElem?_eq_getElem hi)
    exact hok

theorem opens_slice {α : Type} {P : Program} {t e : TypeId} {d : Kd α} {ok : α → Prop} (hd : Opens P e d ok) (ht : P.underlying t = some (.slice e)) (hc : P.cellsOf t = 1) :
    Opens P t (Kd.slice e d) (fun xs => xs.length ≤ maxLen ∧ ∀ x ∈ xs, ok x) :=
  ⟨hc, fun {H enc w base spare held fuel cs x} h => by
    rcases Deep.open_slice ht h with ⟨rfl, _⟩ | ⟨a, len, cap, m, n, D, Pl, rfl, _, hl, hm, hmm, _, hx⟩
    · exact ⟨[], ⟨none, 0, rfl, Nat.le_refl _, rfl, by simp, fun h0 => absurd h0 (by simp)⟩, Nat.zero_le _, fun x hx => absurd hx (by simp)⟩
    · have hml : len ≤ m := by rw [hmm]; split <;> omega
      obtain ⟨xs, hxl, hC, hok⟩ := row_of hd (Nat.le_trans hl hm) (fun i hi => hx i (Nat.lt_of_lt_of_le hi hml))
      subst hxl
      exact ⟨xs, ⟨some a, cap, rfl, hl, hC⟩, Nat.le_trans hl hm, hok⟩⟩

/-- A slice among the arguments. -/
theorem open_slice_arg {α : Type} {P : Program} {t e : TypeId} {d : Kd α} {ok : α → Prop} (hd : Opens P e d ok) (ht : P.underlying t = some (.slice e)) {H : Type} {enc : TypeId × Value → H} {w : World} {base : Nat} {spare : Nat → Bool} {held : Bool} {v : Value} {D : DataW H} {ps : List MemPlace}
    (hv : ∃ a len cap, v = .slice a len cap) (h : DataW.Trod enc P w base spare held t v D ps) : ∃ A cap, ∃ xs : List α, v = .slice A xs.length cap ∧ xs.length ≤ cap ∧ d.C w A xs.length xs ∧ xs.length ≤ maxLen ∧ ∀ x ∈ xs, ok x := by
  obtain ⟨a, len, cap, rfl⟩ := hv
  obtain ⟨fuel, hf⟩ := h
  rcases Deep.open_slice ht hf with ⟨hcs, _⟩ | ⟨a', len', cap', m, n, D, Pl, hcs, _, hl, hm, hmm, _, hx⟩
  · simp [Value.cells] at hcs
    obtain ⟨rfl, rfl, rfl⟩ := hcs
    exact ⟨none, 0, [], rfl, Nat.le_refl _, ⟨rfl, by simp, fun h0 => absurd h0 (by simp)⟩, Nat.zero_le _, fun x hx => absurd hx (by simp)⟩
  · simp [Value.cells] at hcs
    obtain ⟨rfl, rfl, rfl⟩ := hcs
    have hml : len ≤ m := by rw [hmm]; split <;> omega
    obtain ⟨xs, hxl, hC, hok⟩ := row_of hd (Nat.le_trans hl hm) (fun i hi => hx i (Nat.lt_of_lt_of_le hi hml))
    subst hxl
    exact ⟨_, _, xs, rfl, hl, hC, Nat.le_trans hl hm, hok⟩

/-- The fields of a struct, from one on, lie one behind the other. -/
structure OpensF {α : Type} (P : Program) (fs : List Field) (o : Nat) (d : Kd α) (ok : α → Prop) : Prop where
  out : ∀ {H : Type} {enc : TypeId × Value → H} {w : World} {base : Nat} {spare : Nat → Bool} {held : Bool} {n : Nat} {cs : List Value} {xs : List (DataW H × List MemPlace)}, xs.length = fs.length →
    (∀ (i : Nat) (f : Field), fs[i]? = some f → DataW.trod enc P w base spare held n f.type ((cs.drop f.offset).take (P.cellsOf f.type)) = xs[i]?) →
    ∃ y, d.K w y ((cs.drop o).take d.sz) ∧ ok y
theorem opensF_one {α : Type} {P : Program} {f : Field} {d : Kd α} {ok : α → Prop} {o : Nat} (hd : Opens P f.type d ok) (ho : f.offset = o) : OpensF P [f] o d ok := ⟨fun {H enc w base spare held n cs xs} hl h => by
  have h0 := h 0 f rfl
  have hx : ∃ y, xs[0]? = some y := by cases xs with
    | nil => simp at hl
    | cons y ys => exact ⟨y, rfl⟩
  obtain ⟨y, hy⟩ := hx
  rw [hy] at h0
  obtain ⟨z, hK, hz⟩ := hd.out h0
  rw [hd.cells, ho] at hK
  exact ⟨z, hK, hz⟩⟩
theorem opensF_cons {α β : Type} {P : Program} {f : Field} {fs : List Field} {d : Kd α} {d' : Kd β} {ok : α → Prop} {ok' : β → Prop} {o : Nat} (hd : Opens P f.type d ok) (ho : f.offset = o) (hr : OpensF P fs (o + d.sz) d' ok') :
    OpensF P (f :: fs) o (Kd.pair d d') (fun x => ok x.1 ∧ ok' x.2) := ⟨fun {H enc w base spare held n cs xs} hl h => by
  have h0 := h 0 f rfl
  cases xs with
  | nil => simp at hl
  | cons y ys =>
    obtain ⟨z, hK, hz⟩ := hd.out (h0.trans (by simp : (y :: ys)[0]? = some y))
    rw [hd.cells, ho] at hK
    obtain ⟨z', hK', hz'⟩   := hr.out (xs := ys) (by simpa using hl) (fun i g hg => by simpa using h (i + 1) g (by simpa using hg))
    refine ⟨(z, z'), ⟨_, _, ?_, hK, hK'⟩, hz, hz'⟩
    show ((cs.drop o).take (d.sz + d'.sz)) = _
    rw [List.take_add, List.drop_drop]⟩
theorem opens_struct {α : Type} {P : Program} {t : TypeId} {fs : Array Field} {d : Kd α} {ok : α → Prop} (ht : P.underlying t = some (.struct fs)) (hc : P.cellsOf t = d.sz) (hf : OpensF P fs.toList 0 d ok) : Opens P t d ok :=
  ⟨hc, fun {H enc w base spare held fuel cs x} h => by
    obtain ⟨xs, n, _, _, hl, hxl, hx⟩ := DataW.trod_struct ht h
    obtain ⟨y, hK, hy⟩ := hf.out (xs := xs) (by simpa using hxl) (fun i f hg => hx i f (by simpa using hg))
    rw [List.drop_zero, ← hc, ← hl, List.take_length] at hK
    exact ⟨y, hK, hy⟩⟩
theorem opens_iso {α β : Type} {P : Program} {t : TypeId} {d : Kd α} {ok : α → Prop} (f : β → α) (g : α → β) (hfg : ∀ x, f (g x) = x) (h : Opens P t d ok) : Opens P t (Kd.iso d f) (fun x => ok (f x)) :=
  ⟨h.cells, fun {H enc w base spare held fuel cs x} hx => by
    obtain ⟨y, hK, hy⟩ := h.out hx
    exact ⟨g y, by show d.K _ (f (g y)) _; rw [hfg]; exact hK, by show ok (f (g y)); rw [hfg]; exact hy⟩⟩
end Go.Proofs.Ytkncmbbkehnagaa.Opens

set_option linter.unusedVariables false
set_option linter.unusedSimpArgs false
/-! What a call keeps: all but the blocks of S. Plain, over any program. -/
namespace Go.Proofs.Ytkncmbbkehnagaa.Kp
open Go.RowKit Go.Proofs.YtkncmbbkehnagaaW.PrintWords Go.Proofs.YtkncmbbkehnagaaW.PrintLast

structure Kp (S : Nat → Prop) (w w' : World) : Prop where
  bel : Below 0 w w'
  block : ∀ i, i < w.heap.size → ¬ S i → w'.heap[i]? = w.heap[i]?
section
variable {S S' : Nat → Prop} {w w1 w2 : World}
theorem Kp.refl (S : Nat → Prop) (w : World) : Kp S w w := ⟨Below.refl _ _, fun _ _ _ => rfl⟩
theorem Kp.of_below (h : Below w.heap.size w w1) (S : Nat → Prop) : Kp S w w1 := ⟨h.mono (Nat.zero_le _), fun i hi _ => h.block i hi⟩
theorem Kp.trans (h : Kp S w w1) (k : Kp S w1 w2) : Kp S w w2 := ⟨h.bel.trans k.bel, fun i hi hn => (k.block i (Nat.lt_of_lt_of_le hi h.bel.size) hn).trans (h.block i hi hn)⟩
theorem Kp.mono (h : Kp S w w1) (hs : ∀ k, S k → S' k) : Kp S' w w1 := ⟨h.bel, fun i hi hn => h.block i hi (fun hk => hn (hs i hk))⟩
theorem Kp.below (h : Kp S w w1) (hb : Below w1.heap.size w1 w2) : Kp S w w2 := h.trans (Kp.of_below hb S)
theorem Kp.set (h : Kp S w w1) {p : Addr} (hp : S p.block) (v : Value) : Kp S w (w1.setCell p v) :=
  ⟨h.bel.setCell (Nat.zero_le _) v, fun i hi hn => (Below.heap_setCell w1 p v i (fun e => hn (e ▸ hp))).trans (h.block i hi hn)⟩
theorem Kp.drew (h : Kp S w w1) : Kp S w w1.drew := ⟨below_drew h.bel, h.block⟩
theorem Kp.blk (h : Kp S w w1) {g : Nat} {o : Obj} (hb : w.heap[g]? = some o) (hn : ¬ S g) : w1.heap[g]? = some o := (h.block g (blk_lt hb) hn).trans hb
/-- From an elder world on. -/
theorem Kp.elder {w0 : World} {base : Nat} (h0 : Below base w0 w) (hbase : base ≤ w.heap.size) (h : Kp S w w1) (hs : ∀ k, S k → base ≤ k) : Below base w0 w1 :=
  ⟨h.bel.os.trans h0.os, h.bel.tape.trans h0.tape, h.bel.output.trans h0.output, Nat.le_trans h0.size h.bel.size, fun k hk => (h.block k (Nat.lt_of_lt_of_le hk hbase) (fun hn => by have := hs k hn; omega)).trans (h0.block k hk)⟩
theorem Kp.R {α : Type} {d : Kd α} {e base : Nat} {ok : Nat → Prop} {v : Value} {xs : List α} (h : Kp S w w1) (hR : d.R e w base ok v xs) (hn : ∀ k, ok k → ¬ S k) : d.R e w1 base ok v xs := Kd.R_step hR (fun k ho hk => h.block k hk (hn k ho))
theorem Kp.cell (h : Kp S w w1) {a : Addr} {v : Value} (hc : w.cell? a = some v) (hn : ¬ S a.block) : w1.cell? a = some v := by
  have hlt := World.block_lt_of_cell? w a hc
  have hb := h.block a.block hlt hn
  unfold World.cell? at hc ⊢
  rw [hb]
  exact hc
end
end Go.Proofs.Ytkncmbbkehnagaa.Kp

set_option linter.unusedVariables false
set_option linter.unusedSimpArgs false
/-! The chip as it lies in memory. -/
namespace Go.Proofs.Ytkncmbbkehnagaa.Cp
open Go.RowKit Go.Proofs.YtkncmbbkehnagaaW.PrintWords Go.Proofs.YtkncmbbkehnagaaW.PrintLast Go.Proofs.Ytkncmbbkehnagaa.Kp

structure Blk where
  bad : Bool
  next : Int
  count : Int
  pages : List (List Int)
structure Chp where
  blocks : List Blk
  pages : Int
  br : Int
  bp : Int
  be : Int
  fail : Int
  worn : Int
  cut : Int
  keep : Int
  down : Bool
def Chp.cells (s : Chp) (h cap : Nat) : Array Value := #[.slice (some ⟨h, 0, none⟩) s.blocks.length cap, .int .i64 s.pages, .int .i64 s.br, .int .i64 s.bp, .int .i64 s.be, .int .i64 s.fail, .int .i64 s.worn, .int .i64 s.cut, .int .i64 s.keep, .bool s.down]
def Chp.mod (s : Chp) (i : Nat) (f : Blk → Blk) : Chp := { s with blocks := s.blocks.modify i f }
/-- What the numbers are. -/
structure Chp.Inv (s : Chp) : Prop where
  p1 : 1 ≤ s.pages
  p2 : s.pages ≤ 32
  n2 : s.blocks.length ≤ 64
  f1 : -1 ≤ s.fail
  f2 : s.fail ≤ 9223372036854775807
  w1 : -1 ≤ s.worn
  w2 : s.worn ≤ 9223372036854775807
  c1 : -1 ≤ s.cut
  c2 : s.cut ≤ 9223372036854775807
  k1 : 0 ≤ s.keep
  k2 : s.keep ≤ 9223372036854775807
  len : ∀ b ∈ s.blocks, (b.pages.length : Int) = s.pages
structure Rep (W : World) (base : Nat) (ok : Nat → Prop) (g h cap : Nat) (cs : Array Value) (pg : Nat → Nat) (s : Chp) : Prop where
  okb : ∀ k, ok k → base ≤ k
  okg : ok g
  okh : ok h
  okp : ∀ i : Nat, i < s.blocks.length → ok (pg i)
  hg : W.heap[g]? = some (.cells (s.cells h cap) 72 (0, 0))
  hh : W.heap[h]? = some (.cells cs 79 (0, 0))
  le : s.blocks.length ≤ cap
  row : ∀ (i : Nat) (b : Blk), s.blocks[i]? = some b → cs[i * 4]? = some (.bool b.bad) ∧ cs[i * 4 + 1]? = some (.int .i64 b.next) ∧ cs[i * 4 + 2]? = some (.int .i64 b.count) ∧ cs[i * 4 + 3]? = some (.slice (some ⟨pg i, 0, none⟩) b.pages.length b.pages.length)
  pgs : ∀ (i : Nat) (b : Blk), s.blocks[i]? = some b → ∃ ps : Array Value, W.heap[pg i]? = some (.cells ps 26 (0, 0)) ∧ ∀ (j : Nat) (xs : List Int), b.pages[j]? = some xs → ∃ v : Value, ps[j]? = some v ∧ Kd.R (Kd.int .u8) 5 W base ok v xs
  inj : ∀ i j : Nat, i < s.blocks.length → j < s.blocks.length → pg i = pg j → i = j
  inv : s.Inv
def IsChip (W : World) (base : Nat) (ok : Nat → Prop) (g : Nat) (s : Chp) : Prop := ∃ h cap cs pg, Rep W base ok g h cap cs pg s

section
variable {W W1 : World} {base : Nat} {ok ok' : Nat → Prop} {g h cap : Nat} {cs : Array Value} {pg : Nat → Nat} {s s' : Chp}
theorem type_ne {a b t t' : Nat} {c c' : Array Value} (ha : W.heap[a]? = some (.cells c t (0, 0))) (hb : W.heap[b]? = some (.cells c' t' (0, 0))) (hne : t ≠ t') : a ≠ b := by
  rintro rfl
  rw [ha] at hb
  injection hb with hb
  injection hb with _ hb
  exact hne hb
theorem u8_ne (t : Nat) (h : 5 ≠ t) : ∀ q, q ∈ 5 :: (Kd.int .u8).E → q ≠ t := fun q hq => by
  rcases List.mem_cons.1 hq with rfl | hq
  · exact h
  · cases hq
/-- What is the chip's stays where it is. -/
theorem Rep.keep (r : Rep W base ok g h cap cs pg s) (hs : W.heap.size ≤ W1.heap.size) (hk : ∀ k, ok k → k < W.heap.size → W1.heap[k]? = W.heap[k]?) : Rep W1 base ok g h cap cs pg s where
  okb := r.okb
  okg := r.okg
  okh := r.okh
  okp := r.okp
  hg := (hk g r.okg (blk_lt r.hg)).trans r.hg
  hh := (hk h r.okh (blk_lt r.hh)).trans r.hh
  le := r.le
  row := r.row
  pgs := fun i b hb => by
    obtain ⟨ps, h1, h2⟩ := r.pgs i b hb
    refine ⟨ps, (hk (pg i) (r.okp i (List.getElem?_eq_some_iff.1 hb).1) (blk_lt h1)).trans h1, fun j xs hj => ?_⟩
    obtain ⟨v, h3, h4⟩ := h2 j xs hj
    exact ⟨v, h3, Kd.R_step h4 hk⟩
  inj := r.inj
  inv := r.inv
theorem Rep.below (r : Rep W base ok g h cap cs pg s) (hb : Below W.heap.size W W1) : Rep W1 base ok g h cap cs pg s := r.keep hb.size (fun k _ hk => hb.block k hk)
/-- Fewer blocks are the chip's: those that it has. -/
theorem Rep.tight (r : Rep W base ok g h cap cs pg s) : Rep W base (fun k => ok k ∧ k < W.heap.size) g h cap cs pg s := by
  refine { r with okb := fun k hk => r.okb k hk.1, okg := ⟨r.okg, blk_lt r.hg⟩, okh := ⟨r.okh, blk_lt r.hh⟩, okp := fun i hi => ?_, pgs := fun i b hi => ?_ }
  · obtain ⟨ps, h1, _⟩ := r.pgs i _ (List.getElem?_eq_getElem hi)
    exact ⟨r.okp i hi, blk_lt h1⟩
  · obtain ⟨ps, h1, h2⟩ := r.pgs i b hi
    refine ⟨ps, h1, fun j xs hj => ?_⟩
    obtain ⟨v, h3, h4⟩ := h2 j xs hj
    exact ⟨v, h3, Kd.R_mono (Kd.R_bound h4) (fun k hk => ⟨hk.1, hk.2.2.1⟩)⟩
theorem Rep.mono (r : Rep W base ok g h cap cs pg s) (hs : ∀ k, ok k → ok' k) (hb : ∀ k, ok' k → base ≤ k) : Rep W base ok' g h cap cs pg s := by
  refine { r with okb := hb, okg := hs _ r.okg, okh := hs _ r.okh, okp := fun i hi => hs _ (r.okp i hi), pgs := fun i b hi => ?_ }
  obtain ⟨ps, h1, h2⟩ := r.pgs i b hi
  refine ⟨ps, h1, fun j xs hj => ?_⟩
  obtain ⟨v, h3, h4⟩ := h2 j xs hj
  exact ⟨v, h3, Kd.R_mono h4 hs⟩
theorem Rep.gh (r : Rep W base ok g h cap cs pg s) : g ≠ h := type_ne r.hg r.hh (by decide)
theorem Rep.gp (r : Rep W base ok g h cap cs pg s) {i : Nat} {ps : Array Value} (hp : W.heap[pg i]? = some (.cells ps 26 (0, 0))) : g ≠ pg i := type_ne r.hg hp (by decide)
theorem Rep.hp (r : Rep W base ok g h cap cs pg s) {i : Nat} {ps : Array Value} (hp : W.heap[pg i]? = some (.cells ps 26 (0, 0))) : h ≠ pg i := type_ne r.hh hp (by decide)
/-- A number of the chip's is written. -/
theorem Rep.setG (r : Rep W base ok g h cap cs pg s) (j : Nat) (v : Value) (hc : (s.cells h cap).setIfInBounds j v = s'.cells h cap) (hb : s'.blocks = s.blocks) (hi : s'.Inv) : Rep (W.setCell ⟨g, j, none⟩ v) base ok g h cap cs pg s' where
  okb := r.okb
  okg := r.okg
  okh := r.okh
  okp := fun i hi => r.okp i (by rw [← hb]; exact hi)
  hg := blk_put r.hg j v hc
  hh := blk_far r.hh (p := ⟨g, j, none⟩) r.gh.symm v
  le := by rw [hb]; exact r.le
  row := fun i b hi => r.row i b (by rw [← hb]; exact hi)
  pgs := fun i b hi => by
    obtain ⟨ps, h1, h2⟩ := r.pgs i b (by rw [← hb]; exact hi)
    refine ⟨ps, blk_far h1 (p := ⟨g, j, none⟩) (r.gp h1).symm v, fun j' xs hj => ?_⟩
    obtain ⟨u, h3, h4⟩ := h2 j' xs hj
    exact ⟨u, h3, Kd.R_set h4 r.hg (u8_ne _ (by decide)) j v⟩
  inj := fun i j hi hj => r.inj i j (by rw [← hb]; exact hi) (by rw [← hb]; exact hj)
  inv := hi
theorem mod_len (s : Chp) (i : Nat) (f : Blk → Blk) : (s.mod i f).blocks.length = s.blocks.length := by simp [Chp.mod]
theorem mod_get (s : Chp) (i : Nat) (f : Blk → Blk) (j : Nat) : (s.mod i f).blocks[j]? = if i = j then s.blocks[j]?.map f else s.blocks[j]? := by
  simp only [Chp.mod, List.getElem?_modify]
  split <;> simp_all
theorem mod_cells (s : Chp) (i : Nat) (f : Blk → Blk) (h cap : Nat) : (s.mod i f).cells h cap = s.cells h cap := by simp [Chp.cells, Chp.mod]
theorem mod_inv (s : Chp) (i : Nat) (f : Blk → Blk) (hf : ∀ b, (f b).pages.length = b.pages.length) (hi : s.Inv) : (s.mod i f).Inv := by
  refine ⟨hi.p1, hi.p2, by rw [mod_len]; exact hi.n2, hi.f1, hi.f2, hi.w1, hi.w2, hi.c1, hi.c2, hi.k1, hi.k2, fun b hb => ?_⟩
  obtain ⟨j, hj⟩ := List.getElem?_of_mem hb
  rw [mod_get] at hj
  split at hj
  · obtain ⟨b0, h0, rfl⟩ := Option.map_eq_some_iff.1 hj
    rw [hf]
    exact hi.len b0 (List.mem_of_getElem? h0)
  · exact hi.len b (List.mem_of_getElem? hj)
/-- A field of a block (not its pages) is written. -/
theorem Rep.setH (r : Rep W base ok g h cap cs pg s) (i k : Nat) (hi : i < s.blocks.length) (hk : k < 3) (f : Blk → Blk) (hf : ∀ b, (f b).pages = b.pages) (v : Value)
    (h0 : ∀ b, s.blocks[i]? = some b → (if k = 0 then v else .bool b.bad) = .bool (f b).bad) (h1 : ∀ b, s.blocks[i]? = some b → (if k = 1 then v else .int .i64 b.next) = .int .i64 (f b).next) (h2 : ∀ b, s.blocks[i]? = some b → (if k = 2 then v else .int .i64 b.count) = .int .i64 (f b).count) :
    Rep (W.setCell ⟨h, i * 4 + k, none⟩ v) base ok g h cap (cs.setIfInBounds (i * 4 + k) v) pg (s.mod i f) where
  okb := r.okb
  okg := r.okg
  okh := r.okh
  okp := fun j hj => r.okp j (by rw [mod_len] at hj; exact hj)
  hg := by rw [mod_cells]; exact blk_far r.hg (p := ⟨h, i * 4 + k, none⟩) r.gh v
  hh := blk_set r.hh _ v
  le := by rw [mod_len]; exact r.le
  row := fun j b hj => by
    rw [mod_get] at hj
    have get : ∀ q, q ≠ i * 4 + k → (cs.setIfInBounds (i * 4 + k) v)[q]? = cs[q]? := fun q hq => by rw [Array.getElem?_setIfInBounds, if_neg (Ne.symm hq)]
    by_cases e : i = j
    · subst e
      rw [if_pos rfl] at hj
      obtain ⟨b0, hb0, rfl⟩ := Option.map_eq_some_iff.1 hj
      obtain ⟨r0, r1, r2, r3⟩ := r.row i b0 hb0
      have lt : ∀ q u, cs[q]? = some u → q < cs.size := fun q u hu => (Array.getElem?_eq_some_iff.1 hu).1
      have own : ∀ q u, cs[q]? = some u → q = i * 4 + k → (cs.setIfInBounds (i * 4 + k) v)[q]? = some v := fun q u hu hq => by
        rw [Array.getElem?_setIfInBounds, if_pos hq.symm, if_pos (hq ▸ lt q u hu)]
      refine ⟨?_, ?_, ?_, ?_⟩
      · rw [← h0 b0 hb0]
        by_cases e : k = 0
        · rw [if_pos e]; exact own _ _ r0 (by omega)
        · rw [if_neg e, get _ (by omega)]; exact r0
      · rw [← h1 b0 hb0]
        by_cases e : k = 1
        · rw [if_pos e]; exact own _ _ r1 (by omega)
        · rw [if_neg e, get _ (by omega)]; exact r1
      · rw [← h2 b0 hb0]
        by_cases e : k = 2
        · rw [if_pos e]; exact own _ _ r2 (by omega)
        · rw [if_neg e, get _ (by omega)]; exact r2
      · rw [hf, get _ (by omega)]
        exact r3
    · rw [if_neg e] at hj
      obtain ⟨r0, r1, r2, r3⟩ := r.row j b hj
      exact ⟨by rw [get _ (by omega)]; exact r0, by rw [get _ (by omega)]; exact r1, by rw [get _ (by omega)]; exact r2, by rw [get _ (by omega)]; exact r3⟩
  pgs := fun j b hj => by
    rw [mod_get] at hj
    obtain ⟨b0, hb0, hp⟩ : ∃ b0, s.blocks[j]? = some b0 ∧ b.pages = b0.pages := by
      split at hj
      · obtain ⟨b0, hb0, rfl⟩ := Option.map_eq_some_iff.1 hj
        exact ⟨b0, hb0, hf b0⟩
      · exact ⟨b, hj, rfl⟩
    obtain ⟨ps, q1, q2⟩ := r.pgs j b0 hb0
    refine ⟨ps, blk_far q1 (p := ⟨h, i * 4 + k, none⟩) (r.hp q1).symm v, fun j' xs hj' => ?_⟩
    obtain ⟨u, q3, q4⟩ := q2 j' xs (by rw [← hp]; exact hj')
    exact ⟨u, q3, Kd.R_set q4 r.hh (u8_ne _ (by decide)) _ v⟩
  inj := fun a b ha hb => r.inj a b (by rw [mod_len] at ha; exact ha) (by rw [mod_len] at hb; exact hb)
  inv := mod_inv s i f (fun b => by rw [hf]) r.inv
/-- A page of a block is written. -/
theorem Rep.setP (r : Rep W base ok g h cap cs pg s) (i j : Nat) (hi : i < s.blocks.length) (v : Value) (xs : List Int) (hv : Kd.R (Kd.int .u8) 5 W base ok v xs) :
    Rep (W.setCell ⟨pg i, j, none⟩ v) base ok g h cap cs pg (s.mod i fun b => { b with pages := b.pages.set j xs }) := by
  obtain ⟨ps0, p1, p2⟩ := r.pgs i _ (List.getElem?_eq_getElem hi)
  exact {
  okb := r.okb
  okg := r.okg
  okh := r.okh
  okp := fun j hj => r.okp j (by rw [mod_len] at hj; exact hj)
  hg := by rw [mod_cells]; exact blk_far r.hg (p := ⟨pg i, j, none⟩) (r.gp p1) v
  hh := blk_far r.hh (p := ⟨pg i, j, none⟩) (r.hp p1) v
  le := by rw [mod_len]; exact r.le
  row := fun a b hb => by
    rw [mod_get] at hb
    split at hb
    · obtain ⟨b0, hb0, rfl⟩ := Option.map_eq_some_iff.1 hb
      simpa using r.row a b0 hb0
    · exact r.row a b hb
  pgs := fun a b hb => by
    rw [mod_get] at hb
    by_cases e : i = a
    · subst e
      rw [if_pos rfl] at hb
      obtain ⟨b0, hb0, rfl⟩ := Option.map_eq_some_iff.1 hb
      obtain ⟨ps, q1, q2⟩ := r.pgs i b0 hb0
      refine ⟨ps.setIfInBounds j v, blk_set q1 j v, fun j' ys hj' => ?_⟩
      simp only [List.getElem?_set] at hj'
      by_cases ej : j = j'
      · subst ej
        rw [if_pos rfl] at hj'
        split at hj'
        · rename_i hlt
          obtain rfl := Option.some.inj hj'
          obtain ⟨u, q3, _⟩ := q2 j _ (List.getElem?_eq_getElem hlt)
          exact ⟨v, by rw [Array.getElem?_setIfInBounds, if_pos rfl, if_pos (Array.getElem?_eq_some_iff.1 q3).1], Kd.R_set hv q1 (u8_ne _ (by decide)) _ v⟩
        · cases hj'
      · rw [if_neg ej] at hj'
        obtain ⟨u, q3, q4⟩ := q2 j' ys hj'
        exact ⟨u, by rw [Array.getElem?_setIfInBounds, if_neg ej]; exact q3, Kd.R_set q4 q1 (u8_ne _ (by decide)) _ v⟩
    · rw [if_neg e] at hb
      obtain ⟨ps, q1, q2⟩ := r.pgs a b hb
      refine ⟨ps, blk_far q1 (p := ⟨pg i, j, none⟩) (fun e2 => e (r.inj i a hi (List.getElem?_eq_some_iff.1 hb).1 e2.symm)) v, fun j' ys hj' => ?_⟩
      obtain ⟨u, q3, q4⟩ := q2 j' ys hj'
      exact ⟨u, q3, Kd.R_set q4 p1 (u8_ne _ (by decide)) _ v⟩
  inj := fun a b ha hb => r.inj a b (by rw [mod_len] at ha; exact ha) (by rw [mod_len] at hb; exact hb)
  inv := mod_inv s i _ (fun b => by simp) r.inv }
theorem IsChip.below (r : IsChip W base ok g s) (hb : Below W.heap.size W W1) : IsChip W1 base ok g s := by
  obtain ⟨h, cap, cs, pg, r⟩ := r
  exact ⟨h, cap, cs, pg, r.below hb⟩
theorem IsChip.tight (r : IsChip W base ok g s) : IsChip W base (fun k => ok k ∧ k < W.heap.size) g s := by
  obtain ⟨h, cap, cs, pg, r⟩ := r
  exact ⟨h, cap, cs, pg, r.tight⟩
theorem IsChip.mono (r : IsChip W base ok g s) (hs : ∀ k, ok k → ok' k) (hb : ∀ k, ok' k → base ≤ k) : IsChip W base ok' g s := by
  obtain ⟨h, cap, cs, pg, r⟩ := r
  exact ⟨h, cap, cs, pg, r.mono hs hb⟩
theorem IsChip.okb (r : IsChip W base ok g s) : ∀ k, ok k → base ≤ k := by
  obtain ⟨h, cap, cs, pg, r⟩ := r
  exact r.okb
theorem IsChip.inv (r : IsChip W base ok g s) : s.Inv := by
  obtain ⟨h, cap, cs, pg, r⟩ := r
  exact r.inv
theorem IsChip.lt (r : IsChip W base ok g s) : g < W.heap.size := by
  obtain ⟨h, cap, cs, pg, r⟩ := r
  exact blk_lt r.hg
theorem IsChip.keep (r : IsChip W base ok g s) (hs : W.heap.size ≤ W1.heap.size) (hk : ∀ k, ok k → k < W.heap.size → W1.heap[k]? = W.heap[k]?) : IsChip W1 base ok g s := by
  obtain ⟨h, cap, cs, pg, r⟩ := r
  exact ⟨h, cap, cs, pg, r.keep hs hk⟩
theorem IsChip.kp {S : Nat → Prop} (r : IsChip W base ok g s) (hk : Kp S W W1) (hn : ∀ k, ok k → ¬ S k) : IsChip W1 base ok g s := r.keep hk.bel.size (fun k ho hlt => hk.block k hlt (hn k ho))
end
end Go.Proofs.Ytkncmbbkehnagaa.Cp

set_option linter.unusedVariables false
set_option linter.unusedSimpArgs false
/-! The chip's small methods. -/
namespace Go.Proofs.Ytkncmbbkehnagaa.Cm
open Go.RowKit Go.Proofs.YtkncmbbkehnagaaW.PrintWords Go.Proofs.YtkncmbbkehnagaaW.PrintLast Go.Proofs.YtkncmbbkehnagaaW.PrintMore Go.Proofs.Ytkncmbbkehnagaa.Kp Go.Proofs.Ytkncmbbkehnagaa.Cp
attribute [local go_sem] max2_int min2_int max_two min_two max_three min_three max_four min_four

def hasB (s : Chp) (b : Int) : Bool := decide (0 ≤ b) && decide (b < s.blocks.length)
def spotB (s : Chp) (b p : Int) : Bool := hasB s b && (decide (0 ≤ p) && decide (p < s.pages))
/-- What a walk wants of the chip's ten cells. -/
theorem ten {W : World} {base : Nat} {ok : Nat → Prop} {g h cap : Nat} {cs : Array Value} {pg : Nat → Nat} {s : Chp} (r : Rep W base ok g h cap cs pg s) :
    (W.cell? ⟨g, 0, none⟩ = some (.slice (some ⟨h, 0, none⟩) s.blocks.length cap) ∧ W.cell? ⟨g, 1, none⟩ = some (.int .i64 s.pages) ∧ W.cell? ⟨g, 2, none⟩ = some (.int .i64 s.br) ∧ W.cell? ⟨g, 3, none⟩ = some (.int .i64 s.bp) ∧ W.cell? ⟨g, 4, none⟩ = some (.int .i64 s.be)) ∧
    (W.cell? ⟨g, 5, none⟩ = some (.int .i64 s.fail) ∧ W.cell? ⟨g, 6, none⟩ = some (.int .i64 s.worn) ∧ W.cell? ⟨g, 7, none⟩ = some (.int .i64 s.cut) ∧ W.cell? ⟨g, 8, none⟩ = some (.int .i64 s.keep) ∧ W.cell? ⟨g, 9, none⟩ = some (.bool s.down)) ∧
    ∀ j, W.frozen? ⟨g, j, none⟩ = false :=
  ⟨⟨(blk_cell r.hg 0).trans rfl, (blk_cell r.hg 1).trans rfl, (blk_cell r.hg 2).trans rfl, (blk_cell r.hg 3).trans rfl, (blk_cell r.hg 4).trans rfl⟩, ⟨(blk_cell r.hg 5).trans rfl, (blk_cell r.hg 6).trans rfl, (blk_cell r.hg 7).trans rfl, (blk_cell r.hg 8).trans rfl, (blk_cell r.hg 9).trans rfl⟩, fun j => blk_frozen r.hg j⟩

set_option maxHeartbeats 2000000 in
set_option maxRecDepth 100000 in
theorem has {w : World} {base : Nat} {ok : Nat → Prop} {g : Nat} {s : Chp} (hI : IsChip w base ok g s) (b : Int) :
    Calls Try.prog 51 #[.pointer (some ⟨g, 0, none⟩), .int .i64 b] w fun e w' => e = .returned (.bool (hasB s b)) ∧ w' = w := by
  obtain ⟨h, cap, cs, pg, r⟩ := hI
  obtain ⟨⟨c0, -⟩, -, -⟩ := ten r
  clear r
  unfold hasB
  by_cases h1 : 0 ≤ b
  · rw [decide_eq_true h1, Bool.true_and]
    go_enter Try.func51, Try.ntmps51
    go_wp2
    go_ret
    exact ⟨rfl, rfl⟩
  · rw [decide_eq_false h1, Bool.false_and]
    have h2 : decide (0 ≤ b) = false := decide_eq_false h1
    clear h1
    go_enter Try.func51, Try.ntmps51
    go_wp2
    go_ret
    exact ⟨rfl, rfl⟩
/-- What is left of what is waited for. -/
def dec (n : Int) : Int := mx (wrap64 (n - 1)) (-1)
set_option maxHeartbeats 2000000 in
set_option maxRecDepth 100000 in
theorem comes {w : World} {g o : Nat} {n : Int} (hc : w.cell? ⟨g, o, none⟩ = some (.int .i64 n)) (hf : w.frozen? ⟨g, o, none⟩ = false) :
    Calls Try.prog 29 #[.pointer (some ⟨g, o, none⟩)] w fun e w' => e = .returned (.bool (n == 0)) ∧ w' = w.setCell ⟨g, o, none⟩ (.int .i64 (dec n)) := by
  unfold dec mx
  by_cases hlt : wrap64 (n - 1) < -1
  · rw [if_pos hlt]
    go_enter Try.func29, Try.ntmps29
    go_wp2
    go_ret
    exact ⟨rfl, rfl⟩
  · rw [if_neg hlt]
    go_enter Try.func29, Try.ntmps29
    go_wp2
    go_ret
    exact ⟨rfl, rfl⟩
theorem info5 : (Try.prog.info? 5).map (fun i => (i.zero, i.size, i.bytes)) = some (some (.int .u8 0), 1, 1) := by kernel_rfl
theorem upto_rd {w0 : World} {A : Option Addr} {c : Nat} {l : List Int} {hi : Int} (hC : Kd.C (Kd.int .u8) w0 A l.length l) (hc : l.length ≤ c) (h0 : 0 ≤ hi) (h2 : hi ≤ l.length) :
    ∃ A' c', (∀ W : World, (Instr.slice 26 (.slice A l.length c) none (some (.int .i64 hi)) none).run Try.prog W = .ok (.slice A' (l.take hi.toNat).length c') W) ∧ Kd.C (Kd.int .u8) w0 A' (l.take hi.toNat).length (l.take hi.toNat) ∧ (l.take hi.toNat).length ≤ c' := by
  obtain ⟨i5, hi5, hz5, hs5, hb5⟩ := info_parts info5
  have hcut := cut_to (P := Try.prog) 26 5 .i64 Try.underlying26 hi5 A l.length c hi h0 h2 hc
  have hd := Kd.C_take (m := hi.toNat) hC (by omega)
  have hl : hi.toNat = (l.take hi.toNat).length := by rw [List.length_take]; omega
  rw [hl] at hcut
  exact ⟨_, _, hcut, hd, by rw [← hl]; omega⟩
set_option maxHeartbeats 4000000 in
set_option maxRecDepth 100000 in
/-- stands: the first n bytes, anew. -/
theorem stands {w : World} {A : Option Addr} {c : Nat} {xs : List Int} (hC : Kd.C (Kd.int .u8) w A xs.length xs) (hc : xs.length ≤ c) (hl : xs.length ≤ 100000) (n : Int) (hn : 0 ≤ n) :
    Calls Try.prog 30 #[.slice A xs.length c, .int .i64 n] w fun e w' => ∃ v : Value, e = .returned v ∧ Kd.R (Kd.int .u8) 5 w' w.heap.size (fun _ => True) v (xs.take n.toNat) ∧ Below w.heap.size w w' := by
  obtain ⟨M, hM⟩ : ∃ M, xs.take n.toNat = M := ⟨_, rfl⟩
  have hml : M.length ≤ 100000 := by rw [← hM, List.length_take]; omega
  have HML := Aside0.mk hml
  rw [hM]
  by_cases hlt : (xs.length : Int) < n
  · obtain ⟨A', c', hcut, hC', hc'⟩ := upto_rd hC hc (Int.natCast_nonneg xs.length) (Int.le_refl _)
    have e : xs.take (xs.length : Int).toNat = M := by rw [← hM, List.take_of_length_le (by omega), List.take_of_length_le (by omega)]
    rw [e] at hcut hC' hc'
    have HC := Aside0.mk hC'
    clear hC hc hC' hc' e hM hml hl
    go_enter Try.func30, Try.ntmps30
    go_wp2_with ((with_reducible refine gate_builtin (b := .append) (xs := #[.const (.slice none 0 0), .tmp 10]) rfl ?_); at_builtin; refine Kd.R_append_rows (Kd.int .u8) (w0 := w) w.heap.size rfl (.const (.slice none 0 0)) (.tmp 10) 26 5 (.int .u8 0) 1 rfl Try.underlying26 info5 rfl (by decide) (by omega) (.slice none 0 0) [] M A' M.length c' (fun _ => True) (fun _ => False) rfl rfl (Kd.R_nil _ _ _ _ _) HC.out (fun _ _ h => h) (fun _ h => h.elim) (fun _ _ => trivial) (Below.refl _ _) (Nat.le_refl _) ?aL ?_; (case aL => have := HML.out; simp; omega); intro v1 w1 ho hb hg hat; have HO := Aside0.mk (show Kd.R (Kd.int .u8) 5 w1 w.heap.size (fun _ => True) v1 M from ho); have HB := Aside0.mk hb; clear ho hb hg hat)
    go_ret
    exact ⟨_, rfl, HO.out, HB.out⟩
  · obtain ⟨A', c', hcut, hC', hc'⟩ := upto_rd hC hc hn (Int.not_lt.1 hlt)
    rw [hM] at hcut hC' hc'
    have HC := Aside0.mk hC'
    clear hC hc hC' hc' hM hml hl
    go_enter Try.func30, Try.ntmps30
    go_wp2_with ((with_reducible refine gate_builtin (b := .append) (xs := #[.const (.slice none 0 0), .tmp 10]) rfl ?_); at_builtin; refine Kd.R_append_rows (Kd.int .u8) (w0 := w) w.heap.size rfl (.const (.slice none 0 0)) (.tmp 10) 26 5 (.int .u8 0) 1 rfl Try.underlying26 info5 rfl (by decide) (by omega) (.slice none 0 0) [] M A' M.length c' (fun _ => True) (fun _ => False) rfl rfl (Kd.R_nil _ _ _ _ _) HC.out (fun _ _ h => h) (fun _ h => h.elim) (fun _ _ => trivial) (Below.refl _ _) (Nat.le_refl _) ?aL ?_; (case aL => have := HML.out; simp; omega); intro v1 w1 ho hb hg hat; have HO := Aside0.mk (show Kd.R (Kd.int .u8) 5 w1 w.heap.size (fun _ => True) v1 M from ho); have HB := Aside0.mk hb; clear ho hb hg hat)
    go_ret
    exact ⟨_, rfl, HO.out, HB.out⟩
theorem spotHeld {w : World} {base : Nat} {ok : Nat → Prop} {g bx : Nat} {s : Chp} {b p : Int} (hI : IsChip w base ok g s) (hb : w.heap[bx]? = some (.cells #[.int .i64 b, .int .i64 p] 40 (0, 0))) :
    w.cell? ⟨bx, 0, none⟩ = some (.int .i64 b) ∧ w.cell? ⟨bx, 1, none⟩ = some (.int .i64 p) ∧ w.cell? ⟨g, 1, none⟩ = some (.int .i64 s.pages) := by
  obtain ⟨h, cap, cs, pg, r⟩ := hI
  exact ⟨(blk_cell hb 0).trans rfl, (blk_cell hb 1).trans rfl, (ten r).1.2.1⟩
def reg_spot_1.T : Bool × List (List Nat × List Nat) := (true, [([], []), ([], []), ([1], [1]), ([0, 2], [0, 2]), ([3, 3], [3]), ([4], [4]), ([5, 4], [4, 5]), ([6, 4], [4, 6]), ([4, 7], [4, 7]), ([8, 4], [8]), ([9], [9]), ([10, 9], [9, 10]), ([9], [9]), ([12, 9], [9, 12]), ([13, 9], [9, 13]), ([14, 9], [9, 14]), ([11, 15, 9], [9, 11, 15]), ([9, 16], [9, 16]), ([17, 9, 0, 1, 2, 3, 4, 5, 6, 7, 8, 9, 10, 11, 12, 13, 14, 15, 16, 17], [17])])
def reg_spot_1.B : List Nat := [0, 0, 2, 7, 15, 31, 63, 127, 255, 511, 1023, 2047, 1023, 5119, 13311, 29695, 65535, 131071, 262143]
theorem reg_spot_1.tab : rtab .any (opsOf Try.f28 1) = reg_spot_1.T := by kernel_rfl
theorem reg_spot_1.bits : waitsOk reg_spot_1.T.2 reg_spot_1.B = true := by kernel_rfl
set_option maxHeartbeats 4000000 in
set_option maxRecDepth 100000 in
/-- spot: a box is made; memory is read. -/
theorem spot {w : World} {base : Nat} {ok : Nat → Prop} {g : Nat} {s : Chp} (hI : IsChip w base ok g s) (b p : Int) :
    Calls Try.prog 28 #[.pointer (some ⟨g, 0, none⟩), .agg #[.int .i64 b, .int .i64 p]] w fun e w' => e = .returned (.bool (spotB s b p)) ∧ Below w.heap.size w w' := by
  cases hb : hasB s b with
  | false =>
    have HH := Aside0.mk hb
    rw [show spotB s b p = false by unfold spotB; rw [hb, Bool.false_and]]
    clear hb
    have HB := Aside0.mk (below_alloc (Below.refl _ w) (.cells #[.int .i64 b, .int .i64 p] 40))
    have hI1 := hI.below HB.out
    have hbox := heap_alloc_new w (.cells #[.int .i64 b, .int .i64 p] 40)
    go_enter Try.func28, Try.ntmps28
    go_upto_region 1 with fail
    obtain ⟨w1, hw1⟩ : ∃ w1, w.alloc (.cells #[.int .i64 b, .int .i64 p] 40) = w1 := ⟨_, rfl⟩
    obtain ⟨bx, hbx⟩ : ∃ bx, w.heap.size = bx := ⟨_, rfl⟩
    rw [hw1] at HB hI1 hbox ⊢
    rw [hbx] at hbox
    have hbs : w1.heap[bx]? = some (.cells #[.int .i64 b, .int .i64 p] 40 (0, 0)) := by simpa using hbox
    have HX := Aside0.mk (spotHeld hI1 hbs)
    have HI := Aside0.mk hI1
    have hbx' := Aside0.mk hbx
    rw [hbx]
    clear hbox hI1 hw1 hI hbx hbs
    refine start_ (n := 19) (S := fun w' => w'.cell? ⟨bx, 0, none⟩ = some (.int .i64 b) ∧ w'.cell? ⟨bx, 1, none⟩ = some (.int .i64 p) ∧ w'.cell? ⟨g, 1, none⟩ = some (.int .i64 s.pages)) (ds := []) #[false, false, false, false, false, false, false, false, false, false, false, false, false, false, false, false, false, false, false] (by kernel_rfl) rfl rfl HX.out (fun hHeld => ?_)
    refine with_tabW reg_spot_1.tab reg_spot_1.bits (fun HT_ HW_ => ?_)
    refine pure_ (i := 0) (N := (some 5)) (v := ?_) (a' := ?_) #[true, false, false, false, false, false, false, false, false, false, false, false, false, false, false, false, false, false, false] rfl rfl (any_of HT_.out (by kernel_rfl)) (fun _ _ _ h => h) (Or.inl ⟨by rfl, ?_⟩) ?_ ?_
    rotate_left
    · intro w'
      go_simp
      first | done | with_reducible rfl
    rotate_left
    · simp only [Act.put, List.setIfInBounds_toArray, List.set_cons_zero, List.set_cons_succ, i64_w, i32_w]
      rfl
    refine pure_ (i := 1) (N := (some 6)) (v := ?_) (a' := ?_) #[true, true, false, false, false, false, false, false, false, false, false, false, false, false, false, false, false, false, false] rfl rfl (any_of HT_.out (by kernel_rfl)) (fun _ _ _ h => h) (Or.inl ⟨by rfl, ?_⟩) ?_ ?_
    rotate_left
    · intro w'
      go_simp
      first | done | with_reducible rfl
    rotate_left
    · simp only [Act.put, List.setIfInBounds_toArray, List.set_cons_zero, List.set_cons_succ, i64_w, i32_w]
      rfl
    refine take_ (i := 2) (N := (some 7)) (v := ?_) (a' := ?_) #[true, true, true, false, false, false, false, false, false, false, false, false, false, false, false, false, false, false, false] rfl rfl (take_ofW HT_.out HW_.out (by kernel_rfl)) (fun _ _ _ h => h) (Or.inl ⟨by rfl, ?_⟩) hHeld ?_ ?_
    rotate_left
    · rintro w' ⟨s0, s1, s2⟩
      go_simp
      first | done | with_reducible rfl
    rotate_left
    · simp only [Act.put, List.setIfInBounds_toArray, List.set_cons_zero, List.set_cons_succ, i64_w, i32_w]
      rfl
    refine one_ (i := 3) (N := (some 8)) #[true, true, true, true, false, false, false, false, false, false, false, false, false, false, false, false, false, false, false] rfl rfl (one_of HT_.out (by kernel_rfl)) (by decide) (fun K hK => ?_)
    refine goes_ Try.func51 (by kernel_rfl) rfl #[.pointer (some ⟨g, 0, none⟩), .int .i64 b] (by rfl) rfl rfl (by (try simp only [List.map_toArray, List.map_cons, List.map_nil]); first | done | rfl) ?_
    with_reducible refine ((show Calls Try.prog 51 #[.pointer (some ⟨g, 0, none⟩), .int .i64 b] _ _ from has (HI.out.below (below_drew (Below.refl _ _))) b)).mono ?_
    rintro ev_ w3 ⟨rfl, rfl⟩
    refine ⟨_, rfl, ?_⟩
    rw [HH.out]
    refine hK.out _ _ HX.out (fun hHeld => ?_)
    clear hK K
    refine norm_ (a' := ?_) ?_ ?_
    rotate_left
    · show Act.put _ (some 8) _ = _
      simp only [Act.put, List.setIfInBounds_toArray, List.set_cons_zero, List.set_cons_succ, i64_w, i32_w]
      rfl
    refine pure_ (i := 4) (N := (some 9)) (v := ?_) (a' := ?_) #[true, true, true, true, true, false, false, false, false, false, false, false, false, false, false, false, false, false, false] rfl rfl (any_of HT_.out (by kernel_rfl)) (fun _ _ _ h => h) (Or.inl ⟨by rfl, ?_⟩) ?_ ?_
    rotate_left
    · intro w'
      go_simp
      first | done | with_reducible rfl
    rotate_left
    · simp only [Act.put, List.setIfInBounds_toArray, List.set_cons_zero, List.set_cons_succ, i64_w, i32_w]
      rfl
    refine pure_ (i := 5) (N := (some 10)) (v := undef) (a' := ?_) #[true, true, true, true, true, true, false, false, false, false, false, false, false, false, false, false, false, false, false] rfl rfl (any_of HT_.out (by kernel_rfl)) (fun _ _ _ h => h) (Or.inr ⟨by rfl, rfl⟩) ?_ ?_
    rotate_left
    · simp only [Act.put, List.setIfInBounds_toArray, List.set_cons_zero, List.set_cons_succ, i64_w, i32_w]
      rfl
    refine pure_ (i := 6) (N := (some 11)) (v := undef) (a' := ?_) #[true, true, true, true, true, true, true, false, false, false, false, false, false, false, false, false, false, false, false] rfl rfl (any_of HT_.out (by kernel_rfl)) (fun _ _ _ h => h) (Or.inr ⟨by rfl, rfl⟩) ?_ ?_
    rotate_left
    · simp only [Act.put, List.setIfInBounds_toArray, List.set_cons_zero, List.set_cons_succ, i64_w, i32_w]
      rfl
    refine pure_ (i := 7) (N := (some 12)) (v := undef) (a' := ?_) #[true, true, true, true, true, true, true, true, false, false, false, false, false, false, false, false, false, false, false] rfl rfl (any_of HT_.out (by kernel_rfl)) (fun _ _ _ h => h) (Or.inr ⟨by rfl, rfl⟩) ?_ ?_
    rotate_left
    · simp only [Act.put, List.setIfInBounds_toArray, List.set_cons_zero, List.set_cons_succ, i64_w, i32_w]
      rfl
    refine pure_ (i := 8) (N := (some 13)) (v := ?_) (a' := ?_) #[true, true, true, true, true, true, true, true, true, false, false, false, false, false, false, false, false, false, false] rfl rfl (any_of HT_.out (by kernel_rfl)) (fun _ _ _ h => h) (Or.inl ⟨by rfl, ?_⟩) ?_ ?_
    rotate_left
    · intro w'
      go_simp
      first | done | with_reducible rfl
    rotate_left
    · simp only [Act.put, List.setIfInBounds_toArray, List.set_cons_zero, List.set_cons_succ, i64_w, i32_w]
      rfl
    refine pure_ (i := 9) (N := (some 14)) (v := ?_) (a' := ?_) #[true, true, true, true, true, true, true, true, true, true, false, false, false, false, false, false, false, false, false] rfl rfl (any_of HT_.out (by kernel_rfl)) (fun _ _ _ h => h) (Or.inl ⟨by rfl, ?_⟩) ?_ ?_
    rotate_left
    · intro w'
      go_simp
      first | done | with_reducible rfl
    rotate_left
    · simp only [Act.put, List.setIfInBounds_toArray, List.set_cons_zero, List.set_cons_succ, i64_w, i32_w]
      rfl
    refine pure_ (i := 10) (N := (some 15)) (v := undef) (a' := ?_) #[true, true, true, true, true, true, true, true, true, true, true, false, false, false, false, false, false, false, false] rfl rfl (any_of HT_.out (by kernel_rfl)) (fun _ _ _ h => h) (Or.inr ⟨by rfl, rfl⟩) ?_ ?_
    rotate_left
    · simp only [Act.put, List.setIfInBounds_toArray, List.set_cons_zero, List.set_cons_succ, i64_w, i32_w]
      rfl
    refine pure_ (i := 11) (N := (some 16)) (v := undef) (a' := ?_) #[true, true, true, true, true, true, true, true, true, true, true, true, false, false, false, false, false, false, false] rfl rfl (any_of HT_.out (by kernel_rfl)) (fun _ _ _ h => h) (Or.inr ⟨by rfl, rfl⟩) ?_ ?_
    rotate_left
    · simp only [Act.put, List.setIfInBounds_toArray, List.set_cons_zero, List.set_cons_succ, i64_w, i32_w]
      rfl
    refine pure_ (i := 12) (N := (some 17)) (v := undef) (a' := ?_) #[true, true, true, true, true, true, true, true, true, true, true, true, true, false, false, false, false, false, false] rfl rfl (any_of HT_.out (by kernel_rfl)) (fun _ _ _ h => h) (Or.inr ⟨by rfl, rfl⟩) ?_ ?_
    rotate_left
    · simp only [Act.put, List.setIfInBounds_toArray, List.set_cons_zero, List.set_cons_succ, i64_w, i32_w]
      rfl
    refine pure_ (i := 13) (N := (some 18)) (v := undef) (a' := ?_) #[true, true, true, true, true, true, true, true, true, true, true, true, true, true, false, false, false, false, false] rfl rfl (any_of HT_.out (by kernel_rfl)) (fun _ _ _ h => h) (Or.inr ⟨by rfl, rfl⟩) ?_ ?_
    rotate_left
    · simp only [Act.put, List.setIfInBounds_toArray, List.set_cons_zero, List.set_cons_succ, i64_w, i32_w]
      rfl
    refine pure_ (i := 14) (N := (some 19)) (v := undef) (a' := ?_) #[true, true, true, true, true, true, true, true, true, true, true, true, true, true, true, false, false, false, false] rfl rfl (any_of HT_.out (by kernel_rfl)) (fun _ _ _ h => h) (Or.inr ⟨by rfl, rfl⟩) ?_ ?_
    rotate_left
    · simp only [Act.put, List.setIfInBounds_toArray, List.set_cons_zero, List.set_cons_succ, i64_w, i32_w]
      rfl
    refine pure_ (i := 15) (N := (some 20)) (v := undef) (a' := ?_) #[true, true, true, true, true, true, true, true, true, true, true, true, true, true, true, true, false, false, false] rfl rfl (any_of HT_.out (by kernel_rfl)) (fun _ _ _ h => h) (Or.inr ⟨by rfl, rfl⟩) ?_ ?_
    rotate_left
    · simp only [Act.put, List.setIfInBounds_toArray, List.set_cons_zero, List.set_cons_succ, i64_w, i32_w]
      rfl
    refine pure_ (i := 16) (N := (some 21)) (v := undef) (a' := ?_) #[true, true, true, true, true, true, true, true, true, true, true, true, true, true, true, true, true, false, false] rfl rfl (any_of HT_.out (by kernel_rfl)) (fun _ _ _ h => h) (Or.inr ⟨by rfl, rfl⟩) ?_ ?_
    rotate_left
    · simp only [Act.put, List.setIfInBounds_toArray, List.set_cons_zero, List.set_cons_succ, i64_w, i32_w]
      rfl
    refine pure_ (i := 17) (N := (some 22)) (v := ?_) (a' := ?_) #[true, true, true, true, true, true, true, true, true, true, true, true, true, true, true, true, true, true, false] rfl rfl (any_of HT_.out (by kernel_rfl)) (fun _ _ _ h => h) (Or.inl ⟨by rfl, ?_⟩) ?_ ?_
    rotate_left
    · intro w'
      go_simp
      first | done | with_reducible rfl
    rotate_left
    · simp only [Act.put, List.setIfInBounds_toArray, List.set_cons_zero, List.set_cons_succ, i64_w, i32_w]
      rfl
    refine pure_ (i := 18) (N := (some 4)) (v := ?_) (a' := ?_) #[true, true, true, true, true, true, true, true, true, true, true, true, true, true, true, true, true, true, true] rfl rfl (any_of HT_.out (by kernel_rfl)) (fun _ _ _ h => h) (Or.inl ⟨by rfl, ?_⟩) ?_ ?_
    rotate_left
    · intro w'
      go_simp
      first | done | with_reducible rfl
    rotate_left
    · simp only [Act.put, List.setIfInBounds_toArray, List.set_cons_zero, List.set_cons_succ, i64_w, i32_w]
      rfl
    refine done_ (done_of HT_.out (by kernel_rfl)) ?_
    go_wp2
    go_ret
    exact ⟨rfl, below_drew HB.out⟩
  | true =>
    have HH := Aside0.mk hb
    by_cases hp : 0 ≤ p
    · rw [show spotB s b p = decide (p < s.pages) by unfold spotB; rw [hb, decide_eq_true hp, Bool.true_and, Bool.true_and]]
      have hp1 : decide (0 ≤ p) = true := decide_eq_true hp
      clear hb
      have HB := Aside0.mk (below_alloc (Below.refl _ w) (.cells #[.int .i64 b, .int .i64 p] 40))
      have hI1 := hI.below HB.out
      have hbox := heap_alloc_new w (.cells #[.int .i64 b, .int .i64 p] 40)
      go_enter Try.func28, Try.ntmps28
      go_upto_region 1 with fail
      obtain ⟨w1, hw1⟩ : ∃ w1, w.alloc (.cells #[.int .i64 b, .int .i64 p] 40) = w1 := ⟨_, rfl⟩
      obtain ⟨bx, hbx⟩ : ∃ bx, w.heap.size = bx := ⟨_, rfl⟩
      rw [hw1] at HB hI1 hbox ⊢
      rw [hbx] at hbox
      have hbs : w1.heap[bx]? = some (.cells #[.int .i64 b, .int .i64 p] 40 (0, 0)) := by simpa using hbox
      have HX := Aside0.mk (spotHeld hI1 hbs)
      have HI := Aside0.mk hI1
      have hbx' := Aside0.mk hbx
      rw [hbx]
      clear hbox hI1 hw1 hI hbx hbs
      refine start_ (n := 19) (S := fun w' => w'.cell? ⟨bx, 0, none⟩ = some (.int .i64 b) ∧ w'.cell? ⟨bx, 1, none⟩ = some (.int .i64 p) ∧ w'.cell? ⟨g, 1, none⟩ = some (.int .i64 s.pages)) (ds := []) #[false, false, false, false, false, false, false, false, false, false, false, false, false, false, false, false, false, false, false] (by kernel_rfl) rfl rfl HX.out (fun hHeld => ?_)
      refine with_tabW reg_spot_1.tab reg_spot_1.bits (fun HT_ HW_ => ?_)
      refine pure_ (i := 0) (N := (some 5)) (v := ?_) (a' := ?_) #[true, false, false, false, false, false, false, false, false, false, false, false, false, false, false, false, false, false, false] rfl rfl (any_of HT_.out (by kernel_rfl)) (fun _ _ _ h => h) (Or.inl ⟨by rfl, ?_⟩) ?_ ?_
      rotate_left
      · intro w'
        go_simp
        first | done | with_reducible rfl
      rotate_left
      · simp only [Act.put, List.setIfInBounds_toArray, List.set_cons_zero, List.set_cons_succ, i64_w, i32_w]
        rfl
      refine pure_ (i := 1) (N := (some 6)) (v := ?_) (a' := ?_) #[true, true, false, false, false, false, false, false, false, false, false, false, false, false, false, false, false, false, false] rfl rfl (any_of HT_.out (by kernel_rfl)) (fun _ _ _ h => h) (Or.inl ⟨by rfl, ?_⟩) ?_ ?_
      rotate_left
      · intro w'
        go_simp
        first | done | with_reducible rfl
      rotate_left
      · simp only [Act.put, List.setIfInBounds_toArray, List.set_cons_zero, List.set_cons_succ, i64_w, i32_w]
        rfl
      refine take_ (i := 2) (N := (some 7)) (v := ?_) (a' := ?_) #[true, true, true, false, false, false, false, false, false, false, false, false, false, false, false, false, false, false, false] rfl rfl (take_ofW HT_.out HW_.out (by kernel_rfl)) (fun _ _ _ h => h) (Or.inl ⟨by rfl, ?_⟩) hHeld ?_ ?_
      rotate_left
      · rintro w' ⟨s0, s1, s2⟩
        go_simp
        first | done | with_reducible rfl
      rotate_left
      · simp only [Act.put, List.setIfInBounds_toArray, List.set_cons_zero, List.set_cons_succ, i64_w, i32_w]
        rfl
      refine one_ (i := 3) (N := (some 8)) #[true, true, true, true, false, false, false, false, false, false, false, false, false, false, false, false, false, false, false] rfl rfl (one_of HT_.out (by kernel_rfl)) (by decide) (fun K hK => ?_)
      refine goes_ Try.func51 (by kernel_rfl) rfl #[.pointer (some ⟨g, 0, none⟩), .int .i64 b] (by rfl) rfl rfl (by (try simp only [List.map_toArray, List.map_cons, List.map_nil]); first | done | rfl) ?_
      with_reducible refine ((show Calls Try.prog 51 #[.pointer (some ⟨g, 0, none⟩), .int .i64 b] _ _ from has (HI.out.below (below_drew (Below.refl _ _))) b)).mono ?_
      rintro ev_ w3 ⟨rfl, rfl⟩
      refine ⟨_, rfl, ?_⟩
      rw [HH.out]
      refine hK.out _ _ HX.out (fun hHeld => ?_)
      clear hK K
      refine norm_ (a' := ?_) ?_ ?_
      rotate_left
      · show Act.put _ (some 8) _ = _
        simp only [Act.put, List.setIfInBounds_toArray, List.set_cons_zero, List.set_cons_succ, i64_w, i32_w]
        rfl
      refine pure_ (i := 4) (N := (some 9)) (v := ?_) (a' := ?_) #[true, true, true, true, true, false, false, false, false, false, false, false, false, false, false, false, false, false, false] rfl rfl (any_of HT_.out (by kernel_rfl)) (fun _ _ _ h => h) (Or.inl ⟨by rfl, ?_⟩) ?_ ?_
      rotate_left
      · intro w'
        go_simp
        first | done | with_reducible rfl
      rotate_left
      · simp only [Act.put, List.setIfInBounds_toArray, List.set_cons_zero, List.set_cons_succ, i64_w, i32_w]
        rfl
      refine pure_ (i := 5) (N := (some 10)) (v := ?_) (a' := ?_) #[true, true, true, true, true, true, false, false, false, false, false, false, false, false, false, false, false, false, false] rfl rfl (any_of HT_.out (by kernel_rfl)) (fun _ _ _ h => h) (Or.inl ⟨by rfl, ?_⟩) ?_ ?_
      rotate_left
      · intro w'
        go_simp
        first | done | with_reducible rfl
      rotate_left
      · simp only [Act.put, List.setIfInBounds_toArray, List.set_cons_zero, List.set_cons_succ, i64_w, i32_w]
        rfl
      refine take_ (i := 6) (N := (some 11)) (v := ?_) (a' := ?_) #[true, true, true, true, true, true, true, false, false, false, false, false, false, false, false, false, false, false, false] rfl rfl (take_ofW HT_.out HW_.out (by kernel_rfl)) (fun _ _ _ h => h) (Or.inl ⟨by rfl, ?_⟩) hHeld ?_ ?_
      rotate_left
      · rintro w' ⟨s0, s1, s2⟩
        go_simp
        first | done | with_reducible rfl
      rotate_left
      · simp only [Act.put, List.setIfInBounds_toArray, List.set_cons_zero, List.set_cons_succ, i64_w, i32_w]
        rfl
      refine pure_ (i := 7) (N := (some 12)) (v := ?_) (a' := ?_) #[true, true, true, true, true, true, true, true, false, false, false, false, false, false, false, false, false, false, false] rfl rfl (any_of HT_.out (by kernel_rfl)) (fun _ _ _ h => h) (Or.inl ⟨by rfl, ?_⟩) ?_ ?_
      rotate_left
      · intro w'
        go_simp
        first | done | with_reducible rfl
      rotate_left
      · simp only [Act.put, List.setIfInBounds_toArray, List.set_cons_zero, List.set_cons_succ, i64_w, i32_w]
        rfl
      refine pure_ (i := 8) (N := (some 13)) (v := ?_) (a' := ?_) #[true, true, true, true, true, true, true, true, true, false, false, false, false, false, false, false, false, false, false] rfl rfl (any_of HT_.out (by kernel_rfl)) (fun _ _ _ h => h) (Or.inl ⟨by rfl, ?_⟩) ?_ ?_
      rotate_left
      · intro w'
        go_simp
        first | done | with_reducible rfl
      rotate_left
      · simp only [Act.put, List.setIfInBounds_toArray, List.set_cons_zero, List.set_cons_succ, i64_w, i32_w]
        rfl
      refine pure_ (i := 9) (N := (some 14)) (v := ?_) (a' := ?_) #[true, true, true, true, true, true, true, true, true, true, false, false, false, false, false, false, false, false, false] rfl rfl (any_of HT_.out (by kernel_rfl)) (fun _ _ _ h => h) (Or.inl ⟨by rfl, ?_⟩) ?_ ?_
      rotate_left
      · intro w'
        go_simp
        first | done | with_reducible rfl
      rotate_left
      · simp only [Act.put, List.setIfInBounds_toArray, List.set_cons_zero, List.set_cons_succ, i64_w, i32_w]
        rfl
      refine pure_ (i := 10) (N := (some 15)) (v := ?_) (a' := ?_) #[true, true, true, true, true, true, true, true, true, true, true, false, false, false, false, false, false, false, false] rfl rfl (any_of HT_.out (by kernel_rfl)) (fun _ _ _ h => h) (Or.inl ⟨by rfl, ?_⟩) ?_ ?_
      rotate_left
      · intro w'
        go_simp
        first | done | with_reducible rfl
      rotate_left
      · simp only [Act.put, List.setIfInBounds_toArray, List.set_cons_zero, List.set_cons_succ, i64_w, i32_w]
        rfl
      refine take_ (i := 11) (N := (some 16)) (v := ?_) (a' := ?_) #[true, true, true, true, true, true, true, true, true, true, true, true, false, false, false, false, false, false, false] rfl rfl (take_ofW HT_.out HW_.out (by kernel_rfl)) (fun _ _ _ h => h) (Or.inl ⟨by rfl, ?_⟩) hHeld ?_ ?_
      rotate_left
      · rintro w' ⟨s0, s1, s2⟩
        go_simp
        first | done | with_reducible rfl
      rotate_left
      · simp only [Act.put, List.setIfInBounds_toArray, List.set_cons_zero, List.set_cons_succ, i64_w, i32_w]
        rfl
      refine pure_ (i := 12) (N := (some 17)) (v := ?_) (a' := ?_) #[true, true, true, true, true, true, true, true, true, true, true, true, true, false, false, false, false, false, false] rfl rfl (any_of HT_.out (by kernel_rfl)) (fun _ _ _ h => h) (Or.inl ⟨by rfl, ?_⟩) ?_ ?_
      rotate_left
      · intro w'
        go_simp
        first | done | with_reducible rfl
      rotate_left
      · simp only [Act.put, List.setIfInBounds_toArray, List.set_cons_zero, List.set_cons_succ, i64_w, i32_w]
        rfl
      refine pure_ (i := 13) (N := (some 18)) (v := ?_) (a' := ?_) #[true, true, true, true, true, true, true, true, true, true, true, true, true, true, false, false, false, false, false] rfl rfl (any_of HT_.out (by kernel_rfl)) (fun _ _ _ h => h) (Or.inl ⟨by rfl, ?_⟩) ?_ ?_
      rotate_left
      · intro w'
        go_simp
        first | done | with_reducible rfl
      rotate_left
      · simp only [Act.put, List.setIfInBounds_toArray, List.set_cons_zero, List.set_cons_succ, i64_w, i32_w]
        rfl
      refine pure_ (i := 14) (N := (some 19)) (v := ?_) (a' := ?_) #[true, true, true, true, true, true, true, true, true, true, true, true, true, true, true, false, false, false, false] rfl rfl (any_of HT_.out (by kernel_rfl)) (fun _ _ _ h => h) (Or.inl ⟨by rfl, ?_⟩) ?_ ?_
      rotate_left
      · intro w'
        go_simp
        first | done | with_reducible rfl
      rotate_left
      · simp only [Act.put, List.setIfInBounds_toArray, List.set_cons_zero, List.set_cons_succ, i64_w, i32_w]
        rfl
      refine take_ (i := 15) (N := (some 20)) (v := ?_) (a' := ?_) #[true, true, true, true, true, true, true, true, true, true, true, true, true, true, true, true, false, false, false] rfl rfl (take_ofW HT_.out HW_.out (by kernel_rfl)) (fun _ _ _ h => h) (Or.inl ⟨by rfl, ?_⟩) hHeld ?_ ?_
      rotate_left
      · rintro w' ⟨s0, s1, s2⟩
        go_simp
        first | done | with_reducible rfl
      rotate_left
      · simp only [Act.put, List.setIfInBounds_toArray, List.set_cons_zero, List.set_cons_succ, i64_w, i32_w]
        rfl
      refine pure_ (i := 16) (N := (some 21)) (v := ?_) (a' := ?_) #[true, true, true, true, true, true, true, true, true, true, true, true, true, true, true, true, true, false, false] rfl rfl (any_of HT_.out (by kernel_rfl)) (fun _ _ _ h => h) (Or.inl ⟨by rfl, ?_⟩) ?_ ?_
      rotate_left
      · intro w'
        go_simp
        first | done | with_reducible rfl
      rotate_left
      · simp only [Act.put, List.setIfInBounds_toArray, List.set_cons_zero, List.set_cons_succ, i64_w, i32_w]
        rfl
      refine pure_ (i := 17) (N := (some 22)) (v := ?_) (a' := ?_) #[true, true, true, true, true, true, true, true, true, true, true, true, true, true, true, true, true, true, false] rfl rfl (any_of HT_.out (by kernel_rfl)) (fun _ _ _ h => h) (Or.inl ⟨by rfl, ?_⟩) ?_ ?_
      rotate_left
      · intro w'
        go_simp
        first | done | with_reducible rfl
      rotate_left
      · simp only [Act.put, List.setIfInBounds_toArray, List.set_cons_zero, List.set_cons_succ, i64_w, i32_w]
        rfl
      refine pure_ (i := 18) (N := (some 4)) (v := ?_) (a' := ?_) #[true, true, true, true, true, true, true, true, true, true, true, true, true, true, true, true, true, true, true] rfl rfl (any_of HT_.out (by kernel_rfl)) (fun _ _ _ h => h) (Or.inl ⟨by rfl, ?_⟩) ?_ ?_
      rotate_left
      · intro w'
        go_simp
        first | done | with_reducible rfl
      rotate_left
      · simp only [Act.put, List.setIfInBounds_toArray, List.set_cons_zero, List.set_cons_succ, i64_w, i32_w]
        rfl
      refine done_ (done_of HT_.out (by kernel_rfl)) ?_
      go_wp2
      go_ret
      exact ⟨rfl, below_drew HB.out⟩
    · rw [show spotB s b p = false by unfold spotB; rw [hb, decide_eq_false hp, Bool.true_and, Bool.false_and]]
      have hp1 : decide (0 ≤ p) = false := decide_eq_false hp
      clear hp hb
      have HB := Aside0.mk (below_alloc (Below.refl _ w) (.cells #[.int .i64 b, .int .i64 p] 40))
      have hI1 := hI.below HB.out
      have hbox := heap_alloc_new w (.cells #[.int .i64 b, .int .i64 p] 40)
      go_enter Try.func28, Try.ntmps28
      go_upto_region 1 with fail
      obtain ⟨w1, hw1⟩ : ∃ w1, w.alloc (.cells #[.int .i64 b, .int .i64 p] 40) = w1 := ⟨_, rfl⟩
      obtain ⟨bx, hbx⟩ : ∃ bx, w.heap.size = bx := ⟨_, rfl⟩
      rw [hw1] at HB hI1 hbox ⊢
      rw [hbx] at hbox
      have hbs : w1.heap[bx]? = some (.cells #[.int .i64 b, .int .i64 p] 40 (0, 0)) := by simpa using hbox
      have HX := Aside0.mk (spotHeld hI1 hbs)
      have HI := Aside0.mk hI1
      have hbx' := Aside0.mk hbx
      rw [hbx]
      clear hbox hI1 hw1 hI hbx hbs
      refine start_ (n := 19) (S := fun w' => w'.cell? ⟨bx, 0, none⟩ = some (.int .i64 b) ∧ w'.cell? ⟨bx, 1, none⟩ = some (.int .i64 p) ∧ w'.cell? ⟨g, 1, none⟩ = some (.int .i64 s.pages)) (ds := []) #[false, false, false, false, false, false, false, false, false, false, false, false, false, false, false, false, false, false, false] (by kernel_rfl) rfl rfl HX.out (fun hHeld => ?_)
      refine with_tabW reg_spot_1.tab reg_spot_1.bits (fun HT_ HW_ => ?_)
      refine pure_ (i := 0) (N := (some 5)) (v := ?_) (a' := ?_) #[true, false, false, false, false, false, false, false, false, false, false, false, false, false, false, false, false, false, false] rfl rfl (any_of HT_.out (by kernel_rfl)) (fun _ _ _ h => h) (Or.inl ⟨by rfl, ?_⟩) ?_ ?_
      rotate_left
      · intro w'
        go_simp
        first | done | with_reducible rfl
      rotate_left
      · simp only [Act.put, List.setIfInBounds_toArray, List.set_cons_zero, List.set_cons_succ, i64_w, i32_w]
        rfl
      refine pure_ (i := 1) (N := (some 6)) (v := ?_) (a' := ?_) #[true, true, false, false, false, false, false, false, false, false, false, false, false, false, false, false, false, false, false] rfl rfl (any_of HT_.out (by kernel_rfl)) (fun _ _ _ h => h) (Or.inl ⟨by rfl, ?_⟩) ?_ ?_
      rotate_left
      · intro w'
        go_simp
        first | done | with_reducible rfl
      rotate_left
      · simp only [Act.put, List.setIfInBounds_toArray, List.set_cons_zero, List.set_cons_succ, i64_w, i32_w]
        rfl
      refine take_ (i := 2) (N := (some 7)) (v := ?_) (a' := ?_) #[true, true, true, false, false, false, false, false, false, false, false, false, false, false, false, false, false, false, false] rfl rfl (take_ofW HT_.out HW_.out (by kernel_rfl)) (fun _ _ _ h => h) (Or.inl ⟨by rfl, ?_⟩) hHeld ?_ ?_
      rotate_left
      · rintro w' ⟨s0, s1, s2⟩
        go_simp
        first | done | with_reducible rfl
      rotate_left
      · simp only [Act.put, List.setIfInBounds_toArray, List.set_cons_zero, List.set_cons_succ, i64_w, i32_w]
        rfl
      refine one_ (i := 3) (N := (some 8)) #[true, true, true, true, false, false, false, false, false, false, false, false, false, false, false, false, false, false, false] rfl rfl (one_of HT_.out (by kernel_rfl)) (by decide) (fun K hK => ?_)
      refine goes_ Try.func51 (by kernel_rfl) rfl #[.pointer (some ⟨g, 0, none⟩), .int .i64 b] (by rfl) rfl rfl (by (try simp only [List.map_toArray, List.map_cons, List.map_nil]); first | done | rfl) ?_
      with_reducible refine ((show Calls Try.prog 51 #[.pointer (some ⟨g, 0, none⟩), .int .i64 b] _ _ from has (HI.out.below (below_drew (Below.refl _ _))) b)).mono ?_
      rintro ev_ w3 ⟨rfl, rfl⟩
      refine ⟨_, rfl, ?_⟩
      rw [HH.out]
      refine hK.out _ _ HX.out (fun hHeld => ?_)
      clear hK K
      refine norm_ (a' := ?_) ?_ ?_
      rotate_left
      · show Act.put _ (some 8) _ = _
        simp only [Act.put, List.setIfInBounds_toArray, List.set_cons_zero, List.set_cons_succ, i64_w, i32_w]
        rfl
      refine pure_ (i := 4) (N := (some 9)) (v := ?_) (a' := ?_) #[true, true, true, true, true, false, false, false, false, false, false, false, false, false, false, false, false, false, false] rfl rfl (any_of HT_.out (by kernel_rfl)) (fun _ _ _ h => h) (Or.inl ⟨by rfl, ?_⟩) ?_ ?_
      rotate_left
      · intro w'
        go_simp
        first | done | with_reducible rfl
      rotate_left
      · simp only [Act.put, List.setIfInBounds_toArray, List.set_cons_zero, List.set_cons_succ, i64_w, i32_w]
        rfl
      refine pure_ (i := 5) (N := (some 10)) (v := ?_) (a' := ?_) #[true, true, true, true, true, true, false, false, false, false, false, false, false, false, false, false, false, false, false] rfl rfl (any_of HT_.out (by kernel_rfl)) (fun _ _ _ h => h) (Or.inl ⟨by rfl, ?_⟩) ?_ ?_
      rotate_left
      · intro w'
        go_simp
        first | done | with_reducible rfl
      rotate_left
      · simp only [Act.put, List.setIfInBounds_toArray, List.set_cons_zero, List.set_cons_succ, i64_w, i32_w]
        rfl
      refine take_ (i := 6) (N := (some 11)) (v := ?_) (a' := ?_) #[true, true, true, true, true, true, true, false, false, false, false, false, false, false, false, false, false, false, false] rfl rfl (take_ofW HT_.out HW_.out (by kernel_rfl)) (fun _ _ _ h => h) (Or.inl ⟨by rfl, ?_⟩) hHeld ?_ ?_
      rotate_left
      · rintro w' ⟨s0, s1, s2⟩
        go_simp
        first | done | with_reducible rfl
      rotate_left
      · simp only [Act.put, List.setIfInBounds_toArray, List.set_cons_zero, List.set_cons_succ, i64_w, i32_w]
        rfl
      refine pure_ (i := 7) (N := (some 12)) (v := ?_) (a' := ?_) #[true, true, true, true, true, true, true, true, false, false, false, false, false, false, false, false, false, false, false] rfl rfl (any_of HT_.out (by kernel_rfl)) (fun _ _ _ h => h) (Or.inl ⟨by rfl, ?_⟩) ?_ ?_
      rotate_left
      · intro w'
        go_simp
        first | done | with_reducible rfl
      rotate_left
      · simp only [Act.put, List.setIfInBounds_toArray, List.set_cons_zero, List.set_cons_succ, i64_w, i32_w]
        rfl
      refine pure_ (i := 8) (N := (some 13)) (v := ?_) (a' := ?_) #[true, true, true, true, true, true, true, true, true, false, false, false, false, false, false, false, false, false, false] rfl rfl (any_of HT_.out (by kernel_rfl)) (fun _ _ _ h => h) (Or.inl ⟨by rfl, ?_⟩) ?_ ?_
      rotate_left
      · intro w'
        go_simp
        first | done | with_reducible rfl
      rotate_left
      · simp only [Act.put, List.setIfInBounds_toArray, List.set_cons_zero, List.set_cons_succ, i64_w, i32_w]
        rfl
      refine pure_ (i := 9) (N := (some 14)) (v := ?_) (a' := ?_) #[true, true, true, true, true, true, true, true, true, true, false, false, false, false, false, false, false, false, false] rfl rfl (any_of HT_.out (by kernel_rfl)) (fun _ _ _ h => h) (Or.inl ⟨by rfl, ?_⟩) ?_ ?_
      rotate_left
      · intro w'
        go_simp
        first | done | with_reducible rfl
      rotate_left
      · simp only [Act.put, List.setIfInBounds_toArray, List.set_cons_zero, List.set_cons_succ, i64_w, i32_w]
        rfl
      refine pure_ (i := 10) (N := (some 15)) (v := undef) (a' := ?_) #[true, true, true, true, true, true, true, true, true, true, true, false, false, false, false, false, false, false, false] rfl rfl (any_of HT_.out (by kernel_rfl)) (fun _ _ _ h => h) (Or.inr ⟨by rfl, rfl⟩) ?_ ?_
      rotate_left
      · simp only [Act.put, List.setIfInBounds_toArray, List.set_cons_zero, List.set_cons_succ, i64_w, i32_w]
        rfl
      refine pure_ (i := 11) (N := (some 16)) (v := undef) (a' := ?_) #[true, true, true, true, true, true, true, true, true, true, true, true, false, false, false, false, false, false, false] rfl rfl (any_of HT_.out (by kernel_rfl)) (fun _ _ _ h => h) (Or.inr ⟨by rfl, rfl⟩) ?_ ?_
      rotate_left
      · simp only [Act.put, List.setIfInBounds_toArray, List.set_cons_zero, List.set_cons_succ, i64_w, i32_w]
        rfl
      refine pure_ (i := 12) (N := (some 17)) (v := undef) (a' := ?_) #[true, true, true, true, true, true, true, true, true, true, true, true, true, false, false, false, false, false, false] rfl rfl (any_of HT_.out (by kernel_rfl)) (fun _ _ _ h => h) (Or.inr ⟨by rfl, rfl⟩) ?_ ?_
      rotate_left
      · simp only [Act.put, List.setIfInBounds_toArray, List.set_cons_zero, List.set_cons_succ, i64_w, i32_w]
        rfl
      refine pure_ (i := 13) (N := (some 18)) (v := undef) (a' := ?_) #[true, true, true, true, true, true, true, true, true, true, true, true, true, true, false, false, false, false, false] rfl rfl (any_of HT_.out (by kernel_rfl)) (fun _ _ _ h => h) (Or.inr ⟨by rfl, rfl⟩) ?_ ?_
      rotate_left
      · simp only [Act.put, List.setIfInBounds_toArray, List.set_cons_zero, List.set_cons_succ, i64_w, i32_w]
        rfl
      refine pure_ (i := 14) (N := (some 19)) (v := undef) (a' := ?_) #[true, true, true, true, true, true, true, true, true, true, true, true, true, true, true, false, false, false, false] rfl rfl (any_of HT_.out (by kernel_rfl)) (fun _ _ _ h => h) (Or.inr ⟨by rfl, rfl⟩) ?_ ?_
      rotate_left
      · simp only [Act.put, List.setIfInBounds_toArray, List.set_cons_zero, List.set_cons_succ, i64_w, i32_w]
        rfl
      refine pure_ (i := 15) (N := (some 20)) (v := undef) (a' := ?_) #[true, true, true, true, true, true, true, true, true, true, true, true, true, true, true, true, false, false, false] rfl rfl (any_of HT_.out (by kernel_rfl)) (fun _ _ _ h => h) (Or.inr ⟨by rfl, rfl⟩) ?_ ?_
      rotate_left
      · simp only [Act.put, List.setIfInBounds_toArray, List.set_cons_zero, List.set_cons_succ, i64_w, i32_w]
        rfl
      refine pure_ (i := 16) (N := (some 21)) (v := undef) (a' := ?_) #[true, true, true, true, true, true, true, true, true, true, true, true, true, true, true, true, true, false, false] rfl rfl (any_of HT_.out (by kernel_rfl)) (fun _ _ _ h => h) (Or.inr ⟨by rfl, rfl⟩) ?_ ?_
      rotate_left
      · simp only [Act.put, List.setIfInBounds_toArray, List.set_cons_zero, List.set_cons_succ, i64_w, i32_w]
        rfl
      refine pure_ (i := 17) (N := (some 22)) (v := ?_) (a' := ?_) #[true, true, true, true, true, true, true, true, true, true, true, true, true, true, true, true, true, true, false] rfl rfl (any_of HT_.out (by kernel_rfl)) (fun _ _ _ h => h) (Or.inl ⟨by rfl, ?_⟩) ?_ ?_
      rotate_left
      · intro w'
        go_simp
        first | done | with_reducible rfl
      rotate_left
      · simp only [Act.put, List.setIfInBounds_toArray, List.set_cons_zero, List.set_cons_succ, i64_w, i32_w]
        rfl
      refine pure_ (i := 18) (N := (some 4)) (v := ?_) (a' := ?_) #[true, true, true, true, true, true, true, true, true, true, true, true, true, true, true, true, true, true, true] rfl rfl (any_of HT_.out (by kernel_rfl)) (fun _ _ _ h => h) (Or.inl ⟨by rfl, ?_⟩) ?_ ?_
      rotate_left
      · intro w'
        go_simp
        first | done | with_reducible rfl
      rotate_left
      · simp only [Act.put, List.setIfInBounds_toArray, List.set_cons_zero, List.set_cons_succ, i64_w, i32_w]
        rfl
      refine done_ (done_of HT_.out (by kernel_rfl)) ?_
      go_wp2
      go_ret
      exact ⟨rfl, below_drew HB.out⟩
end Go.Proofs.Ytkncmbbkehnagaa.Cm

set_option linter.unusedVariables false
set_option linter.unusedSimpArgs false
/-! The chip's setters and what it tells of itself. -/
namespace Go.Proofs.Ytkncmbbkehnagaa.Cm
open Go.RowKit Go.Proofs.YtkncmbbkehnagaaW.PrintWords Go.Proofs.YtkncmbbkehnagaaW.PrintLast Go.Proofs.YtkncmbbkehnagaaW.PrintMore Go.Proofs.Ytkncmbbkehnagaa.Kp Go.Proofs.Ytkncmbbkehnagaa.Cp
attribute [local go_sem] max2_int min2_int max_two min_two max_three min_three max_four min_four

/-- The post of a call that changes the chip. -/
def Now (w : World) (base : Nat) (ok : Nat → Prop) (g : Nat) (s' : Chp) (w' : World) : Prop := IsChip w' base ok g s' ∧ Kp ok w w'
theorem now_G {w w1 : World} {base : Nat} {ok : Nat → Prop} {g h cap : Nat} {cs : Array Value} {pg : Nat → Nat} {s s' : Chp} (r : Rep w1 base ok g h cap cs pg s) (hk : Kp ok w w1) (j : Nat) (v : Value) (hc : (s.cells h cap).setIfInBounds j v = s'.cells h cap) (hb : s'.blocks = s.blocks) (hi : s'.Inv) : Now w base ok g s' (w1.setCell ⟨g, j, none⟩ v) :=
  ⟨⟨h, cap, cs, pg, r.setG j v hc hb hi⟩, hk.set r.okg v⟩

def cutS (s : Chp) (n keep : Int) : Chp := { s with cut := if n < -1 then -1 else n, keep := if keep < 0 then 0 else keep }
theorem cutS_inv {s : Chp} (h : s.Inv) {n k : Int} (hn : n ≤ 9223372036854775807) (hk : k ≤ 9223372036854775807) : (cutS s n k).Inv :=
  { h with c1 := by simp only [cutS]; split <;> omega, c2 := by simp only [cutS]; split <;> omega, k1 := by simp only [cutS]; split <;> omega, k2 := by simp only [cutS]; split <;> omega }
theorem now_G2 {w w1 : World} {base : Nat} {ok : Nat → Prop} {g : Nat} {s s' : Chp} (r : Now w base ok g s w1) (j : Nat) (v : Value) (hc : ∀ h cap, (s.cells h cap).setIfInBounds j v = s'.cells h cap) (hb : s'.blocks = s.blocks) (hi : s'.Inv) : Now w base ok g s' (w1.setCell ⟨g, j, none⟩ v) := by
  obtain ⟨⟨h, cap, cs, pg, r⟩, hk⟩ := r
  exact now_G r hk j v (hc h cap) hb hi
set_option maxHeartbeats 2000000 in
set_option maxRecDepth 100000 in
theorem cut {w : World} {base : Nat} {ok : Nat → Prop} {g : Nat} {s : Chp} (hI : IsChip w base ok g s) (n k : Int) (hn : n ≤ 9223372036854775807) (hk : k ≤ 9223372036854775807) :
    Calls Try.prog 20 #[.pointer (some ⟨g, 0, none⟩), .int .i64 n, .int .i64 k] w fun e w' => (∃ v, e = .returned v) ∧ Now w base ok g (cutS s n k) w' := by
  have HI := Aside0.mk hI
  obtain ⟨h, cap, cs, pg, r⟩ := hI
  obtain ⟨-, ⟨-, -, c7, c8, -⟩, fz⟩ := ten r
  have f7 := fz 7
  have f8 := fz 8
  have HN := Aside0.mk hn
  have HK := Aside0.mk hk
  have HV := Aside0.mk r.inv
  clear r fz hn hk
  have fin : ∀ x y : Int, x = (if n < -1 then -1 else n) → y = (if k < 0 then 0 else k) → Now w base ok g (cutS s n k) ((w.setCell ⟨g, 7, none⟩ (.int .i64 x)).setCell ⟨g, 8, none⟩ (.int .i64 y)) := by
    rintro x y rfl rfl
    have h1 : Now w base ok g { s with cut := if n < -1 then -1 else n } (w.setCell ⟨g, 7, none⟩ (.int .i64 (if n < -1 then -1 else n))) :=
      now_G2 ⟨HI.out, Kp.refl _ _⟩ 7 _ (fun h cap => by simp [Chp.cells]) rfl { HV.out with c1 := by simp only; split <;> omega, c2 := by have := HN.out; simp only; split <;> omega }
    exact now_G2 h1 8 _ (fun h cap => by simp [Chp.cells, cutS]) rfl (cutS_inv HV.out HN.out HK.out)
  have FIN := Aside0.mk fin
  clear fin
  by_cases hlt : n < -1
  · by_cases hk0 : k < 0
    · go_enter Try.func20, Try.ntmps20
      go_wp2
      go_end0
      exact ⟨⟨_, rfl⟩, FIN.out _ _ (by rw [if_pos (by omega)]) (by rw [if_pos (by omega)])⟩
    · go_enter Try.func20, Try.ntmps20
      go_wp2
      go_end0
      exact ⟨⟨_, rfl⟩, FIN.out _ _ (by rw [if_pos (by omega)]) (by rw [if_neg (by omega)])⟩
  · by_cases hk0 : k < 0
    · go_enter Try.func20, Try.ntmps20
      go_wp2
      go_end0
      exact ⟨⟨_, rfl⟩, FIN.out _ _ (by rw [if_neg (by omega)]) (by rw [if_pos (by omega)])⟩
    · go_enter Try.func20, Try.ntmps20
      go_wp2
      go_end0
      exact ⟨⟨_, rfl⟩, FIN.out _ _ (by rw [if_neg (by omega)]) (by rw [if_neg (by omega)])⟩
set_option maxHeartbeats 2000000 in
set_option maxRecDepth 100000 in
theorem down {w : World} {base : Nat} {ok : Nat → Prop} {g : Nat} {s : Chp} (hI : IsChip w base ok g s) :
    Calls Try.prog 33 #[.pointer (some ⟨g, 0, none⟩)] w fun e w' => e = .returned (.bool s.down) ∧ w' = w := by
  obtain ⟨h, cap, cs, pg, r⟩ := hI
  obtain ⟨-, ⟨-, -, -, -, c9⟩, -⟩ := ten r
  clear r
  go_enter Try.func33, Try.ntmps33
  go_wp2
  go_ret
  exact ⟨rfl, rfl⟩
end Go.Proofs.Ytkncmbbkehnagaa.Cm

/-
  slices.Clone at Byte: the same elements in new memory; nil of nil.
-/
set_option linter.unusedVariables false
set_option linter.unusedSimpArgs false
namespace Go.Proofs.Ytkncmbbkehnagaa.CloneByte
open Go.RowKit Go.Proofs.YtkncmbbkehnagaaW.PrintWords Go.Proofs.YtkncmbbkehnagaaW.PrintLast Go.Proofs.YtkncmbbkehnagaaW.PrintMore

theorem infoE : (Try.prog.info? 5).map (fun i => (i.zero, i.size, i.bytes)) = some (some (.int .u8 0), 1, 1) := by kernel_rfl
theorem R_empty (W : World) (base : Nat) (h : base ≤ W.heap.size) : ((Kd.int .u8)).R 5 (W.alloc (.cells #[] 5)) base (fun _ => True) (.slice (some ⟨W.heap.size, 0, none⟩) 0 0) [] :=
  Kd.R_of_own (xs := []) ⟨by simp [encs], .inr ⟨W.heap.size, 0, #[], rfl, h, blk_new W _, Nat.le_refl _, Nat.zero_le _, by simp, by simp [encs]⟩⟩ (fun _ _ => trivial)

set_option maxHeartbeats 2000000 in
set_option maxRecDepth 100000 in
theorem calls (A : Option Addr) (c : Nat) (l : List Int) (w : World) (hr : Kd.C (Kd.int .u8) w A l.length l) (hc : l.length ≤ c) (hl : l.length * 1 ≤ 140737488355328) :
    Calls Try.prog 44 #[.slice A l.length c] w fun e w' => ∃ v : Value, e = .returned v ∧ Kd.R (Kd.int .u8) 5 w' w.heap.size (fun _ => True) v l ∧ Below w.heap.size w w' := by
  have hq := fun (W : World) => Lib.run_eql_slice_nil (P := Try.prog) W 26 5 A l.length c 0 0 Try.underlying26
  have HR := Aside0.mk hr
  have HL := Aside0.mk hl
  clear hr hc hl
  cases A with
  | none =>
    have hnil : l = [] := by
      cases l with
      | nil => rfl
      | cons x xs => obtain ⟨_, _, e⟩ := HR.out; obtain ⟨_, he, _⟩ := e (by simp); cases he
    subst hnil
    simp only [Option.isNone_none, List.length_nil] at hq
    go_enter Try.func44, Try.ntmps44
    go_wp2
    go_ret
    exact ⟨_, rfl, Kd.R_nil _ _ _ _ _, Below.refl _ _⟩
  | some ad =>
    simp only [Option.isNone_some] at hq
    go_enter Try.func44, Try.ntmps44
    go_wp2_with ((with_reducible refine gate_dst (N := 7) rfl ?_); refine Kd.R_append_row (h1 := fun _ => rfl) (Value.int .u8) (0 : Int) (w0 := w) w.heap.size rfl (.tmp 5) (.tmp 6) 26 5 (.int .u8 0) 1 rfl Try.underlying26 infoE rfl (by decide) (.slice (some ⟨w.heap.size, 0, none⟩) 0 0) [] l (some ad) l.length c (fun _ => True) rfl rfl (fun _ _ => trivial) (R_empty w _ (Nat.le_refl _)) (Kd.C_alloc HR.out _) (below_alloc (Below.refl _ _) _) (by simp) (by simpa using HL.out) ?_; intro v1 w1 ho hb hg hat; have HO := Aside0.mk ho; have HB := Aside0.mk hb; clear ho hb hg hat)
    go_ret
    have h1 := HO.out
    simp only [List.nil_append] at h1
    exact ⟨_, rfl, h1, HB.out⟩
end Go.Proofs.Ytkncmbbkehnagaa.CloneByte

set_option linter.unusedVariables false
set_option linter.unusedSimpArgs false
/-! The chip's Read. -/
namespace Go.Proofs.Ytkncmbbkehnagaa.Cm
open Go.RowKit Go.Proofs.YtkncmbbkehnagaaW.PrintWords Go.Proofs.YtkncmbbkehnagaaW.PrintLast Go.Proofs.YtkncmbbkehnagaaW.PrintMore Go.Proofs.Ytkncmbbkehnagaa.Kp Go.Proofs.Ytkncmbbkehnagaa.Cp
attribute [local go_sem] max2_int min2_int max_two min_two max_three min_three max_four min_four

theorem spot_at {s : Chp} {b p : Int} (hv : s.Inv) (h : spotB s b p = true) : ∃ (i j : Nat) (B : Blk) (xs : List Int), b = i ∧ p = j ∧ s.blocks[i]? = some B ∧ B.pages[j]? = some xs ∧ i < s.blocks.length ∧ j < B.pages.length := by
  unfold spotB hasB at h
  simp only [Bool.and_eq_true, decide_eq_true_eq] at h
  obtain ⟨⟨h1, h2⟩, h3, h4⟩ := h
  have hi : b.toNat < s.blocks.length := by omega
  have hl := hv.len _ (List.getElem_mem hi)
  have hj : p.toNat < (s.blocks[b.toNat]).pages.length := by omega
  exact ⟨b.toNat, p.toNat, _, _, by omega, by omega, List.getElem?_eq_getElem hi, List.getElem?_eq_getElem hj, hi, hj⟩
def pageOf (s : Chp) (b p : Int) : List Int := ((s.blocks[b.toNat]?.map (·.pages)).getD [])[p.toNat]?.getD []
def readS (s : Chp) (b p : Int) : Chp := if spotB s b p = true ∧ s.down = false then { s with br := wrap64 (s.br + 1) } else s
def readE (s : Chp) (b p : Int) : Int := if spotB s b p = true then (if s.down = true then 2 else 0) else 1
def readX (s : Chp) (b p : Int) : List Int := if spotB s b p = true ∧ s.down = false then pageOf s b p else []
theorem two {w : World} {b t : Nat} {x y : Value} (h : w.heap[b]? = some (.cells #[x, y] t (0, 0))) : w.cell? ⟨b, 0, none⟩ = some x ∧ w.cell? ⟨b, 1, none⟩ = some y := ⟨(blk_cell h 0).trans rfl, (blk_cell h 1).trans rfl⟩
/-- The cells of a block of the chip's. -/
theorem rowCells {W : World} {base : Nat} {ok : Nat → Prop} {g h cap : Nat} {cs : Array Value} {pg : Nat → Nat} {s : Chp} (r : Rep W base ok g h cap cs pg s) {i : Nat} {B : Blk} (hB : s.blocks[i]? = some B) :
    W.cell? ⟨h, i * 4, none⟩ = some (.bool B.bad) ∧ W.cell? ⟨h, i * 4 + 1, none⟩ = some (.int .i64 B.next) ∧ W.cell? ⟨h, i * 4 + 2, none⟩ = some (.int .i64 B.count) ∧ W.cell? ⟨h, i * 4 + 3, none⟩ = some (.slice (some ⟨pg i, 0, none⟩) B.pages.length B.pages.length) := by
  obtain ⟨r0, r1, r2, r3⟩ := r.row i B hB
  exact ⟨(blk_cell r.hh _).trans r0, (blk_cell r.hh _).trans r1, (blk_cell r.hh _).trans r2, (blk_cell r.hh _).trans r3⟩
theorem pageCell {W : World} {base : Nat} {ok : Nat → Prop} {g h cap : Nat} {cs : Array Value} {pg : Nat → Nat} {s : Chp} (r : Rep W base ok g h cap cs pg s) {i j : Nat} {B : Blk} {xs : List Int} (hB : s.blocks[i]? = some B) (hx : B.pages[j]? = some xs) :
    ∃ A c, W.cell? ⟨pg i, j, none⟩ = some (.slice A xs.length c) ∧ xs.length ≤ c ∧ Kd.C (Kd.int .u8) W A xs.length xs ∧ Kd.R (Kd.int .u8) 5 W base ok (.slice A xs.length c) xs := by
  obtain ⟨ps, h1, h2⟩ := r.pgs i B hB
  obtain ⟨v, h3, h4⟩ := h2 j xs hx
  obtain ⟨A, c, rfl, h5, h6⟩ := Kd.R_reads h4
  exact ⟨A, c, (blk_cell h1 _).trans h3, h5, h6, h4⟩
/-- What the read of a page looks at. -/
theorem readHeld {w w' : World} {base : Nat} {ok : Nat → Prop} {g h cap bx : Nat} {cs : Array Value} {pg : Nat → Nat} {s : Chp} {i j : Nat} {B : Blk} {A : Option Addr} {n c : Nat} (r : Rep w base ok g h cap cs pg s) (hbx : w.heap[bx]? = some (.cells #[.int .i64 (i : Int), .int .i64 (j : Int)] 40 (0, 0)))
    (hB : s.blocks[i]? = some B) (hp : w.cell? ⟨pg i, j, none⟩ = some (.slice A n c)) (hb : Below w.heap.size w w') :
    (w'.cell? ⟨bx, 0, none⟩ = some (.int .i64 (i : Int)) ∧ w'.cell? ⟨bx, 1, none⟩ = some (.int .i64 (j : Int))) ∧ w'.cell? ⟨g, 0, none⟩ = some (.slice (some ⟨h, 0, none⟩) s.blocks.length cap) ∧ w'.cell? ⟨h, i * 4 + 3, none⟩ = some (.slice (some ⟨pg i, 0, none⟩) B.pages.length B.pages.length) ∧ w'.cell? ⟨pg i, j, none⟩ = some (.slice A n c) :=
  ⟨⟨pw_cell_below hb (two hbx).1, pw_cell_below hb (two hbx).2⟩, pw_cell_below hb (ten r).1.1, pw_cell_below hb (rowCells r hB).2.2.2, pw_cell_below hb hp⟩
def reg_read_6.T : Bool × List (List Nat × List Nat) := (true, [([], []), ([0], [0]), ([1], [1]), ([2], [2]), ([], []), ([4], [4]), ([3, 5], [3, 5]), ([6], [6]), ([7], [7]), ([], []), ([9], [9]), ([8, 10], [8, 10]), ([11], [11]), ([12], [12]), ([13, 13, 0, 1, 2, 3, 4, 5, 6, 7, 8, 9, 10, 11, 12, 13], [13]), ([14, 0, 1, 2, 3, 4, 5, 6, 7, 8, 9, 10, 11, 12, 13, 14], [])])
def reg_read_6.B : List Nat := [0, 1, 3, 7, 0, 16, 63, 127, 255, 0, 512, 2047, 4095, 8191, 16383, 32767]
theorem reg_read_6.tab : rtab .any (opsOf Try.f54 6) = reg_read_6.T := by kernel_rfl
theorem reg_read_6.bits : waitsOk reg_read_6.T.2 reg_read_6.B = true := by kernel_rfl
set_option maxHeartbeats 4000000 in
set_option maxRecDepth 100000 in
theorem read {w : World} {base : Nat} {ok : Nat → Prop} {g : Nat} {s : Chp} (hI : IsChip w base ok g s) (b p : Int) (hx : (readX s b p).length ≤ 100000) :
    Calls Try.prog 54 #[.pointer (some ⟨g, 0, none⟩), .agg #[.int .i64 b, .int .i64 p]] w fun e w' => ∃ v : Value, e = .returned (.tuple #[v, .int .i64 (readE s b p)]) ∧ Kd.R (Kd.int .u8) 5 w' w.heap.size (fun _ => True) v (readX s b p) ∧ Now w base ok g (readS s b p) w' := by
  have HB := Aside0.mk (below_alloc (Below.refl _ w) (.cells #[.int .i64 b, .int .i64 p] 40))
  have hI1 := hI.below HB.out
  obtain ⟨w1, hw1⟩ : ∃ w1, w.alloc (.cells #[.int .i64 b, .int .i64 p] 40) = w1 := ⟨_, rfl⟩
  obtain ⟨bx, hbx⟩ : ∃ bx, w.heap.size = bx := ⟨_, rfl⟩
  have hbox : w1.heap[bx]? = some (.cells #[.int .i64 b, .int .i64 p] 40 (0, 0)) := by rw [← hw1, ← hbx]; simpa using heap_alloc_new w (.cells #[.int .i64 b, .int .i64 p] 40)
  rw [hw1] at HB hI1
  have HI1 := Aside0.mk hI1
  have HI := Aside0.mk hI
  have HBX := Aside0.mk hbox
  have HW := Aside0.mk hw1
  have HX := Aside0.mk hbx
  obtain ⟨x0, x1⟩ := two hbox
  clear hI hI1 hbox hw1 hbx
  cases hs : spotB s b p with
  | false =>
    have h1 : readE s b p = 1 := by unfold readE; rw [if_neg (by rw [hs]; decide)]
    have h2 : readX s b p = [] := by unfold readX; rw [if_neg (by rw [hs]; simp)]
    have h3 : readS s b p = s := by unfold readS; rw [if_neg (by rw [hs]; simp)]
    rw [h1, h2, h3]
    have HS := Aside0.mk hs
    clear hs h1 h2 h3 hx
    go_enter Try.func54, Try.ntmps54
    go_wp2_with fail
    rw [HW.out, HX.out]
    have hcc := spot HI1.out b p
    rw [HS.out] at hcc
    refine hcc.mono ?_
    clear hcc
    rintro ev w2 ⟨rfl, hb⟩
    go_wp2_with fail
    go_ret2
    exact ⟨_, rfl, Kd.R_nil _ _ _ _ _, HI1.out.below hb, (Kp.of_below HB.out _).below hb⟩
  | true =>
    cases hd : s.down with
    | true =>
      have h1 : readE s b p = 2 := by unfold readE; rw [if_pos hs, if_pos hd]
      have h2 : readX s b p = [] := by unfold readX; rw [if_neg (by rw [hd]; simp)]
      have h3 : readS s b p = s := by unfold readS; rw [if_neg (by rw [hd]; simp)]
      rw [h1, h2, h3]
      have HS := Aside0.mk hs
      have HD := Aside0.mk hd
      clear hs h1 h2 h3 hx hd
      go_enter Try.func54, Try.ntmps54
      go_wp2_with fail
      rw [HW.out, HX.out]
      have hcc := spot HI1.out b p
      rw [HS.out] at hcc
      refine hcc.mono ?_
      clear hcc
      rintro ev w2 ⟨rfl, hb⟩
      have hI2 := HI1.out.below hb
      have HK2 := Aside0.mk ((Kp.of_below HB.out ok).below hb)
      have HI2 := Aside0.mk hI2
      obtain ⟨h, cap, cs, pg, r⟩ := hI2
      obtain ⟨-, ⟨-, -, -, -, c9⟩, -⟩ := ten r
      rw [HD.out] at c9
      clear r hb
      go_wp2_with fail
      go_ret2
      exact ⟨_, rfl, Kd.R_nil _ _ _ _ _, HI2.out, HK2.out⟩
    | false =>
      have h1 : readE s b p = 0 := by unfold readE; rw [if_pos hs, if_neg (by rw [hd]; decide)]
      have h2 : readX s b p = pageOf s b p := by unfold readX; rw [if_pos ⟨hs, hd⟩]
      have h3 : readS s b p = { s with br := wrap64 (s.br + 1) } := by unfold readS; rw [if_pos ⟨hs, hd⟩]
      rw [h2] at hx
      rw [h1, h2, h3]
      obtain ⟨i, j, B, xs, rfl, rfl, hB, hxs, hi, hj⟩ := spot_at HI1.out.inv hs
      have hpo : pageOf s (i : Int) (j : Int) = xs := by simp [pageOf, hB, hxs]
      rw [hpo] at hx ⊢
      have HXL := Aside0.mk hx
      have HS := Aside0.mk hs
      have HD := Aside0.mk hd
      have HBk := Aside0.mk hB
      have HXs := Aside0.mk hxs
      have hin : ((i : Nat) : Int) < (s.blocks.length : Int) := by omega
      have hjn : ((j : Nat) : Int) < (B.pages.length : Int) := by omega
      clear hs h1 h2 h3 hx hd hpo hB hxs
      go_enter Try.func54, Try.ntmps54
      go_wp2_with fail
      rw [HW.out, HX.out]
      have hcc := spot HI1.out (i : Int) (j : Int)
      rw [HS.out] at hcc
      refine hcc.mono ?_
      clear hcc
      rintro ev w2 ⟨rfl, hb⟩
      have HBX2 := Aside0.mk ((hb.block bx (blk_lt HBX.out)).trans HBX.out)
      have HK2 := Aside0.mk ((Kp.of_below HB.out ok).below hb)
      have hI2 := HI1.out.below hb
      obtain ⟨h, cap, cs, pg, r⟩ := hI2
      obtain ⟨⟨-, -, c2, -⟩, ⟨-, -, -, -, c9⟩, fz⟩ := ten r
      have f2 := fz 2
      rw [HD.out] at c9
      have HR2 := Aside0.mk r
      clear r fz hb x0 x1
      go_upto_region 6 with fail
      obtain ⟨w3, hw3⟩ : ∃ w3, w2.setCell ⟨g, 2, none⟩ (.int .i64 (wrap64 (s.br + 1))) = w3 := ⟨_, rfl⟩
      have hN : Now w base ok g { s with br := wrap64 (s.br + 1) } w3 := by
        rw [← hw3]
        exact now_G HR2.out HK2.out 2 _ (by simp [Chp.cells]) rfl { HR2.out.inv with }
      have hbx3 : w3.heap[bx]? = some (.cells #[.int .i64 (i : Int), .int .i64 (j : Int)] 40 (0, 0)) := by
        rw [← hw3]
        refine blk_far HBX2.out (p := ⟨g, 2, none⟩) ?_ _
        have := HI.out.lt
        have := HX.out
        show bx ≠ g
        omega
      obtain ⟨⟨h', cap', cs', pg', r'⟩, hk3⟩ := hN
      obtain ⟨A, c, hp, hcl, hCx, hRx⟩ := pageCell r' HBk.out HXs.out
      have HR3 := Aside0.mk r'
      have HK3 := Aside0.mk hk3
      have HBX3 := Aside0.mk hbx3
      have HP := Aside0.mk hp
      have HCX := Aside0.mk hCx
      have HCL := Aside0.mk hcl
      rw [hw3]
      clear hw3 hbx3 r' hk3 hp hcl hCx hRx HR2 HBX2 HK2 c2 c9 f2
      refine start_ (n := 16) (S := fun w' => (w'.cell? ⟨bx, 0, none⟩ = some (.int .i64 (i : Int)) ∧ w'.cell? ⟨bx, 1, none⟩ = some (.int .i64 (j : Int))) ∧ w'.cell? ⟨g, 0, none⟩ = some (.slice (some ⟨h', 0, none⟩) s.blocks.length cap') ∧ w'.cell? ⟨h', i * 4 + 3, none⟩ = some (.slice (some ⟨pg' i, 0, none⟩) B.pages.length B.pages.length) ∧ w'.cell? ⟨pg' i, j, none⟩ = some (.slice A xs.length c)) (ds := []) #[false, false, false, false, false, false, false, false, false, false, false, false, false, false, false, false] (by kernel_rfl) rfl rfl (readHeld (s := { s with br := wrap64 (s.br + 1) }) HR3.out HBX3.out HBk.out HP.out (below_drew (Below.refl _ _))) (fun hHeld => ?_)
      refine with_tabW reg_read_6.tab reg_read_6.bits (fun HT_ HW_ => ?_)
      refine pure_ (i := 0) (N := (some 25)) (v := ?_) (a' := ?_) #[true, false, false, false, false, false, false, false, false, false, false, false, false, false, false, false] rfl rfl (any_of HT_.out (by kernel_rfl)) (fun _ _ _ h => h) (Or.inl ⟨by rfl, ?_⟩) ?_ ?_
      rotate_left
      · intro w'
        go_simp
        first | done | with_reducible rfl
      rotate_left
      · simp only [Act.put, List.setIfInBounds_toArray, List.set_cons_zero, List.set_cons_succ, i64_w, i32_w]
        rfl
      refine pure_ (i := 1) (N := (some 26)) (v := ?_) (a' := ?_) #[true, true, false, false, false, false, false, false, false, false, false, false, false, false, false, false] rfl rfl (any_of HT_.out (by kernel_rfl)) (fun _ _ _ h => h) (Or.inl ⟨by rfl, ?_⟩) ?_ ?_
      rotate_left
      · intro w'
        go_simp
        first | done | with_reducible rfl
      rotate_left
      · simp only [Act.put, List.setIfInBounds_toArray, List.set_cons_zero, List.set_cons_succ, i64_w, i32_w]
        rfl
      refine pure_ (i := 2) (N := (some 27)) (v := ?_) (a' := ?_) #[true, true, true, false, false, false, false, false, false, false, false, false, false, false, false, false] rfl rfl (any_of HT_.out (by kernel_rfl)) (fun _ _ _ h => h) (Or.inl ⟨by rfl, ?_⟩) ?_ ?_
      rotate_left
      · intro w'
        go_simp
        first | done | with_reducible rfl
      rotate_left
      · simp only [Act.put, List.setIfInBounds_toArray, List.set_cons_zero, List.set_cons_succ, i64_w, i32_w]
        rfl
      refine take_ (i := 3) (N := (some 28)) (v := ?_) (a' := ?_) #[true, true, true, true, false, false, false, false, false, false, false, false, false, false, false, false] rfl rfl (take_ofW HT_.out HW_.out (by kernel_rfl)) (fun _ _ _ h => h) (Or.inl ⟨by rfl, ?_⟩) hHeld ?_ ?_
      rotate_left
      · rintro w' ⟨⟨s0, s1⟩, s2, s3, s4⟩
        go_simp
        first | done | with_reducible rfl
      rotate_left
      · simp only [Act.put, List.setIfInBounds_toArray, List.set_cons_zero, List.set_cons_succ, i64_w, i32_w]
        rfl
      refine pure_ (i := 4) (N := (some 29)) (v := ?_) (a' := ?_) #[true, true, true, true, true, false, false, false, false, false, false, false, false, false, false, false] rfl rfl (any_of HT_.out (by kernel_rfl)) (fun _ _ _ h => h) (Or.inl ⟨by rfl, ?_⟩) ?_ ?_
      rotate_left
      · intro w'
        go_simp
        first | done | with_reducible rfl
      rotate_left
      · simp only [Act.put, List.setIfInBounds_toArray, List.set_cons_zero, List.set_cons_succ, i64_w, i32_w]
        rfl
      refine take_ (i := 5) (N := (some 30)) (v := ?_) (a' := ?_) #[true, true, true, true, true, true, false, false, false, false, false, false, false, false, false, false] rfl rfl (take_ofW HT_.out HW_.out (by kernel_rfl)) (fun _ _ _ h => h) (Or.inl ⟨by rfl, ?_⟩) hHeld ?_ ?_
      rotate_left
      · rintro w' ⟨⟨s0, s1⟩, s2, s3, s4⟩
        go_simp
        first | done | with_reducible rfl
      rotate_left
      · simp only [Act.put, List.setIfInBounds_toArray, List.set_cons_zero, List.set_cons_succ, i64_w, i32_w]
        rfl
      refine take_ (i := 6) (N := (some 31)) (v := ?_) (a' := ?_) #[true, true, true, true, true, true, true, false, false, false, false, false, false, false, false, false] rfl rfl (take_ofW HT_.out HW_.out (by kernel_rfl)) (fun _ _ _ h => h) (Or.inl ⟨by rfl, ?_⟩) hHeld ?_ ?_
      rotate_left
      · rintro w' ⟨⟨s0, s1⟩, s2, s3, s4⟩
        go_simp
        first | done | with_reducible rfl
      rotate_left
      · simp only [Act.put, List.setIfInBounds_toArray, List.set_cons_zero, List.set_cons_succ, i64_w, i32_w]
        rfl
      refine pure_ (i := 7) (N := (some 32)) (v := ?_) (a' := ?_) #[true, true, true, true, true, true, true, true, false, false, false, false, false, false, false, false] rfl rfl (any_of HT_.out (by kernel_rfl)) (fun _ _ _ h => h) (Or.inl ⟨by rfl, ?_⟩) ?_ ?_
      rotate_left
      · intro w'
        go_simp
        first | done | with_reducible rfl
      rotate_left
      · simp only [Act.put, List.setIfInBounds_toArray, List.set_cons_zero, List.set_cons_succ, i64_w, i32_w]
        rfl
      refine take_ (i := 8) (N := (some 33)) (v := ?_) (a' := ?_) #[true, true, true, true, true, true, true, true, true, false, false, false, false, false, false, false] rfl rfl (take_ofW HT_.out HW_.out (by kernel_rfl)) (fun _ _ _ h => h) (Or.inl ⟨by rfl, ?_⟩) hHeld ?_ ?_
      rotate_left
      · rintro w' ⟨⟨s0, s1⟩, s2, s3, s4⟩
        go_simp
        first | done | with_reducible rfl
      rotate_left
      · simp only [Act.put, List.setIfInBounds_toArray, List.set_cons_zero, List.set_cons_succ, i64_w, i32_w]
        rfl
      refine pure_ (i := 9) (N := (some 34)) (v := ?_) (a' := ?_) #[true, true, true, true, true, true, true, true, true, true, false, false, false, false, false, false] rfl rfl (any_of HT_.out (by kernel_rfl)) (fun _ _ _ h => h) (Or.inl ⟨by rfl, ?_⟩) ?_ ?_
      rotate_left
      · intro w'
        go_simp
        first | done | with_reducible rfl
      rotate_left
      · simp only [Act.put, List.setIfInBounds_toArray, List.set_cons_zero, List.set_cons_succ, i64_w, i32_w]
        rfl
      refine take_ (i := 10) (N := (some 35)) (v := ?_) (a' := ?_) #[true, true, true, true, true, true, true, true, true, true, true, false, false, false, false, false] rfl rfl (take_ofW HT_.out HW_.out (by kernel_rfl)) (fun _ _ _ h => h) (Or.inl ⟨by rfl, ?_⟩) hHeld ?_ ?_
      rotate_left
      · rintro w' ⟨⟨s0, s1⟩, s2, s3, s4⟩
        go_simp
        first | done | with_reducible rfl
      rotate_left
      · simp only [Act.put, List.setIfInBounds_toArray, List.set_cons_zero, List.set_cons_succ, i64_w, i32_w]
        rfl
      refine take_ (i := 11) (N := (some 36)) (v := ?_) (a' := ?_) #[true, true, true, true, true, true, true, true, true, true, true, true, false, false, false, false] rfl rfl (take_ofW HT_.out HW_.out (by kernel_rfl)) (fun _ _ _ h => h) (Or.inl ⟨by rfl, ?_⟩) hHeld ?_ ?_
      rotate_left
      · rintro w' ⟨⟨s0, s1⟩, s2, s3, s4⟩
        go_simp
        first | done | with_reducible rfl
      rotate_left
      · simp only [Act.put, List.setIfInBounds_toArray, List.set_cons_zero, List.set_cons_succ, i64_w, i32_w]
        rfl
      refine take_ (i := 12) (N := (some 37)) (v := ?_) (a' := ?_) #[true, true, true, true, true, true, true, true, true, true, true, true, true, false, false, false] rfl rfl (take_ofW HT_.out HW_.out (by kernel_rfl)) (fun _ _ _ h => h) (Or.inl ⟨by rfl, ?_⟩) hHeld ?_ ?_
      rotate_left
      · rintro w' ⟨⟨s0, s1⟩, s2, s3, s4⟩
        go_simp
        first | done | with_reducible rfl
      rotate_left
      · simp only [Act.put, List.setIfInBounds_toArray, List.set_cons_zero, List.set_cons_succ, i64_w, i32_w]
        rfl
      refine one_ (i := 13) (N := (some 38)) #[true, true, true, true, true, true, true, true, true, true, true, true, true, true, false, false] rfl rfl (one_of HT_.out (by kernel_rfl)) (by decide) (fun K hK => ?_)
      refine goes_ Try.func44 (by kernel_rfl) rfl #[.slice A xs.length c] (by rfl) rfl rfl (by (try simp only [List.map_toArray, List.map_cons, List.map_nil]); first | done | rfl) ?_
      with_reducible refine (CloneByte.calls A c xs _ (Kd.C_drew HCX.out) HCL.out (by have := HXL.out; omega)).mono ?_
      rintro ev_ w4 ⟨v4, rfl, hR4, hb4⟩
      refine ⟨_, rfl, ?_⟩
      have HB4 := Aside0.mk (below_step (below_drew (Below.refl _ w3)) hb4)
      have HR4 := Aside0.mk hR4
      clear hb4 hR4
      refine hK.out _ _ (readHeld (s := { s with br := wrap64 (s.br + 1) }) HR3.out HBX3.out HBk.out HP.out HB4.out) (fun hHeld => ?_)
      clear hK K
      refine norm_ (a' := ?_) ?_ ?_
      rotate_left
      · show Act.put _ (some 38) _ = _
        simp only [Act.put, List.setIfInBounds_toArray, List.set_cons_zero, List.set_cons_succ, i64_w, i32_w]
        rfl
      refine pure_ (i := 14) (N := (some 4)) (v := ?_) (a' := ?_) #[true, true, true, true, true, true, true, true, true, true, true, true, true, true, true, false] rfl rfl (any_of HT_.out (by kernel_rfl)) (fun _ _ _ h => h) (Or.inl ⟨by rfl, ?_⟩) ?_ ?_
      rotate_left
      · intro w'
        go_simp
        first | done | with_reducible rfl
      rotate_left
      · simp only [Act.put, List.setIfInBounds_toArray, List.set_cons_zero, List.set_cons_succ, i64_w, i32_w]
        rfl
      refine pure_ (i := 15) (N := (some 5)) (v := ?_) (a' := ?_) #[true, true, true, true, true, true, true, true, true, true, true, true, true, true, true, true] rfl rfl (any_of HT_.out (by kernel_rfl)) (fun _ _ _ h => h) (Or.inl ⟨by rfl, ?_⟩) ?_ ?_
      rotate_left
      · intro w'
        go_simp
        first | done | with_reducible rfl
      rotate_left
      · simp only [Act.put, List.setIfInBounds_toArray, List.set_cons_zero, List.set_cons_succ, i64_w, i32_w]
        rfl
      refine done_ (done_of HT_.out (by kernel_rfl)) ?_
      go_wp2
      go_ret2
      have hb : Below w3.heap.size w3 w4 := HB4.out
      exact ⟨_, rfl, Kd.R_lower HR4.out HK3.out.bel.size, ⟨_, _, _, _, HR3.out.below hb⟩, HK3.out.below hb⟩
end Go.Proofs.Ytkncmbbkehnagaa.Cm

