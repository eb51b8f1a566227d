/-
  How an argument that can be read as data is opened into the printed words' descriptors ('Kd'): one lemma for each shape of type. Plain, over any program.
-/
import Derived.ChangeArms
import Derived.DataReads
import Derived.DataElems
import Derived.Deep.Slices
import Derived.WideShapes
import Derived.Carry
import Derived.SizedLaws
import Derived.Test.YtloldgiggnhemaaWWords
set_option linter.unusedVariables false
set_option linter.unusedSimpArgs false
namespace Go.Proofs.Ytloldgiggnhemaa.Opens
open Go.RowKit Go.Proofs.YtloldgiggnhemaaW.PrintWords Go.WideShapes

/-- Whatever reads as data of type t is described by d, and is well formed. -/
structure Opens {α : Type} (P : Program) (t : TypeId) (d : Kd α) (ok : α → Prop) : Prop where
  cells : P.cellsOf t = d.sz
  out : ∀ {H : Type} {enc : TypeId × Value → H} {w : World} {base : Nat} {spare : Nat → Bool} {held : Bool} {fuel : Nat} {cs : List Value} {x : DataW H × List MemPlace},
    DataW.trod enc P w base spare held fuel t cs = some x → ∃ y, d.K w y cs ∧ ok y

theorem opens_int {P : Program} {t : TypeId} {k : IntKind} (ht : P.underlying t = some (.int k)) (hc : P.cellsOf t = 1) : Opens P t (Kd.int k) (fun n => (Lit.int k n).wf = true) :=
  ⟨hc, fun h => by
    obtain ⟨n, rfl, _, hw⟩ := DataW.trod_int ht h
    exact ⟨n, rfl, hw⟩⟩
theorem opens_bool {P : Program} {t : TypeId} (ht : P.underlying t = some .bool) (hc : P.cellsOf t = 1) : Opens P t Kd.bool (fun _ => True) :=
  ⟨hc, fun h => by
    obtain ⟨b, rfl, _⟩ := DataW.trod_bool ht h
    exact ⟨b, rfl, trivial⟩⟩
theorem opens_string {P : Program} {t : TypeId} (ht : P.underlying t = some .string) (hc : P.cellsOf t = 1) : Opens P t Kd.string (fun s => s.size ≤ maxLen) :=
  ⟨hc, fun h => by
    obtain ⟨s, rfl, _, hs⟩ := DataW.trod_string ht h
    exact ⟨s, rfl, hs⟩⟩

theorem list_of_lt {α : Type} {p : Nat → α → Prop} : ∀ n, (∀ i, i < n → ∃ y, p i y) → ∃ xs : List α, xs.length = n ∧ ∀ i y, xs[i]? = some y → p i y
  | 0, _ => ⟨[], rfl, fun i y h => by simp at h⟩
  | n + 1, h => by
    obtain ⟨xs, hl, hp⟩ := list_of_lt n (fun i hi => h i (by omega))
    obtain ⟨y, hy⟩ := h n (by omega)
    refine ⟨xs ++ [y], by simp [hl], fun i z hz => ?_⟩
    by_cases hi : i < n
    · rw [List.getElem?_append_left (by omega)] at hz
      exact hp i z hz
    · have : i < (xs ++ [y]).length := by
        rcases Nat.lt_or_ge i (xs ++ [y]).length with h' | h'
        · exact h'
        · rw [List.getElem?_eq_none h'] at hz
          cases hz
      obtain rfl : i = n := by
        simp at this
        omega
      rw [List.getElem?_append_right (by omega), hl, Nat.sub_self] at hz
      obtain rfl : y = z := by simpa using hz
      exact hy

/-- A row of cells that reads as a row of elements. -/
theorem row_of {α : Type} {P : Program} {e : TypeId} {d : Kd α} {ok : α → Prop} (hd : Opens P e d ok) {H : Type} {enc : TypeId × Value → H} {w : World} {base : Nat} {spare : Nat → Bool} {held : Bool} {n : Nat} {a : Addr} {len : Nat} (hlen : len ≤ maxLen)
    {D : Nat → DataW H} {Pl : Nat → List MemPlace} (hx : ∀ i, i < len → ∃ cs', w.cells? base (a.add (i * P.cellsOf e)) (P.cellsOf e) = some cs' ∧ DataW.trod enc P w base spare held n e cs' = some (D i, Pl i)) :
    ∃ xs : List α, xs.length = len ∧ d.C w (some a) len xs ∧ ∀ x ∈ xs, ok x := by
  obtain ⟨xs, hl, hp⟩ := list_of_lt (α := α) (p := fun i y => ∃ cs', w.cells? base (a.add (i * P.cellsOf e)) (P.cellsOf e) = some cs' ∧ d.K w y cs' ∧ ok y) len (fun i hi => by
    obtain ⟨cs', h1, h2⟩ := hx i hi
    obtain ⟨y, hK, hok⟩ := hd.out h2
    exact ⟨y, cs', h1, hK, hok⟩)
  refine ⟨xs, hl, ⟨hl, by unfold maxLen at hlen; omega, fun _ => ⟨a, rfl, fun j p hj => ?_⟩⟩, fun x hx => ?_⟩
  · obtain ⟨cs', h1, hK, _⟩ := hp j p hj
    obtain ⟨_, hcl, hcc⟩ := World.cells?_some h1
    refine ⟨cs', by rw [hcl, hd.cells], hK, fun i u hu => ?_⟩
    have hi : i < P.cellsOf e := by
      rcases Nat.lt_or_ge i cs'.length with h' | h'
      · omega
      · rw [List.getElem?_eq_none h'] at hu
        cases hu
    rw [← hd.cells, ← Deep.add_add, hcc i hi, hu]
  · obtain ⟨i, hi, rfl⟩ := List.getElem_of_mem hx
    obtain ⟨_, _, _, hok⟩ := hp i _ (List.getElem?_eq_getElem hi)
    exact hok

theorem opens_slice {α : Type} {P : Program} {t e : TypeId} {d : Kd α} {ok : α → Prop} (hd : Opens P e d ok) (ht : P.underlying t = some (.slice e)) (hc : P.cellsOf t = 1) :
    Opens P t (Kd.slice e d) (fun xs => xs.length ≤ maxLen ∧ ∀ x ∈ xs, ok x) :=
  ⟨hc, fun {H enc w base spare held fuel cs x} h => by
    rcases Deep.open_slice ht h with ⟨rfl, _⟩ | ⟨a, len, cap, m, n, D, Pl, rfl, _, hl, hm, hmm, _, hx⟩
    · exact ⟨[], ⟨none, 0, rfl, Nat.le_refl _, rfl, by simp, fun h0 => absurd h0 (by simp)⟩, Nat.zero_le _, fun x hx => absurd hx (by simp)⟩
    · have hml : len ≤ m := by rw [hmm]; split <;> omega
      obtain ⟨xs, hxl, hC, hok⟩ := row_of hd (Nat.le_trans hl hm) (fun i hi => hx i (Nat.lt_of_lt_of_le hi hml))
      subst hxl
      exact ⟨xs, ⟨some a, cap, rfl, hl, hC⟩, Nat.le_trans hl hm, hok⟩⟩

/-- A slice among the arguments. -/
theorem open_slice_arg {α : Type} {P : Program} {t e : TypeId} {d : Kd α} {ok : α → Prop} (hd : Opens P e d ok) (ht : P.underlying t = some (.slice e)) {H : Type} {enc : TypeId × Value → H} {w : World} {base : Nat} {spare : Nat → Bool} {held : Bool} {v : Value} {D : DataW H} {ps : List MemPlace}
    (hv : ∃ a len cap, v = .slice a len cap) (h : DataW.Trod enc P w base spare held t v D ps) : ∃ A cap, ∃ xs : List α, v = .slice A xs.length cap ∧ xs.length ≤ cap ∧ d.C w A xs.length xs ∧ xs.length ≤ maxLen ∧ ∀ x ∈ xs, ok x := by
  obtain ⟨a, len, cap, rfl⟩ := hv
  obtain ⟨fuel, hf⟩ := h
  rcases Deep.open_slice ht hf with ⟨hcs, _⟩ | ⟨a', len', cap', m, n, D, Pl, hcs, _, hl, hm, hmm, _, hx⟩
  · simp [Value.cells] at hcs
    obtain ⟨rfl, rfl, rfl⟩ := hcs
    exact ⟨none, 0, [], rfl, Nat.le_refl _, ⟨rfl, by simp, fun h0 => absurd h0 (by simp)⟩, Nat.zero_le _, fun x hx => absurd hx (by simp)⟩
  · simp [Value.cells] at hcs
    obtain ⟨rfl, rfl, rfl⟩ := hcs
    have hml : len ≤ m := by rw [hmm]; split <;> omega
    obtain ⟨xs, hxl, hC, hok⟩ := row_of hd (Nat.le_trans hl hm) (fun i hi => hx i (Nat.lt_of_lt_of_le hi hml))
    subst hxl
    exact ⟨_, _, xs, rfl, hl, hC, Nat.le_trans hl hm, hok⟩

/-- The fields of a struct, from one on, lie one behind the other. -/
structure OpensF {α : Type} (P : Program) (fs : List Field) (o : Nat) (d : Kd α) (ok : α → Prop) : Prop where
  out : ∀ {H : Type} {enc : TypeId × Value → H} {w : World} {base : Nat} {spare : Nat → Bool} {held : Bool} {n : Nat} {cs : List Value} {xs : List (DataW H × List MemPlace)}, xs.length = fs.length →
    (∀ (i : Nat) (f : Field), fs[i]? = some f → DataW.trod enc P w base spare held n f.type ((cs.drop f.offset).take (P.cellsOf f.type)) = xs[i]?) →
    ∃ y, d.K w y ((cs.drop o).take d.sz) ∧ ok y
theorem opensF_one {α : Type} {P : Program} {f : Field} {d : Kd α} {ok : α → Prop} {o : Nat} (hd : Opens P f.type d ok) (ho : f.offset = o) : OpensF P [f] o d ok := ⟨fun {H enc w base spare held n cs xs} hl h => by
  have h0 := h 0 f rfl
  have hx : ∃ y, xs[0]? = some y := by cases xs with
    | nil => simp at hl
    | cons y ys => exact ⟨y, rfl⟩
  obtain ⟨y, hy⟩ := hx
  rw [hy] at h0
  obtain ⟨z, hK, hz⟩ := hd.out h0
  rw [hd.cells, ho] at hK
  exact ⟨z, hK, hz⟩⟩
theorem opensF_cons {α β : Type} {P : Program} {f : Field} {fs : List Field} {d : Kd α} {d' : Kd β} {ok : α → Prop} {ok' : β → Prop} {o : Nat} (hd : Opens P f.type d ok) (ho : f.offset = o) (hr : OpensF P fs (o + d.sz) d' ok') :
    OpensF P (f :: fs) o (Kd.pair d d') (fun x => ok x.1 ∧ ok' x.2) := ⟨fun {H enc w base spare held n cs xs} hl h => by
  have h0 := h 0 f rfl
  cases xs with
  | nil => simp at hl
  | cons y ys =>
    obtain ⟨z, hK, hz⟩ := hd.out (h0.trans (by simp : (y :: ys)[0]? = some y))
    rw [hd.cells, ho] at hK
    obtain ⟨z', hK', hz'⟩   := hr.out (xs := ys) (by simpa using hl) (fun i g hg => by simpa using h (i + 1) g (by simpa using hg))
    refine ⟨(z, z'), ⟨_, _, ?_, hK, hK'⟩, hz, hz'⟩
    show ((cs.drop o).take (d.sz + d'.sz)) = _
    rw [List.take_add, List.drop_drop]⟩
theorem opens_struct {α : Type} {P : Program} {t : TypeId} {fs : Array Field} {d : Kd α} {ok : α → Prop} (ht : P.underlying t = some (.struct fs)) (hc : P.cellsOf t = d.sz) (hf : OpensF P fs.toList 0 d ok) : Opens P t d ok :=
  ⟨hc, fun {H enc w base spare held fuel cs x} h => by
    obtain ⟨xs, n, _, _, hl, hxl, hx⟩ := DataW.trod_struct ht h
    obtain ⟨y, hK, hy⟩ := hf.out (xs := xs) (by simpa using hxl) (fun i f hg => hx i f (by simpa using hg))
    rw [List.drop_zero, ← hc, ← hl, List.take_length] at hK
    exact ⟨y, hK, hy⟩⟩
theorem opens_iso {α β : Type} {P : Program} {t : TypeId} {d : Kd α} {ok : α → Prop} (f : β → α) (g : α → β) (hfg : ∀ x, f (g x) = x) (h : Opens P t d ok) : Opens P t (Kd.iso d f) (fun x => ok (f x)) :=
  ⟨h.cells, fun {H enc w base spare held fuel cs x} hx => by
    obtain ⟨y, hK, hy⟩ := h.out hx
    exact ⟨g y, by show d.K _ (f (g y)) _; rw [hfg]; exact hK, by show ok (f (g y)); rw [hfg]; exact hy⟩⟩
theorem opens_ok {α : Type} {P : Program} {t : TypeId} {d : Kd α} {ok ok' : α → Prop} (h : Opens P t d ok) (hi : ∀ x, ok x → ok' x) : Opens P t d ok' :=
  ⟨h.cells, fun hx => by
    obtain ⟨y, hK, hy⟩ := h.out hx
    exact ⟨y, hK, hi y hy⟩⟩
/-- A struct among the arguments. -/
theorem open_struct_arg {α : Type} {P : Program} {t : TypeId} {d : Kd α} {ok : α → Prop} (hd : Opens P t d ok) {H : Type} {enc : TypeId × Value → H} {w : World} {base : Nat} {spare : Nat → Bool} {held : Bool} {v : Value} {D : DataW H} {ps : List MemPlace}
    (hv : ∃ cs, v = .agg cs ∧ cs.size = P.cellsOf t) (h : DataW.Trod enc P w base spare held t v D ps) : ∃ cs x, v = .agg cs ∧ d.K w x cs.toList ∧ ok x := by
  obtain ⟨cs, rfl, _⟩ := hv
  obtain ⟨fuel, hf⟩ := h
  obtain ⟨y, hK, hy⟩ := hd.out hf
  exact ⟨cs, y, rfl, by simpa [Value.cells] using hK, hy⟩
end Go.Proofs.Ytloldgiggnhemaa.Opens
