/-  A tally's keys (of one kind): rising, those that have a count.  -/
import Derived.Test.YthnicdafglohbaaLs
import Derived.Test.YthnicdafglohbaaSd
set_option linter.unusedVariables false
set_option linter.unusedSimpArgs false
namespace Go.Proofs.Ythnicdafglohbaa.Ls
open Go.RowKit Go.Maps Go.Sort Go.Lib Go.WideMaps Go.Proofs.YthnicdafglohbaaW.PrintWords Go.Proofs.YthnicdafglohbaaW.PrintLast Go.Proofs.YthnicdafglohbaaW.PrintMore
attribute [local go_sem] max2_int min2_int max_two min_two max_three min_three max_four min_four

abbrev Ky := {k : (List UInt8) // k.length ≤ maxLen}
instance : Inhabited Ky := ⟨⟨[], by decide⟩⟩
def encK (k : Ky) : Value := encStr k.1
theorem encK_one : OneCell encK := fun _ => rfl
/-- The closure of Keys, in whatever world holds the tally. -/
theorem gives {W : World} {tb b bx n : Nat} {c : (List UInt8) → Int} (h : Tl W tb b c n) (hx : W.cell? ⟨bx, 0, none⟩ = some (.pointer (some ⟨tb, 0, none⟩))) (k : Ky) :
    FnGives Try.prog 28 #[.pointer (some ⟨bx, 0, none⟩)] #[encK k] (.bool (c k.1 == 0)) W := by
  obtain ⟨k, wf⟩ := k
  obtain ⟨D, hown, hat⟩ := h.map
  have hc := hat k wf
  have hkey : keyOf Try.prog 9 (encStr k) = some (.string k) := hkeyS wf
  have c0 : W.cell? ⟨tb, 0, none⟩ = some (.map (some b)) := (blk_cell h.box 0).trans rfl
  clear hat
  show Calls Try.prog 28 #[(encStr k), .pointer (some ⟨bx, 0, none⟩)] W _
  go_enter Try.func28, Try.ntmps28
  go_wp2_with (first
    | (at_lookup; refine wpList_lookup_own_int _ rfl _ _ 54 rfl 9 3 .i64 law Try.underlying54 Try.underlying3 (zero3 _) b n D rfl hown _ _ rfl hkey ?_; intro c2 hat hwc; have hcc : zd = .lit (.int .i64 0) := rfl; rw [← hcc, hc] at hat; cases hat; clear hcc hwc)
    | fail)
  go_ret
  exact ⟨rfl, 0, rfl⟩
theorem heap_putRow {α : Type} [Inhabited α] (enc : α → Value) (w : World) (blk off q : Nat) (d : Array α) (os : Array Obj) {j : Nat} (hj : j < w.heap.size) (hne : j ≠ blk) : (grow (putRow enc (Sort.ahead w q) blk off d) os).heap[j]? = w.heap[j]? := by
  unfold grow putRow mapBlock Sort.ahead
  show ((w.heap.modify blk _) ++ os)[j]? = w.heap[j]?
  rw [Array.getElem?_append_left (by simpa using hj), Array.getElem?_modify]
  simp [Ne.symm hne]
/-- What DeleteFunc leaves: the row's beginning. -/
theorem del {w : World} {tb b bx blk cap n : Nat} {c : (List UInt8) → Int} {cur : Array Value} (h : Tl w tb b c n) (hx : w.heap[bx]? = some (.cells #[.pointer (some ⟨tb, 0, none⟩)] 37 (0, 0))) (ts : List Ky) (hb : w.heap[blk]? = some (.cells cur 9 (0, 0))) (hcur : cur.toList.take ts.length = ts.map encK)
    (hl : ts.length ≤ cap) (hts : ts.length ≤ 1000000) (h1 : tb ≠ blk) (h2 : b ≠ blk) (h3 : bx ≠ blk) :
    Calls Try.prog 25 #[.slice (some ⟨blk, 0, none⟩) ts.length cap, .func (.func 28) #[] #[.pointer (some ⟨bx, 0, none⟩)]] w fun e w' => e = .returned (.slice (some ⟨blk, 0, none⟩) (ts.filter fun k => !(c k.1 == 0)).length cap) ∧
      (∀ j (hj : j < (ts.filter fun k => !(c k.1 == 0)).length), w'.cell? ⟨blk, j, none⟩ = some (encK ((ts.filter fun k => !(c k.1 == 0))[j]))) ∧ w'.os = w.os ∧ w'.tape = w.tape ∧ w'.output = w.output ∧ w'.heap.size = w.heap.size ∧ ∀ j, j < w.heap.size → j ≠ blk → w'.heap[j]? = w.heap[j]? := by
  have hxl : bx < w.heap.size := (Array.getElem?_eq_some_iff.1 hx).1
  have hH : Holds encK w blk 0 ts.toArray := fun j hj => by
    have hj' : j < ts.length := by simpa using hj
    refine ⟨?_, by rw [Nat.zero_add]; exact blk_frozen hb j⟩
    rw [Nat.zero_add, blk_cell hb j]
    have e1 : cur.toList[j]? = some (encK ts[j]) := by
      have e2 : (cur.toList.take ts.length)[j]? = (ts.map encK)[j]? := by rw [hcur]
      rw [List.getElem?_take, if_pos hj', List.getElem?_map, List.getElem?_eq_getElem hj'] at e2
      exact e2
    rw [getElem!_pos ts.toArray j (by simpa using hj)]
    simpa using e1
  have hcon := AnyE.slices_DeleteFunc Sk.del25 encK encK_one (fun k => c k.1 == 0) 28 #[.pointer (some ⟨bx, 0, none⟩)] (enters_of Try.func28 (by kernel_rfl) rfl) (⟨[], by decide⟩ : Ky) (fun w => by kernel_rfl) blk 0 cap ts.toArray w
    (fun W k hbl => gives (h.below hbl) ((blk_cell ((hbl.block bx hxl).trans hx) 0).trans rfl) k)
    (fun m os dk k _ => gives (h.keep (heap_putRow encK w blk 0 m dk os h.lt.1 h1) (heap_putRow encK w blk 0 m dk os h.lt.2 h2)) ((blk_cell ((heap_putRow encK w blk 0 m dk os hxl h3).trans hx) 0).trans rfl) k)
    hH (by simp; omega) (by simpa using hl)
  change Calls Try.prog 25 _ _ _ at hcon
  simp only [List.size_toArray] at hcon
  refine hcon.mono ?_
  rintro e w' ⟨rfl, q, rfl⟩
  obtain ⟨r, hr⟩ : ∃ r, (ts.filter fun k => !(c k.1 == 0)) = r := ⟨_, rfl⟩
  rw [hr]
  have hrl : r.length ≤ ts.length := by rw [← hr]; exact List.length_filter_le _ _
  refine ⟨rfl, fun j hj => ?_, rfl, rfl, rfl, by simp, fun j hj hne => ?_⟩
  · have h5 := cell?_putRow encK (Sort.ahead w q) blk 0 ts.toArray (r ++ List.replicate (ts.length - r.length) (⟨[], by decide⟩ : Ky)).toArray hH (by simp; omega) j (by simp; omega)
    rw [Nat.zero_add] at h5
    rw [h5, getElem!_pos _ j (by simp; omega)]
    simp [List.getElem_append_left hj]
  · have h6 := heap_putRow encK w blk 0 q (r ++ List.replicate (ts.length - r.length) (⟨[], by decide⟩ : Ky)).toArray #[] hj hne
    simpa [grow] using h6
end Go.Proofs.Ythnicdafglohbaa.Ls
