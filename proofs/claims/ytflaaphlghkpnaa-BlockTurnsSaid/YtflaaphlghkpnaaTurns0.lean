import Derived.Test.YtflaaphlghkpnaaBlockPure
import Derived.Deep.AppendSrc
set_option linter.unusedVariables false
set_option linter.unusedSimpArgs false
/-! A row of structs copied by append onto an empty one; one cell of one of its elements written. -/
namespace Go.Proofs.Ytflaaphlghkpnaa.Turns0
open Go.RowKit Go.Proofs.YtflaaphlghkpnaaW.PrintWords Go.Proofs.YtflaaphlghkpnaaW.PrintLast Go.Proofs.YtflaaphlghkpnaaW.PrintMore Go.Proofs.Ytflaaphlghkpnaa.PBlockOne

theorem own_empty (W : World) (base : Nat) (e size : Nat) (hb : base ≤ W.heap.size) : (W.alloc (.cells #[] e)).ownsRow base e size (.slice (some ⟨W.heap.size, 0, none⟩) 0 0) 0 [] :=
  ⟨by simp, .inr ⟨W.heap.size, 0, #[], rfl, hb, blk_new W _, Nat.le_refl _, Nat.zero_le _, by simp, by simp⟩⟩

theorem reps_set {R : S27 → List Value → Prop} {l : List S27} {cs : List Value} (h : Reps R 4 l cs) (k : Nat) (x x' : S27) (hk : l[k]? = some x) (u : Value)
    (hR : ∀ c, R x c → R x' (c.set 0 u)) : Reps R 4 (l.set k x') (cs.set (k * 4) u) := by
  have hkl : k < l.length := by
    rcases Nat.lt_or_ge k l.length with h' | h'
    · exact h'
    · rw [List.getElem?_eq_none h'] at hk; cases hk
  refine ⟨by simp [h.1], fun j p hj => ?_⟩
  have e : ((cs.set (k * 4) u).drop (j * 4)).take 4 = if j = k then ((cs.drop (j * 4)).take 4).set 0 u else (cs.drop (j * 4)).take 4 := by
    apply List.ext_getElem?
    intro i
    split
    · rename_i hjk
      subst hjk
      by_cases hi : i < 4
      · by_cases hi0 : i = 0
        · subst hi0
          have hl := h.1
          rw [List.getElem?_take_of_lt (by omega), List.getElem?_drop, Nat.add_zero, List.getElem?_set_self (by omega), List.getElem?_set_self (by simp; omega)]
        · rw [List.getElem?_take_of_lt hi, List.getElem?_drop, List.getElem?_set_ne (by omega), List.getElem?_set_ne (by omega), List.getElem?_take_of_lt hi, List.getElem?_drop]
      · rw [List.getElem?_take_eq_none (by omega), List.getElem?_set_ne (by omega), List.getElem?_take_eq_none (by omega)]
    · rename_i hjk
      by_cases hi : i < 4
      · rw [List.getElem?_take_of_lt hi, List.getElem?_drop, List.getElem?_set_ne (by omega), List.getElem?_take_of_lt hi, List.getElem?_drop]
      · rw [List.getElem?_take_eq_none (by omega), List.getElem?_take_eq_none (by omega)]
  rw [e]
  by_cases hjk : j = k
  · subst hjk
    rw [if_pos rfl]
    rw [List.getElem?_set_self hkl] at hj
    obtain rfl : x' = p := by simpa using hj
    exact hR _ (h.2 j x hk)
  · rw [if_neg hjk]
    rw [List.getElem?_set_ne (by omega)] at hj
    exact h.2 j p hj

/-- A cell of a row of the call's own is written. -/
theorem own_set {W : World} {base e size n g cap : Nat} {xs : List Value} (h : W.ownsRow base e size (.slice (some ⟨g, 0, none⟩) n cap) n xs) (i : Nat) (u : Value) :
    (W.setCell ⟨g, i, none⟩ u).ownsRow base e size (.slice (some ⟨g, 0, none⟩) n cap) n (xs.set i u) := by
  obtain ⟨h1, h2⟩ := h
  refine ⟨by simpa using h1, ?_⟩
  rcases h2 with ⟨h2, _⟩ | ⟨g', cap', cur, he, hb, hh, h3, h4, h5, h6⟩
  · cases h2
  · injection he with he1 he2 he3
    injection he1 with he1
    injection he1 with he1
    subst he1
    refine .inr ⟨g, cap, cur.setIfInBounds i u, rfl, hb, blk_set hh i u, by omega, by omega, by simp [h5, he3], ?_⟩
    rw [Array.toList_setIfInBounds, ← h6, List.take_set]
theorem own_at {W : World} {base e size n g cap : Nat} {xs : List Value} (h : W.ownsRow base e size (.slice (some ⟨g, 0, none⟩) n cap) n xs) : ∃ cur, W.heap[g]? = some (.cells cur e (0, 0)) ∧ n ≤ cap := by
  rcases h.2 with ⟨h2, _⟩ | ⟨g', cap', cur, he, hb, hh, h3, _⟩
  · cases h2
  · injection he with he1 he2 he3
    injection he1 with he1
    injection he1 with he1
    subst he1
    exact ⟨cur, hh, by omega⟩
def turned (x : S27) : S27 := { x with f0 := true }
/-- The copied row, one of its elements gone bad, is read. -/
theorem reads_set {W w2 : World} {base g cap k : Nat} {l : List S27} {news : List Value} {x : S27} (hnr : Reps (k27.K W) 4 l news) (hb : Below W.heap.size W w2)
    (hown : w2.ownsRow base 27 4 (.slice (some ⟨g, 0, none⟩) l.length cap) l.length news) (hk : l[k]? = some x) (hb2 : Below W.heap.size W (w2.setCell ⟨g, k * 4, none⟩ (.bool true))) :
    Kd.C k27 (w2.setCell ⟨g, k * 4, none⟩ (.bool true)) (some ⟨g, 0, none⟩) l.length (l.set k (turned x)) := by
  have h1 := own_set hown (k * 4) (.bool true)
  have h2 := reps_set (hnr.imp_ (fun _ _ h => k27.K_below hb2 h)) k x (turned x) hk (.bool true) (fun c hc => by
    obtain ⟨A3, c3, rfl, hl3, hC3⟩ := k27_open hc
    exact k27_mk _ (turned x) hl3 hC3)
  obtain ⟨A, c, he, hR⟩ := own_reads_row h1 h2 (by simp)
  injection he with he1 he2 he3
  rw [← he1] at hR
  exact hR
end Go.Proofs.Ytflaaphlghkpnaa.Turns0
