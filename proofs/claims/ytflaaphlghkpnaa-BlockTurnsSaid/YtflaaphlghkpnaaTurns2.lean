import Derived.Test.YtflaaphlghkpnaaTurns1
set_option linter.unusedVariables false
set_option linter.unusedSimpArgs false
/-! BlockTurns: what the call needs in plain words; the call: true, whatever comes in. -/
namespace Go.Proofs.Ytflaaphlghkpnaa.Turns2
open Go.RowKit Go.Proofs.YtflaaphlghkpnaaW.PrintWords Go.Proofs.YtflaaphlghkpnaaW.PrintLast Go.Proofs.YtflaaphlghkpnaaW.PrintMore Go.Proofs.Ytflaaphlghkpnaa.PBlockOne Go.Proofs.Ytflaaphlghkpnaa.BlockPure Go.Proofs.Ytflaaphlghkpnaa.Turns0 Go.Proofs.Ytflaaphlghkpnaa.Turns1

theorem turned_not (x : S27) : isClean (turned x) = false := rfl
theorem cl_from : ∀ (l : List S27) (i : Int), ∀ v ∈ cl i l, i ≤ v
  | [], _, v, h => by simp [cl] at h
  | x :: l, i, v, h => by
    unfold cl at h
    split at h
    · rcases List.mem_cons.1 h with rfl | h
      · exact Int.le_refl _
      · have := cl_from l (i + 1) v h; omega
    · have := cl_from l (i + 1) v h; omega
theorem cl_filter_id (l : List S27) (i k : Int) (h : k < i) : (cl i l).filter (fun v => v != k) = cl i l := by
  rw [List.filter_eq_self]
  intro v hv
  have := cl_from l i v hv
  simp
  omega
theorem cl_set : ∀ (l : List S27) (i : Int) (k : Nat) (x : S27), l[k]? = some x → cl i (l.set k (turned x)) = (cl i l).filter fun v => v != i + (k : Int)
  | [], i, k, x, h => by simp at h
  | y :: l, i, 0, x, h => by
    obtain rfl : y = x := by simpa using h
    have e : (y :: l).set 0 (turned y) = turned y :: l := rfl
    rw [e]
    unfold cl
    rw [turned_not]
    simp only [Bool.false_eq_true, if_false]
    split
    · rw [List.filter_cons_of_neg (by simp), show i + ((0 : Nat) : Int) = i by simp, cl_filter_id l (i + 1) i (by omega)]
    · rw [show i + ((0 : Nat) : Int) = i by simp, cl_filter_id l (i + 1) i (by omega)]
  | y :: l, i, k + 1, x, h => by
    have e : (y :: l).set (k + 1) (turned x) = y :: l.set k (turned x) := rfl
    have h' : l[k]? = some x := by simpa using h
    have ih := cl_set l (i + 1) k x h'
    have ek : i + 1 + (k : Int) = i + ((k + 1 : Nat) : Int) := by omega
    rw [ek] at ih
    rw [e]
    unfold cl
    split
    · rw [List.filter_cons_of_pos (by simp; omega), ih]
    · exact ih
theorem bad_set : ∀ (l : List S27) (k : Nat) (x : S27), l[k]? = some x → (l.set k (turned x)).countP (·.f0) + (if x.f0 = true then 1 else 0) = l.countP (·.f0) + 1
  | [], k, x, h => by simp at h
  | y :: l, 0, x, h => by
    obtain rfl : y = x := by simpa using h
    cases hy : y.f0 <;> simp [turned, hy, List.countP_cons]
  | y :: l, k + 1, x, h => by
    have h' : l[k]? = some x := by simpa using h
    have ih := bad_set l k x h'
    cases hy : y.f0 <;> simp [hy, List.countP_cons] <;> omega

theorem final {ok : S27 → Prop} (W : World) (A0 : Option Addr) (c0 : Nat) (l : List S27) (hc0 : l.length ≤ c0) (hr0 : Kd.C k27 W A0 l.length l) (hm0 : l.length ≤ maxLen) (hok0 : ∀ x ∈ l, ok x) (a1 : Int) (w1 : (Lit.int .i64 a1).wf = true) :
    Calls Try.prog 3 #[.slice A0 l.length c0, .int .i64 a1] W fun e w' => e = .returned (.bool true) ∧ Below W.heap.size W w' := by
  by_cases h : l.length < 1 ∨ 60 < l.length
  · exact short W A0 c0 l a1 h (by unfold maxLen at hm0; omega)
  · have h0 : 0 ≤ IntKind.u64.wrap a1 := wrap_u64_nonneg a1
    have t0 : 0 ≤ Int.tmod (IntKind.u64.wrap a1) (l.length : Int) := Int.tmod_nonneg _ h0
    have t1 : Int.tmod (IntKind.u64.wrap a1) (l.length : Int) < (l.length : Int) := Int.tmod_lt_of_pos _ (by omega)
    obtain ⟨k, hk⟩ := Int.eq_ofNat_of_zero_le t0
    have hkl : k < l.length := by omega
    have hx : l[k]? = some l[k] := List.getElem?_eq_getElem hkl
    have hcount := bad_set l k _ hx
    have hb1 : l.countP (·.f0) ≤ l.length := List.countP_le_length
    have hb2 : (l.set k (turned l[k])).countP (·.f0) ≤ l.length := by have := List.countP_le_length (p := fun x : S27 => x.f0) (l := l.set k (turned l[k])); simpa using this
    obtain ⟨k1, e1⟩ := awake_ev
    obtain ⟨k2, e2⟩ := cleans_all l (by omega)
    obtain ⟨k3, e3⟩ := cleans_all (l.set k (turned l[k])) (by simp; omega)
    obtain ⟨k4, e4⟩ := bad_all l (by omega)
    obtain ⟨k5, e5⟩ := bad_all (l.set k (turned l[k])) (by simp; omega)
    obtain ⟨k6, e6⟩ := left_bad (turned l[k]) 9 rfl true rfl
    refine long W A0 c0 l a1 (by omega) (by omega) hr0 hc0 k (by rw [hk]; exact w64 (by omega) (by omega)) hkl l[k] hx (k1 + k2 + k3 + k4 + k5 + k6) (e1 _ (by omega)) (e2 _ (by omega)) (e3 _ (by omega)) _ _ (e4 _ (by omega)) (e5 _ (by omega)) ?_ (e6 _ (by omega)) ?_
    · rw [w64 (by omega) (by omega)]
      split at hcount <;> rename_i hf <;> simp [hf] <;> omega
    · have := cl_set l 0 k _ hx
      simpa using this
end Go.Proofs.Ytflaaphlghkpnaa.Turns2
