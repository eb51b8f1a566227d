import Derived.Test.YtflaaphlghkpnaaBlockOneWalk
import Derived.Test.YtflaaphlghkpnaaBlockPure
set_option linter.unusedVariables false
/-! BlockOne's own loop in plain words, and the call: true, whatever comes in. -/
namespace Go.Proofs.Ytflaaphlghkpnaa.BlockOneFin
open Go.RowKit Go.Proofs.YtflaaphlghkpnaaW.PrintWords Go.Proofs.YtflaaphlghkpnaaW.PrintLast Go.Proofs.YtflaaphlghkpnaaW.PrintMore Go.Proofs.Ytflaaphlghkpnaa.PBlockOne Go.Proofs.Ytflaaphlghkpnaa.BlockPure

def isElse (x : S27) : Bool := !x.f0 && !isClean x
theorem three (l : List S27) : l.countP (·.f0) + l.countP isClean + l.countP isElse = l.length := by
  induction l with
  | nil => rfl
  | cons x l ih =>
    have : isClean x = true → x.f0 = false := fun h => by unfold isClean at h; cases hx : x.f0 <;> simp [hx] at h ⊢
    cases h0 : x.f0 <;> cases h1 : isClean x <;> simp_all [isElse] <;> omega

theorem loop_ev (xs : List S27) (hl : xs.length ≤ 1000) (p : Int) (hp0 : 1 ≤ p) (hp1 : p ≤ 1000) : ∀ (rest pre : List S27), xs = pre ++ rest →
    Ev (fun k => potsherdlaw8_BlockOne.l0 k xs p ((pre.countP (·.f0) : Nat) : Int) ((pre.countP isClean : Nat) : Int) ((pre.countP isElse : Nat) : Int) xs (xs.length : Int) (pre.length : Int)) true
  | [], pre, h => by
    have hpre : pre = xs := by simp [h]
    subst hpre
    have h3 := three pre
    refine Ev.step (f := fun k => (block_Bad.f k pre).bind fun t144 => (if ((pre.countP (·.f0) : Nat) : Int) = t144 then ((block_Cleans.f k pre).bind fun t145 => (if ((pre.countP isClean : Nat) : Int) = (t145.length : Int) then (if (wrap64 ((wrap64 (((pre.countP (·.f0) : Nat) : Int) + ((pre.countP isClean : Nat) : Int))) + ((pre.countP isElse : Nat) : Int))) = (pre.length : Int) then ((block_Good.f k pre).bind fun t148 => (if (t148.length : Int) = (pre.length : Int) then ((potsherdlaw8_awake.f k).bind fun t151 => (some t151)) else (some false))) else (some false)) else (some false))) else (some false))) (fun k => ?_) ?_
    · simp only [potsherdlaw8_BlockOne.l0]
      rw [if_neg (by omega)]
    refine Ev.bind (bad_all pre hl) ?_
    simp only [if_true]
    refine Ev.bind (cleans_all pre hl) ?_
    rw [cl_length]
    simp only [if_true]
    rw [w64 (n := ((pre.countP (·.f0) : Nat) : Int) + ((pre.countP isClean : Nat) : Int)) (by omega) (by omega), w64 (by omega) (by omega)]
    rw [show ((pre.countP (·.f0) : Nat) : Int) + ((pre.countP isClean : Nat) : Int) + ((pre.countP isElse : Nat) : Int) = (pre.length : Int) by omega]
    simp only [if_true]
    refine Ev.bind (good_all pre hl) ?_
    rw [List.length_map]
    simp only [if_true]
    exact Ev.bind awake_ev (Ev.now _)
  | x :: rest, pre, h => by
    have hlt : (pre.length : Int) < (xs.length : Int) := by rw [h]; exact mid_lt pre rest x
    have hx : rd_T27 xs (pre.length : Int) = x := by rw [h]; exact mid pre rest x
    have hw : wrap64 ((pre.length : Int) + 1) = ((pre ++ [x]).length : Int) := by rw [w64 (by omega) (by omega)]; simp
    have h3 := three pre
    have hpl : pre.length ≤ 1000 := by omega
    have ih := loop_ev xs hl p hp0 hp1 rest (pre ++ [x]) (by simp [h])
    cases h0 : x.f0 with
    | true =>
      have hc : isClean x = false := by unfold isClean; simp [h0]
      have he : isElse x = false := by unfold isElse; simp [h0]
      have e1 : (((pre ++ [x]).countP (·.f0) : Nat) : Int) = wrap64 (((pre.countP (·.f0) : Nat) : Int) + 1) := by rw [w64 (by omega) (by omega)]; simp [h0]
      have e2 : (((pre ++ [x]).countP isClean : Nat) : Int) = ((pre.countP isClean : Nat) : Int) := by simp [hc]
      have e3 : (((pre ++ [x]).countP isElse : Nat) : Int) = ((pre.countP isElse : Nat) : Int) := by simp [he]
      rw [e1, e2, e3, ← hw] at ih
      refine Ev.step (f := fun k => (block_Left.f k true x.f1 x.f2 x.f3 p).bind fun t141 => if t141 = 0 then _ else some false) (fun k => ?_) (Ev.bind (left_bad x p h0 true h0.symm) (by simp only [if_true]; exact ih))
      simp only [potsherdlaw8_BlockOne.l0]
      rw [if_pos hlt, if_pos (by omega), if_pos hlt, hx, h0]
      have hcl : block_Clean.f true x.f1 x.f2 x.f3 = some false := by rw [← h0, clean_eq, hc]
      simp only [if_true, hcl, Option.bind_some, Bool.false_eq_true, if_false]
    | false =>
      cases hc : isClean x with
      | true =>
        have he : isElse x = false := by unfold isElse; simp [hc]
        have e1 : (((pre ++ [x]).countP (·.f0) : Nat) : Int) = ((pre.countP (·.f0) : Nat) : Int) := by simp [h0]
        have e2 : (((pre ++ [x]).countP isClean : Nat) : Int) = wrap64 (((pre.countP isClean : Nat) : Int) + 1) := by rw [w64 (by omega) (by omega)]; simp [hc]
        have e3 : (((pre ++ [x]).countP isElse : Nat) : Int) = ((pre.countP isElse : Nat) : Int) := by simp [he]
        rw [e1, e2, e3, ← hw] at ih
        have hL := left_clean x p hc hp0 hp1
        rw [h0] at hL
        refine Ev.step (f := fun k => (block_Left.f k false x.f1 x.f2 x.f3 p).bind fun t141 => if t141 = p then _ else some false) (fun k => ?_) (Ev.bind hL (by simp only [if_true]; exact ih))
        simp only [potsherdlaw8_BlockOne.l0]
        rw [if_pos hlt, if_pos (by omega), if_pos hlt, hx, h0]
        have hcl : block_Clean.f false x.f1 x.f2 x.f3 = some true := by rw [← h0, clean_eq, hc]
        simp only [hcl, Option.bind_some, Bool.false_eq_true, if_false, if_true]
      | false =>
        have he : isElse x = true := by unfold isElse; simp [hc, h0]
        have e1 : (((pre ++ [x]).countP (·.f0) : Nat) : Int) = ((pre.countP (·.f0) : Nat) : Int) := by simp [h0]
        have e2 : (((pre ++ [x]).countP isClean : Nat) : Int) = ((pre.countP isClean : Nat) : Int) := by simp [hc]
        have e3 : (((pre ++ [x]).countP isElse : Nat) : Int) = wrap64 (((pre.countP isElse : Nat) : Int) + 1) := by rw [w64 (by omega) (by omega)]; simp [he]
        rw [e1, e2, e3, ← hw] at ih
        obtain ⟨r, hL⟩ := left_any x p
        rw [h0] at hL
        refine Ev.step (f := fun k => (block_Left.f k false x.f1 x.f2 x.f3 p).bind fun t141 => _) (fun k => ?_) (Ev.bind hL ih)
        simp only [potsherdlaw8_BlockOne.l0]
        rw [if_pos hlt, if_pos (by omega), if_pos hlt, hx, h0]
        have hcl : block_Clean.f false x.f1 x.f2 x.f3 = some false := by have hz := clean_eq x; rw [h0, hc] at hz; exact hz
        simp only [hcl, Option.bind_some, Bool.false_eq_true, if_false]

theorem pages_in (a : Int) (b : Int) (hb : 0 < b) (hb1 : b ≤ 1000) : 1 ≤ wrap64 (1 + (wrap64 (Int.tmod (IntKind.u64.wrap a) b))) ∧ wrap64 (1 + (wrap64 (Int.tmod (IntKind.u64.wrap a) b))) ≤ 1000 := by
  have h0 : 0 ≤ IntKind.u64.wrap a := by simp [IntKind.wrap, IntKind.bits, IntKind.signed]; omega
  have h1 : 0 ≤ Int.tmod (IntKind.u64.wrap a) b := Int.tmod_nonneg _ h0
  have h2 : Int.tmod (IntKind.u64.wrap a) b < b := Int.tmod_lt_of_pos _ hb
  rw [w64 (n := Int.tmod (IntKind.u64.wrap a) b) (by omega) (by omega), w64 (by omega) (by omega)]
  omega

theorem pure (l : List S27) (a : Int) : ∃ k, potsherdlaw8_BlockOne.f k l a = some true := by
  by_cases h : (l.length : Int) > 100
  · exact (Ev.congr (f := fun k => (potsherdlaw8_awake.f k).bind fun t => some t) (fun k => by unfold potsherdlaw8_BlockOne.f; rw [if_pos h]) (Ev.bind awake_ev (Ev.now _))).rounds
  · obtain ⟨h1, h2⟩ := pages_in a 32 (by omega) (by omega)
    refine (Ev.congr (fun k => ?_) (loop_ev l (by omega) _ h1 h2 l [] rfl)).rounds
    unfold potsherdlaw8_BlockOne.f
    rw [if_neg h]
    rfl

theorem final {ok : S27 → Prop} (W : World) (A0 : Option Addr) (c0 : Nat) (l0 : List S27) (hc0 : l0.length ≤ c0) (hr0 : Kd.C k27 W A0 l0.length l0) (hm0 : l0.length ≤ maxLen) (hok0 : ∀ x ∈ l0, ok x) (a1 : Int) (w1 : (Lit.int .i64 a1).wf = true) :
    Calls Try.prog 4 #[.slice A0 l0.length c0, .int .i64 a1] W fun e w' => e = .returned (.bool true) ∧ Below W.heap.size W w' := by
  obtain ⟨k, h⟩ := pure l0 a1
  exact potsherdlaw8_BlockOne.calls k A0 c0 l0 a1 true W hr0 hc0 h
end Go.Proofs.Ytflaaphlghkpnaa.BlockOneFin
