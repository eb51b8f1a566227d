/-
  A region that draws its order and only reads, inside a round of a loop over an iterator: one walk of the lexical order serves (the library's law asks that no round is under way; what it needs is only that no operation defers).
-/
import Derived.Sort.QuietThIn
import Derived.Sort.QuietIn
set_option linter.unusedVariables false
namespace Go.Proofs.Ytflaaphlghkpnaa.QuietRound
open Go
variable {F : Fence} {n : Nat} {P : Program} {ops : Array Oper} {md : Region.Mode} {C : World → Prop}

/-- One quiet operation that defers nothing. -/
theorem op_quiet {o : Oper} {a : Act} {K : Act → Prop} {K' : Act → World → Prop} {Q' : Exit → Act → World → Prop} {w : World} (hnd : ∀ c, o.op ≠ .defer c) (hw : C w) (h : ∀ a w', C w' → K a → K' a w')
    (ha : o.askedIn F P a C) (hh : o.quietIn F n P a C K) : o.wpIn F n P a w K' Q' := by
  obtain ⟨v, h1, h2⟩ := hh
  have h3 := h1 w hw
  unfold Oper.quietAtIn at h3
  unfold Oper.wpIn
  refine ⟨ha w hw, ?_⟩
  rw [Oper.semAt_eq _ _ _ hnd]
  cases hr : (execOp a.eval o).run P w with
  | halt x w' => rw [hr] at h3; exact h3.elim
  | ok x w' =>
    rw [hr] at h3
    cases x with
    | value u => obtain ⟨e1, e2⟩ := h3; show K' _ _; rw [e1, e2]; exact h _ _ hw h2
    | skip => obtain ⟨e1, e2⟩ := h3; show K' _ _; rw [e1, ← e2]; exact h _ _ hw h2
    | enter f args =>
      obtain ⟨e1, hd, hc⟩ := h3
      rw [e1]
      exact ⟨hd, hc.mono fun e w'' ⟨he, hw''⟩ => by subst he; exact h _ _ hw'' h2⟩
    | _ => exact h3.elim

theorem any_quiet {Q : Act → Prop} {Q' : Exit → Act → World → Prop} (hnd : ∀ (i : Nat) (o : Oper), ops[i]? = some o → ∀ c, o.op ≠ .defer c) (hQ : ∀ a w, C w → Q a → Q' .normal a w) : ∀ (fuel : Nat) (listed : Array Bool) (a : Act) (w : World), C w →
    wpAnyQIn F n P md ops C Q fuel listed a → wpAnyIn F n P md ops Q' fuel listed a w
  | 0, _, _, _, hw, h => ⟨h.1, hQ _ _ hw h.2⟩
  | fuel + 1, listed, a, w, hw, h => ⟨fun h0 => hQ _ _ hw (h.1 h0), fun i hi => by
      have hq := h.2 i hi
      unfold qOpIn at hq
      unfold wpOpIn
      cases ho : ops[i]? with
      | none => rw [ho] at hq; exact any_quiet hnd hQ fuel _ _ _ hw hq
      | some o =>
        rw [ho] at hq
        obtain ⟨ha, hq⟩ := hq
        by_cases hwt : Region.wanted o (yielded ops a.tmps) = true
        · simp only [hwt, if_true] at hq ⊢
          exact op_quiet (hnd i o ho) hw (fun a' w' hw' => any_quiet hnd hQ fuel _ a' w' hw') ha hq
        · simp only [hwt] at hq ⊢
          exact ⟨ha _ hw, any_quiet hnd hQ fuel _ _ _ hw hq⟩⟩

theorem region_quiet {id : Nat} {Q : Exit → Act → World → Prop} {a : Act} {w : World} {l : List Oper} (hm : P.follows .mixedOrders = true) (hB : Region.lexB .any l.toArray = true) (hnd : (l.all fun o => match o.op with | .defer _ => false | _ => true) = true)
    (h : wpQuietIn F n P l.toArray (fun w' => ∃ n, w' = w.drewN n) (fun a' => ∀ w', (∃ n, w' = w.drewN n) → Q .normal a' w') l a) : (Code.region id l.toArray true).wpIn F n P Q a w := by
  have hB' := hB
  simp only [Region.lexB, Bool.and_eq_true] at hB
  have hnd' : ∀ (i : Nat) (o : Oper), l.toArray[i]? = some o → ∀ c, o.op ≠ .defer c := fun i o ho c e => by
    have hmem : o ∈ l := by
      rw [List.getElem?_toArray] at ho
      exact List.mem_of_getElem? ho
    have := List.all_eq_true.1 hnd o hmem
    rw [e] at this
    cases this
  refine wpIn_region_any hm (any_quiet (Q := fun a' => ∀ w', (∃ n, w' = w.drewN n) → Q .normal a' w') hnd' (fun _ w' hw' h => h w' hw') _ _ _ _ ⟨1, rfl⟩ ?_)
  have := wpAnyQIn_lex (F := F) (n := n) (C := fun w' => ∃ n, w' = w.drewN n) (md := .any) hB.1 l 0 (Array.replicate l.toArray.size false) a (by simp) (by simpa using hB.2) h
  simpa using this
end Go.Proofs.Ytflaaphlghkpnaa.QuietRound
