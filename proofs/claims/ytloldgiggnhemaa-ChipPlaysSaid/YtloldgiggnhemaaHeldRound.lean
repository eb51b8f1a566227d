/-
  A region that draws its order, writes memory and defers nothing, inside a round of a loop over an iterator: the plain walk with loads taken first ('wpAnyH') serves.
-/
import Derived.OrdersHeld
import Derived.OrdersIn
import Derived.RangeFuncCalls
import Derived.Sort.QuietIn
set_option linter.unusedVariables false
namespace Go.Proofs.Ytloldgiggnhemaa.HeldRound
open Go
variable {n : Nat} {P : Program} {ops : Array Oper} {md : Region.Mode} {l : Nat}

theorem rowsIn_round {row : String} {args : Array Value} {w : World} {R : Value → World → Prop} (h : Rows P row args w R) : RowsIn (Fence.wide.inRound l) n P row args w R := fun c cs _ =>
  let ⟨v, w', r, s⟩ := h c cs
  ⟨v, w', r, stepsIn_wide.2 s⟩

/-- What ends in no panic. -/
def Calm (Q : Exit → Act → World → Prop) : Exit → Act → World → Prop := fun e a w => e = .normal ∧ Q .normal a w

theorem op_round {Q : Exit → Act → World → Prop} {o : Oper} {a : Act} {K : Act → World → Prop} {w : World} (hnd : ∀ c, o.op ≠ .defer c) (h : o.wp P a w K (Calm Q)) : o.wpIn (Fence.wide.inRound l) n P a w K Q := by
  refine ⟨fun _ _ => trivial, ?_⟩
  rw [Oper.semAt_eq _ _ _ hnd]
  unfold Oper.wp at h
  cases hr : (execOp a.eval o).run P w with
  | halt x w' =>
    rw [hr] at h
    cases x <;> first | exact h.elim | (obtain ⟨e, _⟩ := h; cases e)
  | ok x w' =>
    rw [hr] at h
    cases x with
    | value u => exact h
    | skip => exact h
    | defer d => exact h
    | enter f args =>
      refine ⟨fun e => (by cases e), CallsIn.inRound l (callsIn_wide.2 (Calls.mono h ?_))⟩
      intro e w'' he
      cases e with
      | returned v => exact he
      | panicked c => obtain ⟨e, _⟩ := he; cases e
      | outgrown => obtain ⟨_, _, e, _⟩ := he; cases e
    | row r args =>
      have h' : Rows P r args w' _ := h
      exact ⟨fun e => (by cases e), rowsIn_round h'⟩
    | _ => exact h.elim
/-- As 'wpAnyH', but behind the operations that 'st' names (the stores at the statement's end) nothing is asked of the world. -/
def AnyT (P : Program) (md : Region.Mode) (ops : Array Oper) (Q : Exit → Act → World → Prop) (st : Nat → Bool) (S : World → Prop) : Nat → Array Bool → Act → World → Prop
  | 0, listed, a, w => Region.ready md ops listed = [] ∧ Q .normal a w
  | k + 1, listed, a, w => (Region.ready md ops listed = [] → Q .normal a w) ∧
    ∀ i ∈ Region.ready md ops listed, wpOp P ops Q i (fun a' w' => (st i = false → S w') ∧ AnyT P md ops Q st S k (listed.setIfInBounds i true) a' w') a w

/-- What came up came up behind all that it waits for. -/
def Closed (md : Region.Mode) (ops : Array Oper) (listed : Array Bool) : Prop := ∀ (k : Nat) (o : Oper), ops[k]? = some o → listed.getD k false = true → ∀ e ∈ o.after, Region.binds md e = true → listed.getD e.on false = true
def closedB (md : Region.Mode) (ops : Array Oper) (listed : Array Bool) : Bool := (List.range ops.size).all fun k => !listed.getD k false || (match ops[k]? with | some o => o.after.all fun e => !Region.binds md e || listed.getD e.on false | none => true)
theorem closed_of {listed : Array Bool} (h : closedB md ops listed = true) : Closed md ops listed := fun k o ho hk e he hb => by
  have hlt : k < ops.size := (Array.getElem?_eq_some_iff.1 ho).1
  have h1 := List.all_eq_true.1 h k (List.mem_range.2 hlt)
  rw [ho, hk] at h1
  have h2 : (o.after.all fun e => !Region.binds md e || listed.getD e.on false) = true := by simpa using h1
  obtain ⟨m, hm, rfl⟩ := Array.getElem_of_mem he
  have h3 := Array.all_eq_true.1 h2 m hm
  rw [hb] at h3
  simpa using h3
/-- Number j waits for number i, through others perhaps. -/
def reach (md : Region.Mode) (ops : Array Oper) (i : Nat) : Nat → Nat → Bool
  | 0, _ => false
  | f + 1, j => match ops[j]? with | some o => o.after.any (fun e => Region.binds md e && (e.on == i || reach md ops i f e.on)) | none => false
theorem reach_listed {listed : Array Bool} (hc : Closed md ops listed) {i : Nat} : ∀ (f j : Nat), reach md ops i f j = true → (∀ o, ops[j]? = some o → ∀ e ∈ o.after, Region.binds md e = true → listed.getD e.on false = true) → listed.getD i false = true
  | 0, _, h, _ => by cases h
  | f + 1, j, h, hl => by
    unfold reach at h
    cases ho : ops[j]? with
    | none => rw [ho] at h; cases h
    | some o =>
      rw [ho] at h
      obtain ⟨m, hm, h1⟩ := Array.any_eq_true.1 h
      simp only [Bool.and_eq_true, Bool.or_eq_true, beq_iff_eq] at h1
      have hx := hl o ho _ (Array.getElem_mem hm) h1.1
      rcases h1.2 with h2 | h2
      · rw [← h2]; exact hx
      · exact reach_listed hc f _ h2 (fun o' ho' e he hb => hc _ o' ho' hx e he hb)

section
variable {Q : Exit → Act → World → Prop} {S : World → Prop} {st : Nat → Bool}
/-- An operation that yields its value in every world that meets S may be taken first, if it is free and the named ones wait for it. -/
theorem first_anyT {i : Nat} {oi : Oper} {v : Value} (hi : ops[i]? = some oi) (hsel : ∀ (j : Nat) (o : Oper) cs b, ops[j]? = some o → o.op ≠ .select cs b) (hQ : ∀ c a w, Q (.panic c) (a.put oi.dst v) w → Q (.panic c) a w)
    (hst : st i = false) (hwait : ∀ (j : Nat), j < ops.size → st j = true → reach md ops i ops.size j = true) : ∀ (fuel : Nat) (listed : Array Bool) (a : Act) (w : World), Closed md ops listed → ops.size ≤ listed.size →
      (∀ j oj, ops[j]? = some oj → j ≠ i → listed.getD j true = false → (∀ e ∈ oj.after, Region.binds md e = true → e.on ≠ i) → oi.apart ops oj = true) →
      i ∈ Region.ready md ops listed → YieldsIf P ops S oi v a → S w →
      AnyT P md ops Q st S fuel (listed.setIfInBounds i true) (a.put oi.dst v) w → AnyT P md ops Q st S (fuel + 1) listed a w := by
  intro fuel
  induction fuel with
  | zero =>
    intro listed a w _ _ _ hr hy hS H
    refine ⟨fun h => (by rw [h] at hr; cases hr), fun j hj => ?_⟩
    rcases Nat.decEq j i with hne | rfl
    · have hm := ready_mono hj hne
      rw [H.1] at hm
      cases hm
    · exact hy.wpOp hi hS ⟨fun _ => hS, H⟩
  | succ fuel ih =>
    intro listed a w hcl hsz hfree hr hy hS H
    refine ⟨fun h => (by rw [h] at hr; cases hr), fun j hj => ?_⟩
    rcases Nat.decEq j i with hne | rfl
    · have hstep := H.2 j (ready_mono hj hne)
      obtain ⟨hjun, oj, hoj, hall⟩ := mem_ready.1 hj
      have hnot : ∀ e ∈ oj.after, Region.binds md e = true → e.on ≠ i := fun e he hb heq => by
        have k1 := hall e he hb
        have k0 := (mem_ready.1 hr).1
        rw [heq] at k1
        rcases Nat.lt_or_ge i listed.size with h' | h'
        · simp [h'] at k0 k1; rw [k0] at k1; cases k1
        · simp [Array.getElem?_eq_none h'] at k1
      have hsj : st j = false := by
        cases h : st j with
        | false => rfl
        | true =>
          have hlt : j < ops.size := (Array.getElem?_eq_some_iff.1 hoj).1
          have k2 := reach_listed hcl _ _ (hwait j hlt h) (fun o ho e he hb => by rw [hoj] at ho; cases ho; exact hall e he hb)
          have k0 := (mem_ready.1 hr).1
          rcases Nat.lt_or_ge i listed.size with h' | h'
          · simp [h'] at k0 k2; rw [k0] at k2; cases k2
          · simp [Array.getElem?_eq_none h'] at k2
      have hput := wpOp_putIf hoj (hfree j oj hoj hne hjun hnot) (fun cs b => hsel i oi cs b hi) (fun cs b => hsel j oj cs b hoj) hQ hy hstep
      have hcl' : Closed md ops (listed.setIfInBounds j true) := fun k o ho hk e he hb => by
        have hjs : j < listed.size := Nat.lt_of_lt_of_le (Array.getElem?_eq_some_iff.1 hoj).1 hsz
        have hdeps : listed.getD e.on false = true := by
          by_cases hkj : j = k
          · subst hkj; rw [hoj] at ho; cases ho; exact hall e he hb
          · rw [getD_set_ne false hkj] at hk; exact hcl k o ho hk e he hb
        by_cases hej : j = e.on
        · rw [← hej]; simp [hjs]
        · rw [getD_set_ne false hej]; exact hdeps
      refine wpOp_mono (fun a' w' h3 => ⟨h3.2.1, ih (listed.setIfInBounds j true) a' w' hcl' (by simpa using hsz) (fun k ok hk hki hun hno => ?_) (ready_mono hr (Ne.symm hne)) h3.1 (h3.2.1 hsj) ?_⟩) hput
      · refine hfree k ok hk hki ?_ hno
        by_cases hjk : j = k
        · subst hjk; exact hjun
        · rw [getD_set_ne true hjk] at hun; exact hun
      · rw [Array.setIfInBounds_comm _ _ hne]
        exact h3.2.2
    · exact hy.wpOp hi hS ⟨fun _ => hS, H⟩

/-- Every operation that 'st' names waits for number i. -/
def waits (md : Region.Mode) (ops : Array Oper) (st : Nat → Bool) (i : Nat) : Bool := (List.range ops.size).all fun j => !st j || reach md ops i ops.size j
theorem waits_spec {i : Nat} (h : waits md ops st i = true) (j : Nat) (hlt : j < ops.size) (hs : st j = true) : reach md ops i ops.size j = true := by
  have h1 := List.all_eq_true.1 h j (List.mem_range.2 hlt)
  rw [hs] at h1
  simpa using h1
theorem take_anyT {i : Nat} {oi : Oper} {v : Value} {fuel : Nat} {listed : Array Bool} {a : Act} {w : World} (hi : ops[i]? = some oi) (hs : Region.noSelect ops = true) (hf : Region.free md ops listed i = true) (hr : (Region.ready md ops listed).contains i = true)
    (hst : st i = false) (hw : (waits md ops st i && closedB md ops listed && decide (ops.size ≤ listed.size)) = true) (hQ : ∀ c a w, Q (.panic c) (a.put oi.dst v) w → Q (.panic c) a w) (hy : YieldsIf P ops S oi v a) (hS : S w)
    (h : AnyT P md ops Q st S fuel (listed.setIfInBounds i true) (a.put oi.dst v) w) : AnyT P md ops Q st S (fuel + 1) listed a w :=
  have hw' := Bool.and_eq_true_iff.1 (Bool.and_eq_true_iff.1 hw).1
  first_anyT hi (Region.noSelect_spec hs) hQ hst (waits_spec hw'.1) fuel listed a w (closed_of hw'.2) (of_decide_eq_true (Bool.and_eq_true_iff.1 hw).2) (Region.free_spec hi hf) (by simpa using hr) hy hS h
theorem all_anyT {rs : List Nat} {fuel : Nat} {listed : Array Bool} {a : Act} {w : World} (hr : Region.ready md ops listed = rs) (hne : rs ≠ [])
    (h : ∀ i ∈ rs, wpOp P ops Q i (fun a' w' => (st i = false → S w') ∧ AnyT P md ops Q st S fuel (listed.setIfInBounds i true) a' w') a w) : AnyT P md ops Q st S (fuel + 1) listed a w := ⟨fun h0 => absurd (hr ▸ h0) hne, hr ▸ h⟩
theorem done_anyT {listed : Array Bool} {a : Act} {w : World} (hr : Region.ready md ops listed = []) (h : Q .normal a w) : ∀ fuel, AnyT P md ops Q st S fuel listed a w
  | 0 => ⟨hr, h⟩
  | _ + 1 => ⟨fun _ => h, by rw [hr]; simp⟩
end

theorem any_round {Q : Exit → Act → World → Prop} {S : World → Prop} {st : Nat → Bool} (hnd : ∀ (i : Nat) (o : Oper), ops[i]? = some o → ∀ c, o.op ≠ .defer c) : ∀ (fuel : Nat) (listed : Array Bool) (a : Act) (w : World),
    AnyT P md ops (Calm Q) st S fuel listed a w → wpAnyIn (Fence.wide.inRound l) n P md ops Q fuel listed a w
  | 0, _, _, _, h => ⟨h.1, h.2.2⟩
  | fuel + 1, listed, a, w, h => ⟨fun h0 => (h.1 h0).2, fun i hi => by
      have hq := h.2 i hi
      unfold wpOp at hq
      unfold wpOpIn
      cases ho : ops[i]? with
      | none => rw [ho] at hq; exact any_round hnd fuel _ _ _ hq.2
      | some o =>
        rw [ho] at hq
        by_cases hwt : Region.wanted o (yielded ops a.tmps) = true
        · simp only [hwt, if_true] at hq ⊢
          rcases hq with hq | ⟨_, _, _, e, _⟩
          · refine Oper.wpIn_mono (fun a' w' h' => any_round hnd fuel _ a' w' h'.2) (op_round (hnd i o ho) hq)
          · cases e
        · simp only [hwt] at hq ⊢
          exact ⟨fun _ _ => trivial, any_round hnd fuel _ _ _ hq.2⟩⟩

theorem op_anyT {Q : Exit → Act → World → Prop} {i : Nat} {o : Oper} {T : Act → World → Prop} {a : Act} {w : World} (ho : ops[i]? = some o) (hw : Region.wanted o (yielded ops a.tmps) = true) (h : ∀ K : Act → World → Prop, (∀ a' w', T a' w' → K a' w') → o.wp P a w K Q) : wpOp P ops Q i T a w := by
  unfold wpOp
  rw [ho]
  simp only [hw, if_true]
  exact .inl (h T fun _ _ h => h)
/-- The beginning. -/
theorem region_round (st : Nat → Bool) (S : World → Prop) {id : Nat} {Q : Exit → Act → World → Prop} {a : Act} {w : World} {ol : List Oper} (hm : P.follows .mixedOrders = true) (hnd : (ol.all fun o => match o.op with | .defer _ => false | _ => true) = true)
    (h : AnyT P .any ol.toArray (Calm Q) st S ol.toArray.size (Array.replicate ol.toArray.size false) a w.drew) : (Code.region id ol.toArray true).wpIn (Fence.wide.inRound l) n P Q a w := by
  have hnd' : ∀ (i : Nat) (o : Oper), ol.toArray[i]? = some o → ∀ c, o.op ≠ .defer c := fun i o ho c e => by
    have hmem : o ∈ ol := by
      rw [List.getElem?_toArray] at ho
      exact List.mem_of_getElem? ho
    have := List.all_eq_true.1 hnd o hmem
    rw [e] at this
    cases this
  exact wpIn_region_any hm (any_round hnd' _ _ _ _ h)
end Go.Proofs.Ytloldgiggnhemaa.HeldRound
