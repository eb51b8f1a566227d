/-  For LeastPlays: the law's own map of counts, what a range over it has met, and which key is the first of the best.  -/
import Derived.Test.YthnicdafglohbaaBt
import Derived.Maps.RangeWalk
set_option linter.unusedVariables false
set_option linter.unusedSimpArgs false
namespace Go.Proofs.Ythnicdafglohbaa.Lw
open Go.RowKit Go.Maps Go.Sort Go.Lib Go.WideMaps Go.Proofs.YthnicdafglohbaaW.PrintWords Go.Proofs.YthnicdafglohbaaW.PrintLast Go.Proofs.YthnicdafglohbaaW.PrintMore

/-- The map in block b holds c. -/
def Wm (w : World) (b : Nat) (c : Int → Int) (n : Nat) : Prop := ∃ D : Li.Dt, w.ownsMap Try.prog 3 (plainElem Try.prog 3) b n D ∧ ∀ k : Int, (Lit.int .i64 k).wf = true → D.atKey (.int .i64 k) Li.zd = .lit (.int .i64 (c k))
theorem Wm.lt {w : World} {b n : Nat} {c : Int → Int} (h : Wm w b c n) : b < w.heap.size := by obtain ⟨D, h1, -⟩ := h; exact h1.lt
theorem Wm.keep {w w' : World} {b n : Nat} {c : Int → Int} (h : Wm w b c n) (h2 : w'.heap[b]? = w.heap[b]?) : Wm w' b c n := by
  obtain ⟨D, ⟨es, clock, hb, hF, hs, hD⟩, hat⟩ := h
  exact ⟨D, ⟨es, clock, h2.trans hb, hF, hs, hD⟩, hat⟩
theorem Wm.below {w w' : World} {b n : Nat} {c : Int → Int} (h : Wm w b c n) (hb : Below w.heap.size w w') : Wm w' b c n := h.keep (hb.block _ h.lt)
theorem Wm.grown {w w' : World} {b n : Nat} {c : Int → Int} {row : Option Nat} (h : Wm w b c n) (hg : w.grownBy w' row) (h1 : some b ≠ row) : Wm w' b c n := h.keep (hg.block _ h.lt h1)
theorem Wm.look {w : World} {b n : Nat} {c : Int → Int} (h : Wm w b c n) {k : Int} (wf : (Lit.int .i64 k).wf = true) : (Instr.lookup 44 (.map (some b)) (.int .i64 k) false).run Try.prog w = .ok (.int .i64 (c k)) w := by
  obtain ⟨D, hown, hat⟩ := h
  obtain ⟨c2, hrun, h2, -⟩ := hown.lookup_int Li.law Try.underlying44 Try.underlying3 (Li.zero3 w) (keyOf_int_mk Try.underlying3 wf)
  have h3 := hat k wf
  unfold Li.zd at h3
  rw [h3] at h2
  cases h2
  exact hrun
theorem Wm.put {w : World} {b n : Nat} {c : Int → Int} {D : Li.Dt} (hown : w.ownsMap Try.prog 3 (plainElem Try.prog 3) b n D) (hat : ∀ k : Int, (Lit.int .i64 k).wf = true → D.atKey (.int .i64 k) Li.zd = .lit (.int .i64 (c k))) {w1 : World} {k r : Int}
    (h1 : w1.ownsMap Try.prog 3 (plainElem Try.prog 3) b (n + 1) (D.put (.int .i64 k) (.lit (.int .i64 r)))) : Wm w1 b (Li.updZ c k r) (n + 1) := by
  refine ⟨_, h1, fun k' wf' => ?_⟩
  unfold Li.updZ
  by_cases e : k' = k
  · rw [if_pos e, e]
    exact atKey_put_same (k := (.int .i64 k)) (hown.tidy Li.law).isMap (show WideAt.IsKeyLit (.int .i64 k) from trivial) _ _
  · rw [if_neg e, atKey_put_other (fun e2 => e (by injection e2))]
    exact hat k' wf'
theorem sameI (k x : Int) : (Lit.int .i64 k).sameKey (.int .i64 x) = decide (k = x) := by
  by_cases h : k = x <;> simp [Lit.sameKey, h]
/-- lo is the first of the best. -/
def IsB (better : Int → Int → Prop) (c : Int → Int) (ks : List Int) (lo : Int) : Prop := (ks = [] ∧ lo = 0) ∨ (lo ∈ ks ∧ ∀ k ∈ ks, better (c lo) (c k) ∨ (c lo = c k ∧ lo ≤ k))
structure MetK (c : Int → Int) (D : Li.Dt) (left : Lit → Bool) (ks : List Int) : Prop where
  nd : ks.Nodup
  mem : ∀ k : Int, (Lit.int .i64 k).wf = true → (k ∈ ks ↔ Maps.has D (.int .i64 k) = true ∧ left (.int .i64 k) = false ∧ c k ≠ 0)
  wf : ∀ k ∈ ks, (Lit.int .i64 k).wf = true
  sub : ∀ kl, left kl = true → Maps.has D kl = true
theorem MetK.start (c : Int → Int) (D : Li.Dt) : MetK c D (Maps.has D) [] := by
  refine ⟨List.nodup_nil, fun k _ => ⟨fun h => absurd h (List.not_mem_nil), fun h => ?_⟩, fun k hk => absurd hk (List.not_mem_nil), fun _ h => h⟩
  rw [h.1] at h
  exact absurd h.2.1 (by decide)
theorem MetK.zero {c : Int → Int} {D : Li.Dt} {left : Lit → Bool} {ks : List Int} (h : MetK c D left ks) {x : Int} (hc : c x = 0) : MetK c D (fun z => left z && !z.sameKey (.int .i64 x)) ks := by
  refine ⟨h.nd, fun k wf => ?_, h.wf, fun kl hk => h.sub kl (by simp only [Bool.and_eq_true] at hk; exact hk.1)⟩
  rw [h.mem k wf]
  refine and_congr_right fun h1 => ?_
  rw [sameI]
  by_cases e : k = x
  · subst e
    simp [hc]
  · simp [e]
theorem MetK.not_in {c : Int → Int} {D : Li.Dt} {left : Lit → Bool} {ks : List Int} (h : MetK c D left ks) {x : Int} (wf : (Lit.int .i64 x).wf = true) (hl : left (.int .i64 x) = true) : x ∉ ks := fun hx => by
  have h1 := ((h.mem x wf).1 hx).2.1
  rw [hl] at h1
  cases h1
theorem MetK.step {c : Int → Int} {D : Li.Dt} {left : Lit → Bool} {ks : List Int} (h : MetK c D left ks) {x : Int} (wf : (Lit.int .i64 x).wf = true) (hl : left (.int .i64 x) = true) (hc : c x ≠ 0) : MetK c D (fun z => left z && !z.sameKey (.int .i64 x)) (x :: ks) := by
  refine ⟨List.nodup_cons.2 ⟨h.not_in wf hl, h.nd⟩, fun k wfk => ?_, fun k hk => ?_, fun kl hk => h.sub kl (by simp only [Bool.and_eq_true] at hk; exact hk.1)⟩
  · rw [List.mem_cons, h.mem k wfk]
    show _ ↔ _ ∧ (left (.int .i64 k) && !(Lit.int .i64 k).sameKey (.int .i64 x)) = false ∧ _
    rw [sameI]
    by_cases e : k = x
    · subst e
      simp [hc, h.sub _ hl]
    · simp [e]
  · rcases List.mem_cons.1 hk with rfl | hk
    · exact wf
    · exact h.wf k hk
theorem MetK.done {w : World} {b n : Nat} {c : Int → Int} {D : Li.Dt} {left : Lit → Bool} {ks ks0 : List Int} (h : MetK c D left ks) (hown : w.ownsMap Try.prog 3 (plainElem Try.prog 3) b n D) (hat : ∀ k : Int, (Lit.int .i64 k).wf = true → D.atKey (.int .i64 k) Li.zd = .lit (.int .i64 (c k)))
    (hl : ∀ kl, left kl = false) (hk : Li.KSet c ks0) : ks.Perm ks0 := by
  refine (List.perm_ext_iff_of_nodup h.nd (hk.lt.imp (fun {a b} hab => Int.ne_of_lt hab))).2 (fun k => ⟨fun hk' => ?_, fun hk' => ?_⟩)
  · have wf := h.wf k hk'
    exact (hk.mem k wf).2 ((h.mem k wf).1 hk').2.2
  · have wf := hk.wf k hk'
    have hc := (hk.mem k wf).1 hk'
    exact (h.mem k wf).2 ⟨((Li.keys_facts hown).2.2 k).1 (Li.zero_of hown hat wf hc), hl _, hc⟩
theorem IsB.perm {better : Int → Int → Prop} {c : Int → Int} {ks ks0 : List Int} {lo : Int} (h : IsB better c ks lo) (hp : ks.Perm ks0) : IsB better c ks0 lo := by
  rcases h with ⟨h1, h2⟩ | ⟨h1, h2⟩
  · subst h1
    exact .inl ⟨List.Perm.nil_eq hp |>.symm, h2⟩
  · exact .inr ⟨hp.mem_iff.1 h1, fun k hk => h2 k (hp.mem_iff.2 hk)⟩
theorem IsB.uniq {better : Int → Int → Prop} (asy : ∀ a b, better a b → ¬ better b a) (ir : ∀ a, ¬ better a a) {c : Int → Int} {ks : List Int} {a b : Int} (h : IsB better c ks a) (g : IsB better c ks b) : a = b := by
  rcases h with ⟨h1, h2⟩ | ⟨h1, h2⟩
  · rcases g with ⟨g1, g2⟩ | ⟨g1, g2⟩
    · rw [h2, g2]
    · subst h1
      exact absurd g1 (List.not_mem_nil)
  · rcases g with ⟨g1, g2⟩ | ⟨g1, g2⟩
    · subst g1
      exact absurd h1 (List.not_mem_nil)
    · rcases h2 b g1 with h3 | ⟨h3, h4⟩
      · rcases g2 a h1 with g3 | ⟨g3, g4⟩
        · exact absurd g3 (asy _ _ h3)
        · rw [g3] at h3
          exact absurd h3 (ir _)
      · rcases g2 a h1 with g3 | ⟨g3, g4⟩
        · rw [h3] at g3
          exact absurd g3 (ir _)
        · omega
/-- x takes the place of lo. -/
theorem IsB.take {better : Int → Int → Prop} (tr : ∀ a b d, better a b → better b d → better a d) {c : Int → Int} {ks : List Int} {lo x : Int} (h : IsB better c ks lo) (hb : ks = [] ∨ better (c x) (c lo) ∨ (c x = c lo ∧ x < lo)) : IsB better c (x :: ks) x := by
  refine .inr ⟨List.mem_cons_self .., fun k hk => ?_⟩
  rcases List.mem_cons.1 hk with rfl | hk
  · exact .inr ⟨rfl, Int.le_refl _⟩
  · rcases h with ⟨h1, h2⟩ | ⟨h1, h2⟩
    · subst h1
      exact absurd hk (List.not_mem_nil)
    · rcases hb with hb | hb | ⟨hb, hlt⟩
      · subst hb
        exact absurd hk (List.not_mem_nil)
      · rcases h2 k hk with h3 | ⟨h3, -⟩
        · exact .inl (tr _ _ _ hb h3)
        · rw [← h3]; exact .inl hb
      · rw [hb]
        rcases h2 k hk with h3 | ⟨h3, h4⟩
        · exact .inl h3
        · exact .inr ⟨h3, by omega⟩
theorem IsB.stay {better : Int → Int → Prop} {c : Int → Int} {ks : List Int} {lo x : Int} (h : IsB better c ks lo) (hne : ks ≠ []) (hb : better (c lo) (c x) ∨ (c lo = c x ∧ lo ≤ x)) : IsB better c (x :: ks) lo := by
  rcases h with ⟨h1, h2⟩ | ⟨h1, h2⟩
  · exact absurd h1 hne
  · refine .inr ⟨List.mem_cons_of_mem _ h1, fun k hk => ?_⟩
    rcases List.mem_cons.1 hk with rfl | hk
    · exact hb
    · exact h2 k hk
/-- What a tally tells as the best is the first of the best. -/
theorem bst_first (lt : Int → Int → Bool) (better : Int → Int → Prop) (hlt : ∀ a b, lt a b = true ↔ better a b) (tr : ∀ a b d, better a b → better b d → better a d) (ir : ∀ a, ¬ better a a) (tot : ∀ a b, better a b ∨ a = b ∨ better b a) (c : Int → Int) (ks : List Int) (hs : ks.Pairwise (fun x y => x < y)) : ∀ i : Nat, i ≤ ks.length →
    (i = 0 ∧ Li.bst lt c (ks.take i) = (0, 0, false)) ∨ (0 < i ∧ ∃ k, Li.bst lt c (ks.take i) = (k, c k, true) ∧ k ∈ ks.take i ∧ ∀ x ∈ ks.take i, better (c k) (c x) ∨ (c k = c x ∧ k ≤ x))
  | 0, _ => .inl ⟨rfl, rfl⟩
  | i + 1, hi => by
    refine .inr ⟨by omega, ?_⟩
    have hsu := Li.bst_succ lt c ks i (by omega)
    have ht : ks.take (i + 1) = ks.take i ++ [ks[i]] := List.take_succ_eq_append_getElem (by omega)
    have hord : ∀ x ∈ ks.take i, x < ks[i] := fun x hx => by
      obtain ⟨j, hj, rfl⟩ := List.mem_take_iff_getElem.1 hx
      exact List.pairwise_iff_getElem.1 hs j i (by omega) (by omega) (by omega)
    rw [hsu]
    rcases bst_first lt better hlt tr ir tot c ks hs i (by omega) with ⟨h0, h1⟩ | ⟨h0, k, h1, h2, h3⟩
    · rw [h1]
      subst h0
      refine ⟨ks[0], rfl, by rw [ht]; simp, fun x hx => ?_⟩
      rw [ht] at hx
      obtain rfl : x = ks[0] := by simpa using hx
      exact .inr ⟨rfl, Int.le_refl _⟩
    · rw [h1]
      cases h : lt (c ks[i]) (c k) with
      | true =>
        have hb := (hlt _ _).1 h
        refine ⟨ks[i], by unfold Li.bstep; rw [h]; rfl, by rw [ht]; exact List.mem_append_right _ (List.mem_singleton.2 rfl), fun x hx => ?_⟩
        rw [ht, List.mem_append] at hx
        rcases hx with hx | hx
        · rcases h3 x hx with h4 | ⟨h4, -⟩
          · exact .inl (tr _ _ _ hb h4)
          · rw [← h4]; exact .inl hb
        · obtain rfl : x = ks[i] := by simpa using hx
          exact .inr ⟨rfl, Int.le_refl _⟩
      | false =>
        refine ⟨k, by unfold Li.bstep; rw [h]; rfl, by rw [ht]; exact List.mem_append_left _ h2, fun x hx => ?_⟩
        rw [ht, List.mem_append] at hx
        rcases hx with hx | hx
        · exact h3 x hx
        · obtain rfl : x = ks[i] := by simpa using hx
          rcases tot (c k) (c ks[i]) with h4 | h4 | h4
          · exact .inl h4
          · exact .inr ⟨h4, Int.le_of_lt (hord k h2)⟩
          · rw [(hlt _ _).2 h4] at h
            cases h
theorem bst_isB (lt : Int → Int → Bool) (better : Int → Int → Prop) (hlt : ∀ a b, lt a b = true ↔ better a b) (tr : ∀ a b d, better a b → better b d → better a d) (ir : ∀ a, ¬ better a a) (tot : ∀ a b, better a b ∨ a = b ∨ better b a) (c : Int → Int) (ks : List Int) (hs : ks.Pairwise (fun x y => x < y)) :
    (ks = [] ∧ Li.bst lt c ks = (0, 0, false)) ∨ (ks ≠ [] ∧ ∃ k, IsB better c ks k ∧ Li.bst lt c ks = (k, c k, true)) := by
  have h := bst_first lt better hlt tr ir tot c ks hs ks.length (Nat.le_refl _)
  rw [List.take_length] at h
  rcases h with ⟨h0, h1⟩ | ⟨h0, k, h1, h2, h3⟩
  · exact .inl ⟨List.length_eq_zero_iff.1 h0, h1⟩
  · exact .inr ⟨fun e => by subst e; exact absurd h2 (List.not_mem_nil), k, .inr ⟨h2, h3⟩, h1⟩
abbrev ltP (a b : Int) : Prop := a < b
abbrev gtP (a b : Int) : Prop := b < a
theorem lowB {c : Int → Int} {ks : List Int} (hs : ks.Pairwise (fun x y => x < y)) {lo : Int} (h : IsB ltP c ks lo) : (ks = [] ∧ lo = 0 ∧ Li.bst Li.ltI c ks = (0, 0, false)) ∨ (ks ≠ [] ∧ lo ∈ ks ∧ Li.bst Li.ltI c ks = (lo, c lo, true)) := by
  rcases bst_isB Li.ltI ltP (fun a b => by simp [Li.ltI]) (fun a b d h1 h2 => Int.lt_trans h1 h2) (fun a => Int.lt_irrefl a) (fun a b => by show a < b ∨ a = b ∨ b < a; omega) c ks hs with ⟨h1, h2⟩ | ⟨h1, k, h2, h3⟩
  · rcases h with ⟨-, h⟩ | ⟨h, -⟩
    · exact .inl ⟨h1, h, h2⟩
    · subst h1
      exact absurd h (List.not_mem_nil)
  · obtain rfl := IsB.uniq (fun a b (h1 : a < b) (h2 : b < a) => by omega) (fun a => Int.lt_irrefl a) h h2
    rcases h with ⟨h, -⟩ | ⟨h, -⟩
    · exact absurd h h1
    · exact .inr ⟨h1, h, h3⟩
theorem highB {c : Int → Int} {ks : List Int} (hs : ks.Pairwise (fun x y => x < y)) {lo : Int} (h : IsB gtP c ks lo) : (ks = [] ∧ lo = 0 ∧ Li.bst Li.gtI c ks = (0, 0, false)) ∨ (ks ≠ [] ∧ lo ∈ ks ∧ Li.bst Li.gtI c ks = (lo, c lo, true)) := by
  rcases bst_isB Li.gtI gtP (fun a b => by simp [Li.gtI]) (fun a b d h1 h2 => Int.lt_trans h2 h1) (fun a => Int.lt_irrefl a) (fun a b => by show b < a ∨ a = b ∨ a < b; omega) c ks hs with ⟨h1, h2⟩ | ⟨h1, k, h2, h3⟩
  · rcases h with ⟨-, h⟩ | ⟨h, -⟩
    · exact .inl ⟨h1, h, h2⟩
    · subst h1
      exact absurd h (List.not_mem_nil)
  · obtain rfl := IsB.uniq (fun a b (h1 : b < a) (h2 : a < b) => by omega) (fun a => Int.lt_irrefl a) h h2
    rcases h with ⟨h, -⟩ | ⟨h, -⟩
    · exact absurd h h1
    · exact .inr ⟨h1, h, h3⟩
end Go.Proofs.Ythnicdafglohbaa.Lw
