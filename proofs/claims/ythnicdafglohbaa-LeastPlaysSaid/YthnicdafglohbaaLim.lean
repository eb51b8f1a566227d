/-  A tally's Keys (of one kind).  -/
import Derived.Test.YthnicdafglohbaaLik
set_option linter.unusedVariables false
set_option linter.unusedSimpArgs false
namespace Go.Proofs.Ythnicdafglohbaa.Li
open Go.RowKit Go.Maps Go.Sort Go.Lib Go.WideMaps Go.Proofs.YthnicdafglohbaaW.PrintWords Go.Proofs.YthnicdafglohbaaW.PrintLast Go.Proofs.YthnicdafglohbaaW.PrintMore
attribute [local go_sem] max2_int min2_int max_two min_two max_three min_three max_four min_four

theorem delNil (w : World) (fv : Value) : Calls Try.prog 32 #[.slice none 0 0, fv] w fun e w' => e = .returned (.slice none 0 0) ∧ w' = w := by
  have hcc := AnyE.slices_IndexFunc_empty Sk.idx42 none 0 fv w
  change Calls Try.prog 42 _ _ _ at hcc
  go_enter Try.func32, Try.ntmps32
  go_wp2_with fail
  refine hcc.mono ?_
  clear hcc
  rintro ev w2 ⟨rfl, hw2⟩
  rw [hw2]
  clear hw2 w2
  go_wp2_with fail
  go_ret
  exact ⟨rfl, rfl⟩
/-- What a tally's keys are: rising, those that have a count. -/
structure KSet (c : Int → Int) (ks : List Int) : Prop where
  wf : ∀ k ∈ ks, (Lit.int .i64 k).wf = true
  lt : ks.Pairwise (fun x y => x < y)
  mem : ∀ k : Int, (Lit.int .i64 k).wf = true → (k ∈ ks ↔ c k ≠ 0)
/-- A row of keys as it lies. -/
def RowAt (w : World) (A : Option Addr) (ks : List Int) : Prop := ∀ j (hj : j < ks.length), ∃ ad, A = some ad ∧ w.cell? (ad.add j) = some (encZ ks[j])
theorem RowAt.below {w w' : World} {A : Option Addr} {ks : List Int} (h : RowAt w A ks) (hb : Below w.heap.size w w') : RowAt w' A ks := fun j hj => by
  obtain ⟨ad, h1, h2⟩ := h j hj
  exact ⟨ad, h1, pw_cell_below hb h2⟩
theorem keys_facts {w : World} {b n : Nat} {D : Dt} (hown : w.ownsMap Try.prog 3 (plainElem Try.prog 3) b n D) : (intKeys D).Nodup ∧ (∀ k ∈ intKeys D, (Lit.int .i64 k).wf = true) ∧ ∀ k, k ∈ intKeys D ↔ Maps.has D (.int .i64 k) = true := by
  obtain ⟨es, rfl, hk⟩ := hown.keysOf
  obtain ⟨es', e, hp⟩ := hown.tidy law
  injection e with e
  subst e
  have hk2 : ∀ p ∈ es, ∃ k : Int, p.1 = (.int .i64 k) ∧ (Lit.int .i64 k).wf = true := fun p hp => by
    obtain ⟨key, hkey⟩ := hk p hp
    obtain ⟨k, -, h2, h3⟩ := keyOf_i64 Try.underlying3 hkey
    exact ⟨k, h2, h3⟩
  refine ⟨?_, fun k hk' => ?_, fun k => ?_⟩
  · show (es.map fun p => Go.intOf p.1).Nodup
    refine List.pairwise_map.2 (hp.imp_of_mem fun {p q} hp' hq' hne e => hne ?_)
    obtain ⟨a, ha, -⟩ := hk2 p hp'
    obtain ⟨a2, hb, -⟩ := hk2 q hq'
    rw [ha, hb] at e ⊢
    exact congrArg _ e
  · obtain ⟨p, hp', rfl⟩ := List.mem_map.1 (show k ∈ es.map fun p => Go.intOf p.1 from hk')
    obtain ⟨a, ha, hwf⟩ := hk2 p hp'
    rw [ha]
    exact hwf
  · rw [has_eq, List.any_eq_true]
    show k ∈ (es.map fun p => Go.intOf p.1) ↔ _
    rw [List.mem_map]
    constructor
    · rintro ⟨p, hp', rfl⟩
      obtain ⟨a, ha, -⟩ := hk2 p hp'
      exact ⟨p, hp', by rw [ha]; simp [Lit.sameKey, Go.intOf]⟩
    · rintro ⟨p, hp', hs⟩
      obtain ⟨a, ha, -⟩ := hk2 p hp'
      rw [ha] at hs
      exact ⟨p, hp', by rw [ha]; simpa [Lit.sameKey, Go.intOf] using hs⟩
theorem sorted_facts {l ss : List Int} (hnd : l.Nodup) (hS : ss.Perm l) : (ss.mergeSort (fun x y => decide (x ≤ y))).Pairwise (fun x y => x < y) ∧ ∀ k, k ∈ ss.mergeSort (fun x y => decide (x ≤ y)) ↔ k ∈ l := by
  have tr : ∀ a b c : Int, decide (a ≤ b) = true → decide (b ≤ c) = true → decide (a ≤ c) = true := fun a b c h1 h2 => by simp only [decide_eq_true_eq] at *; exact Int.le_trans h1 h2
  have ttl : ∀ a b : Int, (decide (a ≤ b) || decide (b ≤ a)) = true := fun a b => by simp only [Bool.or_eq_true, decide_eq_true_eq]; exact Int.le_total a b
  have hp := (List.mergeSort_perm ss (fun x y => decide (x ≤ y))).trans hS
  refine ⟨?_, fun k => hp.mem_iff⟩
  have h1 := List.pairwise_mergeSort (le := fun x y : Int => decide (x ≤ y)) tr ttl ss
  have h2 : (ss.mergeSort (fun x y => decide (x ≤ y))).Nodup := hp.nodup_iff.2 hnd
  refine (List.pairwise_and_iff.2 ⟨h1, h2⟩).imp ?_
  rintro a b' ⟨h3, h4⟩
  have h5 : a ≤ b' := by simpa using h3
  refine Int.not_le.1 (fun h6 => h4 (Int.le_antisymm h5 h6))
end Go.Proofs.Ythnicdafglohbaa.Li
