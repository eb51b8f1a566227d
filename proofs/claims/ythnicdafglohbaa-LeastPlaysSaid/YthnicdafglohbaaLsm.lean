/-  A tally's Keys (of one kind).  -/
import Derived.Test.YthnicdafglohbaaLsk
set_option linter.unusedVariables false
set_option linter.unusedSimpArgs false
namespace Go.Proofs.Ythnicdafglohbaa.Ls
open Go.RowKit Go.Maps Go.Sort Go.Lib Go.WideMaps Go.Proofs.YthnicdafglohbaaW.PrintWords Go.Proofs.YthnicdafglohbaaW.PrintLast Go.Proofs.YthnicdafglohbaaW.PrintMore
attribute [local go_sem] max2_int min2_int max_two min_two max_three min_three max_four min_four

theorem delNil (w : World) (fv : Value) : Calls Try.prog 25 #[.slice none 0 0, fv] w fun e w' => e = .returned (.slice none 0 0) ∧ w' = w := by
  have hcc := AnyE.slices_IndexFunc_empty Sk.idx38 none 0 fv w
  change Calls Try.prog 38 _ _ _ at hcc
  go_enter Try.func25, Try.ntmps25
  go_wp2_with fail
  refine hcc.mono ?_
  clear hcc
  rintro ev w2 ⟨rfl, hw2⟩
  rw [hw2]
  clear hw2 w2
  go_wp2_with fail
  go_ret
  exact ⟨rfl, rfl⟩
/-- What a tally's keys are: rising, those that have a count. -/
structure KSet (c : (List UInt8) → Int) (ks : List (List UInt8)) : Prop where
  wf : ∀ k ∈ ks, k.length ≤ maxLen
  lt : ks.Pairwise (fun x y => x < y)
  mem : ∀ k : (List UInt8), k.length ≤ maxLen → (k ∈ ks ↔ c k ≠ 0)
/-- A row of keys as it lies. -/
def RowAt (w : World) (A : Option Addr) (ks : List (List UInt8)) : Prop := ∀ j (hj : j < ks.length), ∃ ad, A = some ad ∧ w.cell? (ad.add j) = some (encStr ks[j])
theorem RowAt.below {w w' : World} {A : Option Addr} {ks : List (List UInt8)} (h : RowAt w A ks) (hb : Below w.heap.size w w') : RowAt w' A ks := fun j hj => by
  obtain ⟨ad, h1, h2⟩ := h j hj
  exact ⟨ad, h1, pw_cell_below hb h2⟩
theorem keys_facts {w : World} {b n : Nat} {D : Dt} (hown : w.ownsMap Try.prog 9 (plainElem Try.prog 3) b n D) : (strKeys D).Nodup ∧ (∀ k ∈ strKeys D, k.length ≤ maxLen) ∧ ∀ k, k ∈ strKeys D ↔ Maps.has D (.string k) = true := by
  obtain ⟨es, rfl, hk⟩ := hown.keysOf
  obtain ⟨es', e, hp⟩ := hown.tidy law
  injection e with e
  subst e
  have hk2 : ∀ p ∈ es, ∃ k : (List UInt8), p.1 = (.string k) ∧ k.length ≤ maxLen := fun p hp => by
    obtain ⟨key, hkey⟩ := hk p hp
    obtain ⟨k, -, h2, h3⟩ := keyOf_str Try.underlying9 hkey
    exact ⟨k, h2, h3⟩
  refine ⟨?_, fun k hk' => ?_, fun k => ?_⟩
  · show (es.map fun p => strOf p.1).Nodup
    refine List.pairwise_map.2 (hp.imp_of_mem fun {p q} hp' hq' hne e => hne ?_)
    obtain ⟨a, ha, -⟩ := hk2 p hp'
    obtain ⟨a2, hb, -⟩ := hk2 q hq'
    rw [ha, hb] at e ⊢
    exact congrArg _ e
  · obtain ⟨p, hp', rfl⟩ := List.mem_map.1 (show k ∈ es.map fun p => strOf p.1 from hk')
    obtain ⟨a, ha, hwf⟩ := hk2 p hp'
    rw [ha]
    exact hwf
  · rw [has_eq, List.any_eq_true]
    show k ∈ (es.map fun p => strOf p.1) ↔ _
    rw [List.mem_map]
    constructor
    · rintro ⟨p, hp', rfl⟩
      obtain ⟨a, ha, -⟩ := hk2 p hp'
      exact ⟨p, hp', by rw [ha]; simp [Lit.sameKey, strOf]⟩
    · rintro ⟨p, hp', hs⟩
      obtain ⟨a, ha, -⟩ := hk2 p hp'
      rw [ha] at hs
      exact ⟨p, hp', by rw [ha]; simpa [Lit.sameKey, strOf] using hs⟩
theorem sorted_facts {l ss : List (List UInt8)} (hnd : l.Nodup) (hS : ss.Perm l) : (ss.mergeSort (fun x y => decide (x ≤ y))).Pairwise (fun x y => x < y) ∧ ∀ k, k ∈ ss.mergeSort (fun x y => decide (x ≤ y)) ↔ k ∈ l := by
  have tr : ∀ a b c : (List UInt8), decide (a ≤ b) = true → decide (b ≤ c) = true → decide (a ≤ c) = true := fun a b c h1 h2 => by simp only [decide_eq_true_eq] at *; exact List.le_trans h1 h2
  have ttl : ∀ a b : (List UInt8), (decide (a ≤ b) || decide (b ≤ a)) = true := fun a b => by simp only [Bool.or_eq_true, decide_eq_true_eq]; exact List.le_total a b
  have hp := (List.mergeSort_perm ss (fun x y => decide (x ≤ y))).trans hS
  refine ⟨?_, fun k => hp.mem_iff⟩
  have h1 := List.pairwise_mergeSort (le := fun x y : (List UInt8) => decide (x ≤ y)) tr ttl ss
  have h2 : (ss.mergeSort (fun x y => decide (x ≤ y))).Nodup := hp.nodup_iff.2 hnd
  refine (List.pairwise_and_iff.2 ⟨h1, h2⟩).imp ?_
  rintro a b' ⟨h3, h4⟩
  have h5 : a ≤ b' := by simpa using h3
  refine List.not_le.1 (fun h6 => h4 (List.le_antisymm h5 h6))
end Go.Proofs.Ythnicdafglohbaa.Ls
