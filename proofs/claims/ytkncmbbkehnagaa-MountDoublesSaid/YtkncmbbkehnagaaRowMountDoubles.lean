import Derived.Test.YtkncmbbkehnagaaRows
import Derived.Test.YtkncmbbkehnagaaZb0
import Derived.Test.YtkncmbbkehnagaaZNc
import Derived.WalkKit
import Derived.ProofKit
import Derived.OpenShut
import Derived.ShutString
import Derived.ChangeOld
import Derived.Below
import Derived.SizedLaws
/-
  The row of the law MountDoubles: whatever the arguments that can be read as data, the call returns true and leaves memory as it was.
  Written by this session's rowgen.py over the walk's theorem.
-/
namespace Go.Proofs.Ytkncmbbkehnagaa.mountDoubles
open Go.ChangeShapes Go.WideShapes Go.ChangeAt Go.RowKit Go.Proofs.Ytkncmbbkehnagaa.Opens Go.Proofs.YtkncmbbkehnagaaW.PrintWords
open Go.Proofs.Ytkncmbbkehnagaa.Cm
open Go.Proofs.Ytkncmbbkehnagaa.PAll
open Go.ChangeMaps (open_string shut_string)
set_option linter.unusedVariables false
theorem own : ownKnob Try.prog.godebug = none := by kernel_rfl
theorem laidOut : laidOutB Try.prog = true := by kernel_rfl
def ok3 : Int → Prop := fun n => (Lit.int .i64 n).wf = true
theorem op3 : Opens Try.prog 3 (Kd.int .i64) ok3 := opens_int Try.underlying3 (by kernel_rfl)
def ok5 : Int → Prop := fun n => (Lit.int .u8 n).wf = true
theorem op5 : Opens Try.prog 5 (Kd.int .u8) ok5 := opens_int Try.underlying5 (by kernel_rfl)
def ok26 : (List Int) → Prop := fun xs => xs.length ≤ maxLen ∧ ∀ x ∈ xs, ok5 x
theorem op26 : Opens Try.prog 26 (Kd.slice 5 (Kd.int .u8)) ok26 := opens_slice op5 Try.underlying26 (by kernel_rfl)
def ok28 : S28 → Prop := fun x => ok3 x.f0 ∧ ok3 x.f1 ∧ ok26 x.f2
theorem op28 : Opens Try.prog 28 k28 ok28 := opens_iso (fun x : S28 => (x.f0, x.f1, x.f2)) (fun y => ⟨y.1, y.2.1, y.2.2⟩) (fun _ => rfl) (opens_struct Try.underlying28 (by kernel_rfl) (opensF_cons op3 rfl (opensF_cons op3 rfl (opensF_one op26 rfl))))
def ok22 : (List S28) → Prop := fun xs => xs.length ≤ maxLen ∧ ∀ x ∈ xs, ok28 x
theorem op22 : Opens Try.prog 22 (Kd.slice 28 k28) ok22 := opens_slice op28 Try.underlying22 (by kernel_rfl)
def ok4 : Bool → Prop := fun _ => True
theorem op4 : Opens Try.prog 4 Kd.bool ok4 := opens_bool Try.underlying4 (by kernel_rfl)
set_option maxRecDepth 100000 in
theorem lifted (os : Os) (started : os.Started) (H : Type) (enc : TypeId × Value → H) :
    ReturnsInHanded {} Try.checked os 3 .any (Rows.mountDoublesSpec.pre6 enc Try.prog Try.f3 Rows.mountDoublesRow.domain false) (Rows.mountDoublesSpec.post enc Try.prog Try.f3 false true false false) := by
  refine returnsInHanded_of_change_sized (C := Try.checked) own started (by kernel_rfl) Try.func3
    (ChangeSpec.witness6 (enc := enc) (C := Try.checked) false ⟨#[], #[.slice none 0 0, .int .i64 0, .bool false], []⟩ 8 (by kernel_rfl) (by kernel_rfl) (by kernel_rfl) (by kernel_rfl)) ?_
  intro W base args ds gs before hval0 hW hcnd hsz0 _
  have hval : ∀ (j : Nat) t v, Try.f3.params[j]? = some t → args[j]? = some v → Value.okWide Try.prog W .any base t v := hval0
  have hW' := hW
  obtain ⟨p, q, hA0, hV, rfl, hfz, hnd⟩ := hW
  have hA : DataW.TrodAll enc Try.prog W 0 (fun _ => true) true Try.f3.params.toList args.toList ds p := hA0
  rw [Try.params3] at hA hval
  obtain ⟨v0, vs0, d0, ds0, p0, q0, hargs, rfl, rfl, h0, r0⟩ := trodAll_cons hA
  obtain ⟨v1, vs1, d1, ds1, p1, q1, rfl, rfl, rfl, h1, r1⟩ := trodAll_cons r0
  obtain ⟨v2, vs2, d2, ds2, p2, q2, rfl, rfl, rfl, h2, r2⟩ := trodAll_cons r1
  obtain ⟨rfl, rfl, rfl⟩ := trodAll_nil r2
  obtain rfl : args = #[v0, v1, v2] := by cases args; simp_all
  obtain ⟨rfl, rfl⟩ := trodVars_none hV
  have kk0 := h0
  have lt0 : ∀ x ∈ p0, x.block < W.heap.size := by obtain ⟨m, hm⟩ := kk0; exact DataW.trod_lt m _ _ _ hm
  obtain ⟨A0, c0, l0, rfl, hc0, hr0, hm0, hok0⟩ := open_slice_arg op28 Try.underlying22 (okWide_slice Try.underlying22 (hval 0 22 v0 rfl rfl)) h0
  obtain ⟨a1, rfl, rfl, rfl, w1⟩ := open_int Try.underlying3 (hval 1 3 v1 rfl rfl) h1
  obtain ⟨a2, rfl, rfl, rfl⟩ := open_bool Try.underlying4 (hval 2 4 v2 rfl rfl) h2
  clear hA0 hval0 hsz0
  refine (Go.Proofs.Ytkncmbbkehnagaa.Cm.doublesFinal W A0 c0 l0 hc0 hr0 hm0 hok0 a1 w1 a2).mono fun e W' ⟨he, bel⟩ => ?_
  subst he
  exact ⟨_, rfl, _, _, _, [], _, [], hW', trodAll_mk1 (shut_bool Try.underlying4 _), (trodAll_cons_mk (Below.trod laidOut (by kernel_rfl) (of_decide_eq_true (by kernel_rfl)) kk0 bel lt0) (trodAll_cons_mk (shut_int Try.underlying3 w1) (trodAll_cons_mk (shut_bool Try.underlying4 _) trodAll_mk0))), rfl, bel.frame _, fun h => by cases h⟩
theorem over : Rows.mountDoublesRow.holds Try.pinned (OpenSpec.ofChange Rows.mountDoublesSpec) :=
  OpenClaim.holds_of_wide 3 Try.f3 rfl rfl rfl rfl rfl rfl rfl ⟨rfl, rfl, rfl, rfl, rfl⟩ rfl rfl rfl rfl rfl (by kernel_rfl) Try.func3 (by kernel_rfl)
    (of_decide_eq_true (by kernel_rfl)) (by unfold Func.isWrapper; first | (rw [if_pos (by decide +kernel)]; kernel_rfl) | (rw [if_neg (by decide +kernel)]; exact ⟨rfl, rfl⟩))
    (fun os started H enc _ => lifted os started H enc)
theorem proved : Rows.MountDoublesSaid := over
#print axioms proved
end Go.Proofs.Ytkncmbbkehnagaa.mountDoubles
namespace Go.Proofs.Ytkncmbbkehnagaa
/-- The row, under a short name, for the claim. -/
theorem mountDoubles_holds : Rows.MountDoublesSaid := mountDoubles.proved
end Go.Proofs.Ytkncmbbkehnagaa

