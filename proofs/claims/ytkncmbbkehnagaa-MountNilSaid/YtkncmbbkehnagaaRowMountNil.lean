import Derived.Test.YtkncmbbkehnagaaRows
import Derived.Test.YtkncmbbkehnagaaZb0
import Derived.Test.YtkncmbbkehnagaaZMt
import Derived.WalkKit
import Derived.ProofKit
import Derived.OpenShut
import Derived.ShutString
import Derived.ChangeOld
import Derived.Below
import Derived.SizedLaws
/-
  The row of the law MountNil: whatever the arguments that can be read as data, the call returns true and leaves memory as it was.
  Written by this session's rowgen.py over the walk's theorem.
-/
namespace Go.Proofs.Ytkncmbbkehnagaa.mountNil
open Go.ChangeShapes Go.WideShapes Go.ChangeAt Go.RowKit Go.Proofs.Ytkncmbbkehnagaa.Opens Go.Proofs.YtkncmbbkehnagaaW.PrintWords
open Go.Proofs.Ytkncmbbkehnagaa.Cm
open Go.Proofs.Ytkncmbbkehnagaa.PAll
open Go.ChangeMaps (open_string shut_string)
set_option linter.unusedVariables false
theorem own : ownKnob Try.prog.godebug = none := by kernel_rfl
theorem laidOut : laidOutB Try.prog = true := by kernel_rfl
def ok3 : Int → Prop := fun n => (Lit.int .i64 n).wf = true
theorem op3 : Opens Try.prog 3 (Kd.int .i64) ok3 := opens_int Try.underlying3 (by kernel_rfl)
def ok31 : S31 → Prop := fun x => ok3 x.f0 ∧ ok3 x.f1
theorem op31 : Opens Try.prog 31 k31 ok31 := opens_iso (fun x : S31 => (x.f0, x.f1)) (fun y => ⟨y.1, y.2⟩) (fun _ => rfl) (opens_struct Try.underlying31 (by kernel_rfl) (opensF_cons op3 rfl (opensF_one op3 rfl)))
def ok25 : (List S31) → Prop := fun xs => xs.length ≤ maxLen ∧ ∀ x ∈ xs, ok31 x
theorem op25 : Opens Try.prog 25 (Kd.slice 31 k31) ok25 := opens_slice op31 Try.underlying25 (by kernel_rfl)
set_option maxRecDepth 100000 in
theorem lifted (os : Os) (started : os.Started) (H : Type) (enc : TypeId × Value → H) :
    ReturnsInHanded {} Try.checked os 5 .any (Rows.mountNilSpec.pre6 enc Try.prog Try.f5 Rows.mountNilRow.domain false) (Rows.mountNilSpec.post enc Try.prog Try.f5 false true false false) := by
  refine returnsInHanded_of_change_sized (C := Try.checked) own started (by kernel_rfl) Try.func5
    (ChangeSpec.witness6 (enc := enc) (C := Try.checked) false ⟨#[], #[.int .i64 0, .slice none 0 0], []⟩ 8 (by kernel_rfl) (by kernel_rfl) (by kernel_rfl) (by kernel_rfl)) ?_
  intro W base args ds gs before hval0 hW hcnd hsz0 _
  have hval : ∀ (j : Nat) t v, Try.f5.params[j]? = some t → args[j]? = some v → Value.okWide Try.prog W .any base t v := hval0
  have hW' := hW
  obtain ⟨p, q, hA0, hV, rfl, hfz, hnd⟩ := hW
  have hA : DataW.TrodAll enc Try.prog W 0 (fun _ => true) true Try.f5.params.toList args.toList ds p := hA0
  rw [Try.params5] at hA hval
  obtain ⟨v0, vs0, d0, ds0, p0, q0, hargs, rfl, rfl, h0, r0⟩ := trodAll_cons hA
  obtain ⟨v1, vs1, d1, ds1, p1, q1, rfl, rfl, rfl, h1, r1⟩ := trodAll_cons r0
  obtain ⟨rfl, rfl, rfl⟩ := trodAll_nil r1
  obtain rfl : args = #[v0, v1] := by cases args; simp_all
  obtain ⟨rfl, rfl⟩ := trodVars_none hV
  obtain ⟨a0, rfl, rfl, rfl, w0⟩ := open_int Try.underlying3 (hval 0 3 v0 rfl rfl) h0
  have kk1 := h1
  have lt1 : ∀ x ∈ p1, x.block < W.heap.size := by obtain ⟨m, hm⟩ := kk1; exact DataW.trod_lt m _ _ _ hm
  obtain ⟨A1, c1, l1, rfl, hc1, hr1, hm1, hok1⟩ := open_slice_arg op31 Try.underlying25 (okWide_slice Try.underlying25 (hval 1 25 v1 rfl rfl)) h1
  clear hA0 hval0 hsz0
  refine (Go.Proofs.Ytkncmbbkehnagaa.Cm.nilFinal W a0 w0 A1 c1 l1 hc1 hr1 hm1 hok1).mono fun e W' ⟨he, bel⟩ => ?_
  subst he
  exact ⟨_, rfl, _, _, _, [], _, [], hW', trodAll_mk1 (shut_bool Try.underlying4 _), (trodAll_cons_mk (shut_int Try.underlying3 w0) (trodAll_cons_mk (Below.trod laidOut (by kernel_rfl) (of_decide_eq_true (by kernel_rfl)) kk1 bel lt1) trodAll_mk0)), rfl, bel.frame _, fun h => by cases h⟩
theorem over : Rows.mountNilRow.holds Try.pinned (OpenSpec.ofChange Rows.mountNilSpec) :=
  OpenClaim.holds_of_wide 5 Try.f5 rfl rfl rfl rfl rfl rfl rfl ⟨rfl, rfl, rfl, rfl, rfl⟩ rfl rfl rfl rfl rfl (by kernel_rfl) Try.func5 (by kernel_rfl)
    (of_decide_eq_true (by kernel_rfl)) (by unfold Func.isWrapper; first | (rw [if_pos (by decide +kernel)]; kernel_rfl) | (rw [if_neg (by decide +kernel)]; exact ⟨rfl, rfl⟩))
    (fun os started H enc _ => lifted os started H enc)
theorem proved : Rows.MountNilSaid := over
#print axioms proved
end Go.Proofs.Ytkncmbbkehnagaa.mountNil
namespace Go.Proofs.Ytkncmbbkehnagaa
/-- The row, under a short name, for the claim. -/
theorem mountNil_holds : Rows.MountNilSaid := mountNil.proved
end Go.Proofs.Ytkncmbbkehnagaa

