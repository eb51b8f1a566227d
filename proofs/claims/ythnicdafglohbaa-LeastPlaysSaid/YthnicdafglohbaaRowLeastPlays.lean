/-
  The row of the law LeastPlays: whatever the arguments that can be read as data, the call returns true and leaves memory as it was.
  Written by this session's rowgen.py over the walk's theorem.
-/
import Derived.Test.YthnicdafglohbaaRows
import Derived.Test.YthnicdafglohbaaOpens
import Derived.Test.YthnicdafglohbaaPl
import Derived.WalkKit
import Derived.ProofKit
import Derived.OpenShut
import Derived.ShutString
import Derived.ChangeOld
import Derived.Below
import Derived.SizedLaws
namespace Go.Proofs.Ythnicdafglohbaa.leastPlays
open Go.ChangeShapes Go.WideShapes Go.ChangeAt Go.RowKit Go.Proofs.Ythnicdafglohbaa.Opens Go.Proofs.YthnicdafglohbaaW.PrintWords
open Go.Proofs.Ythnicdafglohbaa.Lw
open Go.ChangeMaps (open_string shut_string)
set_option linter.unusedVariables false
theorem own : ownKnob Try.prog.godebug = none := by kernel_rfl
theorem laidOut : laidOutB Try.prog = true := by kernel_rfl
def ok3 : Int → Prop := fun n => (Lit.int .i64 n).wf = true
theorem op3 : Opens Try.prog 3 (Kd.int .i64) ok3 := opens_int Try.underlying3 (by kernel_rfl)
def ok33 : S33 → Prop := fun x => ok3 x.f0 ∧ ok3 x.f1
theorem op33 : Opens Try.prog 33 k33 ok33 := opens_iso (fun x : S33 => (x.f0, x.f1)) (fun y => ⟨y.1, y.2⟩) (fun _ => rfl) (opens_struct Try.underlying33 (by kernel_rfl) (opensF_cons op3 rfl (opensF_one op3 rfl)))
def ok28 : (List S33) → Prop := fun xs => xs.length ≤ maxLen ∧ ∀ x ∈ xs, ok33 x
theorem op28 : Opens Try.prog 28 (Kd.slice 33 k33) ok28 := opens_slice op33 Try.underlying28 (by kernel_rfl)
set_option maxRecDepth 100000 in
theorem lifted (os : Os) (started : os.Started) (H : Type) (enc : TypeId × Value → H) :
    ReturnsInHanded {} Try.checked os 6 .any (Rows.leastPlaysSpec.pre6 enc Try.prog Try.f6 Rows.leastPlaysRow.domain false) (Rows.leastPlaysSpec.post enc Try.prog Try.f6 false true false false) := by
  refine returnsInHanded_of_change_sized (C := Try.checked) own started (by kernel_rfl) Try.func6
    (ChangeSpec.witness6 (enc := enc) (C := Try.checked) false ⟨#[], #[.slice none 0 0], []⟩ 8 (by kernel_rfl) (by kernel_rfl) (by kernel_rfl) (by kernel_rfl)) ?_
  intro W base args ds gs before hval0 hW hcnd hsz0 _
  have hval : ∀ (j : Nat) t v, Try.f6.params[j]? = some t → args[j]? = some v → Value.okWide Try.prog W .any base t v := hval0
  have hW' := hW
  obtain ⟨p, q, hA0, hV, rfl, hfz, hnd⟩ := hW
  have hA : DataW.TrodAll enc Try.prog W 0 (fun _ => true) true Try.f6.params.toList args.toList ds p := hA0
  rw [Try.params6] at hA hval
  obtain ⟨v0, vs0, d0, ds0, p0, q0, hargs, rfl, rfl, h0, r0⟩ := trodAll_cons hA
  obtain ⟨rfl, rfl, rfl⟩ := trodAll_nil r0
  obtain rfl : args = #[v0] := by cases args; simp_all
  obtain ⟨rfl, rfl⟩ := trodVars_none hV
  have kk0 := h0
  have lt0 : ∀ x ∈ p0, x.block < W.heap.size := by obtain ⟨m, hm⟩ := kk0; exact DataW.trod_lt m _ _ _ hm
  obtain ⟨A0, c0, l0, rfl, hc0, hr0, hm0, hok0⟩ := open_slice_arg op33 Try.underlying28 (okWide_slice Try.underlying28 (hval 0 28 v0 rfl rfl)) h0
  clear hA0 hval0 hsz0
  refine (Go.Proofs.Ythnicdafglohbaa.Lw.playsFinal W A0 c0 l0 hc0 hr0 hm0 hok0).mono fun e W' ⟨he, bel⟩ => ?_
  subst he
  exact ⟨_, rfl, _, _, _, [], _, [], hW', trodAll_mk1 (shut_bool Try.underlying4 _), (trodAll_cons_mk (Below.trod laidOut (by kernel_rfl) (of_decide_eq_true (by kernel_rfl)) kk0 bel lt0) trodAll_mk0), rfl, bel.frame _, fun h => by cases h⟩
theorem over : Rows.leastPlaysRow.holds Try.pinned (OpenSpec.ofChange Rows.leastPlaysSpec) :=
  OpenClaim.holds_of_wide 6 Try.f6 rfl rfl rfl rfl rfl rfl rfl ⟨rfl, rfl, rfl, rfl, rfl⟩ rfl rfl rfl rfl rfl (by kernel_rfl) Try.func6 (by kernel_rfl)
    (of_decide_eq_true (by kernel_rfl)) (by unfold Func.isWrapper; first | (rw [if_pos (by decide +kernel)]; kernel_rfl) | (rw [if_neg (by decide +kernel)]; exact ⟨rfl, rfl⟩))
    (fun os started H enc _ => lifted os started H enc)
theorem proved : Rows.LeastPlaysSaid := over
#print axioms proved
end Go.Proofs.Ythnicdafglohbaa.leastPlays
namespace Go.Proofs.Ythnicdafglohbaa
/-- The row, under a short name, for the claim. -/
theorem leastPlays_holds : Rows.LeastPlaysSaid := leastPlays.proved
end Go.Proofs.Ythnicdafglohbaa
