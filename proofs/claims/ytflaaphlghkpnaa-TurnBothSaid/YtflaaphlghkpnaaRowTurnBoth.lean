/-
  The row of the law TurnBoth: whatever the arguments that can be read as data, the call returns true and leaves memory as it was.
  Written by this session's rowgen.py over the walk's theorem.
-/
import Derived.Test.YtflaaphlghkpnaaRows
import Derived.Test.YtflaaphlghkpnaaOpens
import Derived.Test.YtflaaphlghkpnaaBothLaw
import Derived.WalkKit
import Derived.ProofKit
import Derived.OpenShut
import Derived.ShutString
import Derived.ChangeOld
import Derived.Below
import Derived.SizedLaws
namespace Go.Proofs.Ytflaaphlghkpnaa.turnBoth
open Go.ChangeShapes Go.WideShapes Go.ChangeAt Go.RowKit Go.Proofs.Ytflaaphlghkpnaa.Opens Go.Proofs.YtflaaphlghkpnaaW.PrintWords
open Go.Proofs.Ytflaaphlghkpnaa.BothLaw
open Go.ChangeMaps (open_string shut_string)
set_option linter.unusedVariables false
theorem own : ownKnob Try.prog.godebug = none := by kernel_rfl
theorem laidOut : laidOutB Try.prog = true := by kernel_rfl
def ok4 : Bool → Prop := fun _ => True
theorem op4 : Opens Try.prog 4 Kd.bool ok4 := opens_bool Try.underlying4 (by kernel_rfl)
def ok34 : (List Bool) → Prop := fun xs => xs.length ≤ maxLen ∧ ∀ x ∈ xs, ok4 x
theorem op34 : Opens Try.prog 34 (Kd.slice 4 Kd.bool) ok34 := opens_slice op4 Try.underlying34 (by kernel_rfl)
set_option maxRecDepth 100000 in
theorem lifted (os : Os) (started : os.Started) (H : Type) (enc : TypeId × Value → H) :
    ReturnsInHanded {} Try.checked os 10 .any (Rows.turnBothSpec.pre6 enc Try.prog Try.f10 Rows.turnBothRow.domain false) (Rows.turnBothSpec.post enc Try.prog Try.f10 false true false false) := by
  refine returnsInHanded_of_change_sized (C := Try.checked) own started (by kernel_rfl) Try.func10
    (ChangeSpec.witness6 (enc := enc) (C := Try.checked) false ⟨#[], #[.slice none 0 0], []⟩ 8 (by kernel_rfl) (by kernel_rfl) (by kernel_rfl) (by kernel_rfl)) ?_
  intro W base args ds gs before hval0 hW hcnd hsz0 _
  have hval : ∀ (j : Nat) t v, Try.f10.params[j]? = some t → args[j]? = some v → Value.okWide Try.prog W .any base t v := hval0
  have hW' := hW
  obtain ⟨p, q, hA0, hV, rfl, hfz, hnd⟩ := hW
  have hA : DataW.TrodAll enc Try.prog W 0 (fun _ => true) true Try.f10.params.toList args.toList ds p := hA0
  rw [Try.params10] at hA hval
  obtain ⟨v0, vs0, d0, ds0, p0, q0, hargs, rfl, rfl, h0, r0⟩ := trodAll_cons hA
  obtain ⟨rfl, rfl, rfl⟩ := trodAll_nil r0
  obtain rfl : args = #[v0] := by cases args; simp_all
  obtain ⟨rfl, rfl⟩ := trodVars_none hV
  have kk0 := h0
  have lt0 : ∀ x ∈ p0, x.block < W.heap.size := by obtain ⟨m, hm⟩ := kk0; exact DataW.trod_lt m _ _ _ hm
  obtain ⟨A0, c0, l0, rfl, hc0, hr0, hm0, hok0⟩ := open_slice_arg op4 Try.underlying34 (okWide_slice Try.underlying34 (hval 0 34 v0 rfl rfl)) h0
  clear hA0 hval0 hsz0
  refine (final W A0 c0 l0 hc0 hr0 hm0 hok0).mono fun e W' ⟨he, bel⟩ => ?_
  subst he
  exact ⟨_, rfl, _, _, _, [], _, [], hW', trodAll_mk1 (shut_bool Try.underlying4 _), (trodAll_cons_mk (Below.trod laidOut (by kernel_rfl) (of_decide_eq_true (by kernel_rfl)) kk0 bel lt0) trodAll_mk0), rfl, bel.frame _, fun h => by cases h⟩
theorem over : Rows.turnBothRow.holds Try.pinned (OpenSpec.ofChange Rows.turnBothSpec) :=
  OpenClaim.holds_of_wide 10 Try.f10 rfl rfl rfl rfl rfl rfl rfl ⟨rfl, rfl, rfl, rfl, rfl⟩ rfl rfl rfl rfl rfl (by kernel_rfl) Try.func10 (by kernel_rfl)
    (of_decide_eq_true (by kernel_rfl)) (by unfold Func.isWrapper; first | (rw [if_pos (by decide +kernel)]; kernel_rfl) | (rw [if_neg (by decide +kernel)]; exact ⟨rfl, rfl⟩))
    (fun os started H enc _ => lifted os started H enc)
theorem proved : Rows.TurnBothSaid := over
#print axioms proved
end Go.Proofs.Ytflaaphlghkpnaa.turnBoth
namespace Go.Proofs.Ytflaaphlghkpnaa
/-- The row, under a short name, for the claim. -/
theorem turnBoth_holds : Rows.TurnBothSaid := turnBoth.proved
end Go.Proofs.Ytflaaphlghkpnaa
