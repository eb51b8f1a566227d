/-
  The row of the law BlockTurns: whatever the arguments that can be read as data, the call returns true and leaves memory as it was.
  Written by this session's rowgen.py over the walk's theorem.
-/
import Derived.Test.YtflaaphlghkpnaaRows
import Derived.Test.YtflaaphlghkpnaaOpens
import Derived.Test.YtflaaphlghkpnaaTurns2
import Derived.WalkKit
import Derived.ProofKit
import Derived.OpenShut
import Derived.ShutString
import Derived.ChangeOld
import Derived.Below
import Derived.SizedLaws
namespace Go.Proofs.Ytflaaphlghkpnaa.blockTurns
open Go.ChangeShapes Go.WideShapes Go.ChangeAt Go.RowKit Go.Proofs.Ytflaaphlghkpnaa.Opens Go.Proofs.YtflaaphlghkpnaaW.PrintWords
open Go.Proofs.Ytflaaphlghkpnaa.PBlockOne
open Go.ChangeMaps (open_string shut_string)
set_option linter.unusedVariables false
theorem own : ownKnob Try.prog.godebug = none := by kernel_rfl
theorem laidOut : laidOutB Try.prog = true := by kernel_rfl
def ok4 : Bool → Prop := fun _ => True
theorem op4 : Opens Try.prog 4 Kd.bool ok4 := opens_bool Try.underlying4 (by kernel_rfl)
def ok3 : Int → Prop := fun n => (Lit.int .i64 n).wf = true
theorem op3 : Opens Try.prog 3 (Kd.int .i64) ok3 := opens_int Try.underlying3 (by kernel_rfl)
def ok5 : Int → Prop := fun n => (Lit.int .u8 n).wf = true
theorem op5 : Opens Try.prog 5 (Kd.int .u8) ok5 := opens_int Try.underlying5 (by kernel_rfl)
def ok71 : (List Int) → Prop := fun xs => xs.length ≤ maxLen ∧ ∀ x ∈ xs, ok5 x
theorem op71 : Opens Try.prog 71 (Kd.slice 5 (Kd.int .u8)) ok71 := opens_slice op5 Try.underlying71 (by kernel_rfl)
def ok25 : (List (List Int)) → Prop := fun xs => xs.length ≤ maxLen ∧ ∀ x ∈ xs, ok71 x
theorem op25 : Opens Try.prog 25 (Kd.slice 71 (Kd.slice 5 (Kd.int .u8))) ok25 := opens_slice op71 Try.underlying25 (by kernel_rfl)
def ok27 : S27 → Prop := fun x => ok4 x.f0 ∧ ok3 x.f1 ∧ ok3 x.f2 ∧ ok25 x.f3
theorem op27 : Opens Try.prog 27 k27 ok27 := opens_iso (fun x : S27 => (x.f0, x.f1, x.f2, x.f3)) (fun y => ⟨y.1, y.2.1, y.2.2.1, y.2.2.2⟩) (fun _ => rfl) (opens_struct Try.underlying27 (by kernel_rfl) (opensF_cons op4 rfl (opensF_cons op3 rfl (opensF_cons op3 rfl (opensF_one op25 rfl)))))
def ok22 : (List S27) → Prop := fun xs => xs.length ≤ maxLen ∧ ∀ x ∈ xs, ok27 x
theorem op22 : Opens Try.prog 22 (Kd.slice 27 k27) ok22 := opens_slice op27 Try.underlying22 (by kernel_rfl)
set_option maxRecDepth 100000 in
theorem lifted (os : Os) (started : os.Started) (H : Type) (enc : TypeId × Value → H) :
    ReturnsInHanded {} Try.checked os 3 .any (Rows.blockTurnsSpec.pre6 enc Try.prog Try.f3 Rows.blockTurnsRow.domain false) (Rows.blockTurnsSpec.post enc Try.prog Try.f3 false true false false) := by
  refine returnsInHanded_of_change_sized (C := Try.checked) own started (by kernel_rfl) Try.func3
    (ChangeSpec.witness6 (enc := enc) (C := Try.checked) false ⟨#[], #[.slice none 0 0, .int .i64 0], []⟩ 8 (by kernel_rfl) (by kernel_rfl) (by kernel_rfl) (by kernel_rfl)) ?_
  intro W base args ds gs before hval0 hW hcnd hsz0 _
  have hval : ∀ (j : Nat) t v, Try.f3.params[j]? = some t → args[j]? = some v → Value.okWide Try.prog W .any base t v := hval0
  have hW' := hW
  obtain ⟨p, q, hA0, hV, rfl, hfz, hnd⟩ := hW
  have hA : DataW.TrodAll enc Try.prog W 0 (fun _ => true) true Try.f3.params.toList args.toList ds p := hA0
  rw [Try.params3] at hA hval
  obtain ⟨v0, vs0, d0, ds0, p0, q0, hargs, rfl, rfl, h0, r0⟩ := trodAll_cons hA
  obtain ⟨v1, vs1, d1, ds1, p1, q1, rfl, rfl, rfl, h1, r1⟩ := trodAll_cons r0
  obtain ⟨rfl, rfl, rfl⟩ := trodAll_nil r1
  obtain rfl : args = #[v0, v1] := by cases args; simp_all
  obtain ⟨rfl, rfl⟩ := trodVars_none hV
  have kk0 := h0
  have lt0 : ∀ x ∈ p0, x.block < W.heap.size := by obtain ⟨m, hm⟩ := kk0; exact DataW.trod_lt m _ _ _ hm
  obtain ⟨A0, c0, l0, rfl, hc0, hr0, hm0, hok0⟩ := open_slice_arg op27 Try.underlying22 (okWide_slice Try.underlying22 (hval 0 22 v0 rfl rfl)) h0
  obtain ⟨a1, rfl, rfl, rfl, w1⟩ := open_int Try.underlying3 (hval 1 3 v1 rfl rfl) h1
  clear hA0 hval0 hsz0
  refine (Go.Proofs.Ytflaaphlghkpnaa.Turns2.final W A0 c0 l0 hc0 hr0 hm0 hok0 a1 w1).mono fun e W' ⟨he, bel⟩ => ?_
  subst he
  exact ⟨_, rfl, _, _, _, [], _, [], hW', trodAll_mk1 (shut_bool Try.underlying4 _), (trodAll_cons_mk (Below.trod laidOut (by kernel_rfl) (of_decide_eq_true (by kernel_rfl)) kk0 bel lt0) (trodAll_cons_mk (shut_int Try.underlying3 w1) trodAll_mk0)), rfl, bel.frame _, fun h => by cases h⟩
theorem over : Rows.blockTurnsRow.holds Try.pinned (OpenSpec.ofChange Rows.blockTurnsSpec) :=
  OpenClaim.holds_of_wide 3 Try.f3 rfl rfl rfl rfl rfl rfl rfl ⟨rfl, rfl, rfl, rfl, rfl⟩ rfl rfl rfl rfl rfl (by kernel_rfl) Try.func3 (by kernel_rfl)
    (of_decide_eq_true (by kernel_rfl)) (by unfold Func.isWrapper; first | (rw [if_pos (by decide +kernel)]; kernel_rfl) | (rw [if_neg (by decide +kernel)]; exact ⟨rfl, rfl⟩))
    (fun os started H enc _ => lifted os started H enc)
theorem proved : Rows.BlockTurnsSaid := over
#print axioms proved
end Go.Proofs.Ytflaaphlghkpnaa.blockTurns
namespace Go.Proofs.Ytflaaphlghkpnaa
/-- The row, under a short name, for the claim. -/
theorem blockTurns_holds : Rows.BlockTurnsSaid := blockTurns.proved
end Go.Proofs.Ytflaaphlghkpnaa
