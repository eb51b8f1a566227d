/-
  The row of the law BlockChip: whatever the arguments that can be read as data, the call returns true and leaves memory as it was.
  Written by this session's rowgen.py over the walk's theorem.
-/
import Derived.Test.YtloldgiggnhemaaRows
import Derived.Test.YtloldgiggnhemaaOpens
import Derived.Test.YtloldgiggnhemaaCw
import Derived.WalkKit
import Derived.ProofKit
import Derived.OpenShut
import Derived.ShutString
import Derived.ChangeOld
import Derived.Below
import Derived.SizedLaws
namespace Go.Proofs.Ytloldgiggnhemaa.blockChip
open Go.ChangeShapes Go.WideShapes Go.ChangeAt Go.RowKit Go.Proofs.Ytloldgiggnhemaa.Opens Go.Proofs.YtloldgiggnhemaaW.PrintWords
open Go.Proofs.Ytloldgiggnhemaa.Cm
open Go.ChangeMaps (open_string shut_string)
set_option linter.unusedVariables false
theorem own : ownKnob Try.prog.godebug = none := by kernel_rfl
theorem laidOut : laidOutB Try.prog = true := by kernel_rfl
def ok3 : Int → Prop := fun n => (Lit.int .i64 n).wf = true
theorem op3 : Opens Try.prog 3 (Kd.int .i64) ok3 := opens_int Try.underlying3 (by kernel_rfl)
def ok42 : (List Int) → Prop := fun xs => xs.length ≤ maxLen ∧ ∀ x ∈ xs, ok3 x
theorem op42 : Opens Try.prog 42 (Kd.slice 3 (Kd.int .i64)) ok42 := opens_slice op3 Try.underlying42 (by kernel_rfl)
set_option maxRecDepth 100000 in
theorem lifted (os : Os) (started : os.Started) (H : Type) (enc : TypeId × Value → H) :
    ReturnsInHanded {} Try.checked os 10 .any (Rows.blockChipSpec.pre6 enc Try.prog Try.f10 Rows.blockChipRow.domain false) (Rows.blockChipSpec.post enc Try.prog Try.f10 false true false false) := by
  refine returnsInHanded_of_change_sized (C := Try.checked) own started (by kernel_rfl) Try.func10
    (ChangeSpec.witness6 (enc := enc) (C := Try.checked) false ⟨#[], #[.slice none 0 0, .int .i64 0], []⟩ 8 (by kernel_rfl) (by kernel_rfl) (by kernel_rfl) (by kernel_rfl)) ?_
  intro W base args ds gs before hval0 hW hcnd hsz0 _
  have hval : ∀ (j : Nat) t v, Try.f10.params[j]? = some t → args[j]? = some v → Value.okWide Try.prog W .any base t v := hval0
  have hW' := hW
  obtain ⟨p, q, hA0, hV, rfl, hfz, hnd⟩ := hW
  have hA : DataW.TrodAll enc Try.prog W 0 (fun _ => true) true Try.f10.params.toList args.toList ds p := hA0
  rw [Try.params10] at hA hval
  obtain ⟨v0, vs0, d0, ds0, p0, q0, hargs, rfl, rfl, h0, r0⟩ := trodAll_cons hA
  obtain ⟨v1, vs1, d1, ds1, p1, q1, rfl, rfl, rfl, h1, r1⟩ := trodAll_cons r0
  obtain ⟨rfl, rfl, rfl⟩ := trodAll_nil r1
  obtain rfl : args = #[v0, v1] := by cases args; simp_all
  obtain ⟨rfl, rfl⟩ := trodVars_none hV
  have kk0 := h0
  have lt0 : ∀ x ∈ p0, x.block < W.heap.size := by obtain ⟨m, hm⟩ := kk0; exact DataW.trod_lt m _ _ _ hm
  obtain ⟨A0, c0, l0, rfl, hc0, hr0, hm0, hok0⟩ := open_slice_arg op3 Try.underlying42 (okWide_slice Try.underlying42 (hval 0 42 v0 rfl rfl)) h0
  obtain ⟨a1, rfl, rfl, rfl, w1⟩ := open_int Try.underlying3 (hval 1 3 v1 rfl rfl) h1
  clear hA0 hval0 hsz0
  refine (Go.Proofs.Ytloldgiggnhemaa.Cm.blockChipFinal W A0 c0 l0 hc0 hr0 hm0 hok0 a1 w1).mono fun e W' ⟨he, bel⟩ => ?_
  subst he
  exact ⟨_, rfl, _, _, _, [], _, [], hW', trodAll_mk1 (shut_bool Try.underlying4 _), (trodAll_cons_mk (Below.trod laidOut (by kernel_rfl) (of_decide_eq_true (by kernel_rfl)) kk0 bel lt0) (trodAll_cons_mk (shut_int Try.underlying3 w1) trodAll_mk0)), rfl, bel.frame _, fun h => by cases h⟩
theorem over : Rows.blockChipRow.holds Try.pinned (OpenSpec.ofChange Rows.blockChipSpec) :=
  OpenClaim.holds_of_wide 10 Try.f10 rfl rfl rfl rfl rfl rfl rfl ⟨rfl, rfl, rfl, rfl, rfl⟩ rfl rfl rfl rfl rfl (by kernel_rfl) Try.func10 (by kernel_rfl)
    (of_decide_eq_true (by kernel_rfl)) (by unfold Func.isWrapper; first | (rw [if_pos (by decide +kernel)]; kernel_rfl) | (rw [if_neg (by decide +kernel)]; exact ⟨rfl, rfl⟩))
    (fun os started H enc _ => lifted os started H enc)
theorem proved : Rows.BlockChipSaid := over
#print axioms proved
end Go.Proofs.Ytloldgiggnhemaa.blockChip
namespace Go.Proofs.Ytloldgiggnhemaa
/-- The row, under a short name, for the claim. -/
theorem blockChip_holds : Rows.BlockChipSaid := blockChip.proved
end Go.Proofs.Ytloldgiggnhemaa
