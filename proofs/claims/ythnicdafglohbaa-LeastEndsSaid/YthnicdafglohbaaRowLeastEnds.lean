/-
  The row of the law LeastEnds: whatever the arguments that can be read as data, the call returns true and leaves memory as it was.
  Written by this session's rowgen.py over the walk's theorem.
-/
import Derived.Test.YthnicdafglohbaaRows
import Derived.Test.YthnicdafglohbaaOpens
import Derived.Test.YthnicdafglohbaaEn
import Derived.WalkKit
import Derived.ProofKit
import Derived.OpenShut
import Derived.ShutString
import Derived.ChangeOld
import Derived.Below
import Derived.SizedLaws
namespace Go.Proofs.Ythnicdafglohbaa.leastEnds
open Go.ChangeShapes Go.WideShapes Go.ChangeAt Go.RowKit Go.Proofs.Ythnicdafglohbaa.Opens Go.Proofs.YthnicdafglohbaaW.PrintWords
open Go.Proofs.Ythnicdafglohbaa.Lw
open Go.ChangeMaps (open_string shut_string)
set_option linter.unusedVariables false
theorem own : ownKnob Try.prog.godebug = none := by kernel_rfl
theorem laidOut : laidOutB Try.prog = true := by kernel_rfl
def ok3 : Int → Prop := fun n => (Lit.int .i64 n).wf = true
theorem op3 : Opens Try.prog 3 (Kd.int .i64) ok3 := opens_int Try.underlying3 (by kernel_rfl)
def ok22 : (List Int) → Prop := fun xs => xs.length ≤ maxLen ∧ ∀ x ∈ xs, ok3 x
theorem op22 : Opens Try.prog 22 (Kd.slice 3 (Kd.int .i64)) ok22 := opens_slice op3 Try.underlying22 (by kernel_rfl)
def ok9 : ByteArray → Prop := fun s => s.size ≤ maxLen
theorem op9 : Opens Try.prog 9 Kd.string ok9 := opens_string Try.underlying9 (by kernel_rfl)
def ok23 : (List ByteArray) → Prop := fun xs => xs.length ≤ maxLen ∧ ∀ x ∈ xs, ok9 x
theorem op23 : Opens Try.prog 23 (Kd.slice 9 Kd.string) ok23 := opens_slice op9 Try.underlying23 (by kernel_rfl)
set_option maxRecDepth 100000 in
theorem lifted (os : Os) (started : os.Started) (H : Type) (enc : TypeId × Value → H) :
    ReturnsInHanded {} Try.checked os 3 .any (Rows.leastEndsSpec.pre6 enc Try.prog Try.f3 Rows.leastEndsRow.domain false) (Rows.leastEndsSpec.post enc Try.prog Try.f3 false true false false) := by
  refine returnsInHanded_of_change_sized (C := Try.checked) own started (by kernel_rfl) Try.func3
    (ChangeSpec.witness6 (enc := enc) (C := Try.checked) false ⟨#[], #[.slice none 0 0, .slice none 0 0], []⟩ 8 (by kernel_rfl) (by kernel_rfl) (by kernel_rfl) (by kernel_rfl)) ?_
  intro W base args ds gs before hval0 hW hcnd hsz0 _
  have hval : ∀ (j : Nat) t v, Try.f3.params[j]? = some t → args[j]? = some v → Value.okWide Try.prog W .any base t v := hval0
  have hW' := hW
  obtain ⟨p, q, hA0, hV, rfl, hfz, hnd⟩ := hW
  have hA : DataW.TrodAll enc Try.prog W 0 (fun _ => true) true Try.f3.params.toList args.toList ds p := hA0
  rw [Try.params3] at hA hval
  obtain ⟨v0, vs0, d0, ds0, p0, q0, hargs, rfl, rfl, h0, r0⟩ := trodAll_cons hA
  obtain ⟨v1, vs1, d1, ds1, p1, q1, rfl, rfl, rfl, h1, r1⟩ := trodAll_cons r0
  obtain ⟨rfl, rfl, rfl⟩ := trodAll_nil r1
  obtain rfl : args = #[v0, v1] := by cases args; simp_all
  obtain ⟨rfl, rfl⟩ := trodVars_none hV
  have kk0 := h0
  have lt0 : ∀ x ∈ p0, x.block < W.heap.size := by obtain ⟨m, hm⟩ := kk0; exact DataW.trod_lt m _ _ _ hm
  obtain ⟨A0, c0, l0, rfl, hc0, hr0, hm0, hok0⟩ := open_slice_arg op3 Try.underlying22 (okWide_slice Try.underlying22 (hval 0 22 v0 rfl rfl)) h0
  have kk1 := h1
  have lt1 : ∀ x ∈ p1, x.block < W.heap.size := by obtain ⟨m, hm⟩ := kk1; exact DataW.trod_lt m _ _ _ hm
  obtain ⟨A1, c1, l1, rfl, hc1, hr1, hm1, hok1⟩ := open_slice_arg op9 Try.underlying23 (okWide_slice Try.underlying23 (hval 1 23 v1 rfl rfl)) h1
  clear hA0 hval0 hsz0
  refine (Go.Proofs.Ythnicdafglohbaa.Lw.endsFinal W A0 c0 l0 hc0 hr0 hm0 hok0 A1 c1 l1 hc1 hr1 hm1 hok1).mono fun e W' ⟨he, bel⟩ => ?_
  subst he
  exact ⟨_, rfl, _, _, _, [], _, [], hW', trodAll_mk1 (shut_bool Try.underlying4 _), (trodAll_cons_mk (Below.trod laidOut (by kernel_rfl) (of_decide_eq_true (by kernel_rfl)) kk0 bel lt0) (trodAll_cons_mk (Below.trod laidOut (by kernel_rfl) (of_decide_eq_true (by kernel_rfl)) kk1 bel lt1) trodAll_mk0)), rfl, bel.frame _, fun h => by cases h⟩
theorem over : Rows.leastEndsRow.holds Try.pinned (OpenSpec.ofChange Rows.leastEndsSpec) :=
  OpenClaim.holds_of_wide 3 Try.f3 rfl rfl rfl rfl rfl rfl rfl ⟨rfl, rfl, rfl, rfl, rfl⟩ rfl rfl rfl rfl rfl (by kernel_rfl) Try.func3 (by kernel_rfl)
    (of_decide_eq_true (by kernel_rfl)) (by unfold Func.isWrapper; first | (rw [if_pos (by decide +kernel)]; kernel_rfl) | (rw [if_neg (by decide +kernel)]; exact ⟨rfl, rfl⟩))
    (fun os started H enc _ => lifted os started H enc)
theorem proved : Rows.LeastEndsSaid := over
#print axioms proved
end Go.Proofs.Ythnicdafglohbaa.leastEnds
namespace Go.Proofs.Ythnicdafglohbaa
/-- The row, under a short name, for the claim. -/
theorem leastEnds_holds : Rows.LeastEndsSaid := leastEnds.proved
end Go.Proofs.Ythnicdafglohbaa
