/-
  The row of the law ChipPlays: whatever the arguments that can be read as data, the call returns true and leaves memory as it was.
  Written by this session's rowgen.py over the walk's theorem.
-/
import Derived.Test.YtloldgiggnhemaaRows
import Derived.Test.YtloldgiggnhemaaOpens
import Derived.Test.YtloldgiggnhemaaRb
import Derived.WalkKit
import Derived.ProofKit
import Derived.OpenShut
import Derived.ShutString
import Derived.ChangeOld
import Derived.Below
import Derived.SizedLaws
namespace Go.Proofs.Ytloldgiggnhemaa.chipPlays
open Go.ChangeShapes Go.WideShapes Go.ChangeAt Go.RowKit Go.Proofs.Ytloldgiggnhemaa.Opens Go.Proofs.YtloldgiggnhemaaW.PrintWords
open Go.Proofs.Ytloldgiggnhemaa.Cm
open Go.ChangeMaps (open_string shut_string)
set_option linter.unusedVariables false
theorem own : ownKnob Try.prog.godebug = none := by kernel_rfl
theorem laidOut : laidOutB Try.prog = true := by kernel_rfl
def ok3 : Int → Prop := fun n => (Lit.int .i64 n).wf = true
theorem op3 : Opens Try.prog 3 (Kd.int .i64) ok3 := opens_int Try.underlying3 (by kernel_rfl)
def ok42 : (List Int) → Prop := fun xs => xs.length ≤ maxLen ∧ ∀ x ∈ xs, ok3 x
theorem op42 : Opens Try.prog 42 (Kd.slice 3 (Kd.int .i64)) ok42 := opens_slice op3 Try.underlying42 (by kernel_rfl)
def ok29 : S29 → Prop := fun x => ok3 x.f0 ∧ ok3 x.f1
theorem op29 : Opens Try.prog 29 k29 ok29 := opens_iso (fun x : S29 => (x.f0, x.f1)) (fun y => ⟨y.1, y.2⟩) (fun _ => rfl) (opens_struct Try.underlying29 (by kernel_rfl) (opensF_cons op3 rfl (opensF_one op3 rfl)))
def ok5 : Int → Prop := fun n => (Lit.int .u8 n).wf = true
theorem op5 : Opens Try.prog 5 (Kd.int .u8) ok5 := opens_int Try.underlying5 (by kernel_rfl)
def ok22 : (List Int) → Prop := fun xs => xs.length ≤ maxLen ∧ ∀ x ∈ xs, ok5 x
theorem op22 : Opens Try.prog 22 (Kd.slice 5 (Kd.int .u8)) ok22 := opens_slice op5 Try.underlying22 (by kernel_rfl)
def ok52 : S52 → Prop := fun x => ok3 x.f0 ∧ ok3 x.f1 ∧ ok3 x.f2 ∧ ok29 x.f3 ∧ ok22 x.f4
theorem op52 : Opens Try.prog 52 k52 ok52 := opens_iso (fun x : S52 => (x.f0, x.f1, x.f2, x.f3, x.f4)) (fun y => ⟨y.1, y.2.1, y.2.2.1, y.2.2.2.1, y.2.2.2.2⟩) (fun _ => rfl) (opens_struct Try.underlying52 (by kernel_rfl) (opensF_cons op3 rfl (opensF_cons op3 rfl (opensF_cons op3 rfl (opensF_cons op29 rfl (opensF_one op22 rfl))))))
def ok49 : (List S52) → Prop := fun xs => xs.length ≤ maxLen ∧ ∀ x ∈ xs, ok52 x
theorem op49 : Opens Try.prog 49 (Kd.slice 52 k52) ok49 := opens_slice op52 Try.underlying49 (by kernel_rfl)
set_option maxRecDepth 100000 in
theorem lifted (os : Os) (started : os.Started) (H : Type) (enc : TypeId × Value → H) :
    ReturnsInHanded {} Try.checked os 8 .any (Rows.chipPlaysSpec.pre6 enc Try.prog Try.f8 Rows.chipPlaysRow.domain false) (Rows.chipPlaysSpec.post enc Try.prog Try.f8 false true false false) := by
  refine returnsInHanded_of_change_sized (C := Try.checked) own started (by kernel_rfl) Try.func8
    (ChangeSpec.witness6 (enc := enc) (C := Try.checked) false ⟨#[], #[.int .i64 0, .int .i64 0, .slice none 0 0, .slice none 0 0], []⟩ 8 (by kernel_rfl) (by kernel_rfl) (by kernel_rfl) (by kernel_rfl)) ?_
  intro W base args ds gs before hval0 hW hcnd hsz0 _
  have hval : ∀ (j : Nat) t v, Try.f8.params[j]? = some t → args[j]? = some v → Value.okWide Try.prog W .any base t v := hval0
  have hW' := hW
  obtain ⟨p, q, hA0, hV, rfl, hfz, hnd⟩ := hW
  have hA : DataW.TrodAll enc Try.prog W 0 (fun _ => true) true Try.f8.params.toList args.toList ds p := hA0
  rw [Try.params8] at hA hval
  obtain ⟨v0, vs0, d0, ds0, p0, q0, hargs, rfl, rfl, h0, r0⟩ := trodAll_cons hA
  obtain ⟨v1, vs1, d1, ds1, p1, q1, rfl, rfl, rfl, h1, r1⟩ := trodAll_cons r0
  obtain ⟨v2, vs2, d2, ds2, p2, q2, rfl, rfl, rfl, h2, r2⟩ := trodAll_cons r1
  obtain ⟨v3, vs3, d3, ds3, p3, q3, rfl, rfl, rfl, h3, r3⟩ := trodAll_cons r2
  obtain ⟨rfl, rfl, rfl⟩ := trodAll_nil r3
  obtain rfl : args = #[v0, v1, v2, v3] := by cases args; simp_all
  obtain ⟨rfl, rfl⟩ := trodVars_none hV
  obtain ⟨a0, rfl, rfl, rfl, w0⟩ := open_int Try.underlying3 (hval 0 3 v0 rfl rfl) h0
  obtain ⟨a1, rfl, rfl, rfl, w1⟩ := open_int Try.underlying3 (hval 1 3 v1 rfl rfl) h1
  have kk2 := h2
  have lt2 : ∀ x ∈ p2, x.block < W.heap.size := by obtain ⟨m, hm⟩ := kk2; exact DataW.trod_lt m _ _ _ hm
  obtain ⟨A2, c2, l2, rfl, hc2, hr2, hm2, hok2⟩ := open_slice_arg op3 Try.underlying42 (okWide_slice Try.underlying42 (hval 2 42 v2 rfl rfl)) h2
  have kk3 := h3
  have lt3 : ∀ x ∈ p3, x.block < W.heap.size := by obtain ⟨m, hm⟩ := kk3; exact DataW.trod_lt m _ _ _ hm
  obtain ⟨A3, c3, l3, rfl, hc3, hr3, hm3, hok3⟩ := open_slice_arg op52 Try.underlying49 (okWide_slice Try.underlying49 (hval 3 49 v3 rfl rfl)) h3
  clear hA0 hval0 hsz0
  refine (Go.Proofs.Ytloldgiggnhemaa.Cm.playsFinal W a0 w0 a1 w1 A2 c2 l2 hc2 hr2 hm2 hok2 A3 c3 l3 hc3 hr3 hm3 hok3).mono fun e W' ⟨he, bel⟩ => ?_
  subst he
  exact ⟨_, rfl, _, _, _, [], _, [], hW', trodAll_mk1 (shut_bool Try.underlying4 _), (trodAll_cons_mk (shut_int Try.underlying3 w0) (trodAll_cons_mk (shut_int Try.underlying3 w1) (trodAll_cons_mk (Below.trod laidOut (by kernel_rfl) (of_decide_eq_true (by kernel_rfl)) kk2 bel lt2) (trodAll_cons_mk (Below.trod laidOut (by kernel_rfl) (of_decide_eq_true (by kernel_rfl)) kk3 bel lt3) trodAll_mk0)))), rfl, bel.frame _, fun h => by cases h⟩
theorem over : Rows.chipPlaysRow.holds Try.pinned (OpenSpec.ofChange Rows.chipPlaysSpec) :=
  OpenClaim.holds_of_wide 8 Try.f8 rfl rfl rfl rfl rfl rfl rfl ⟨rfl, rfl, rfl, rfl, rfl⟩ rfl rfl rfl rfl rfl (by kernel_rfl) Try.func8 (by kernel_rfl)
    (of_decide_eq_true (by kernel_rfl)) (by unfold Func.isWrapper; first | (rw [if_pos (by decide +kernel)]; kernel_rfl) | (rw [if_neg (by decide +kernel)]; exact ⟨rfl, rfl⟩))
    (fun os started H enc _ => lifted os started H enc)
theorem proved : Rows.ChipPlaysSaid := over
#print axioms proved
end Go.Proofs.Ytloldgiggnhemaa.chipPlays
namespace Go.Proofs.Ytloldgiggnhemaa
/-- The row, under a short name, for the claim. -/
theorem chipPlays_holds : Rows.ChipPlaysSaid := chipPlays.proved
end Go.Proofs.Ytloldgiggnhemaa
