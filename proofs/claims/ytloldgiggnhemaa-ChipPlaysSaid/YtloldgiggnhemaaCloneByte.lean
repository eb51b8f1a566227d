/-
  slices.Clone at Byte: the same elements in new memory; nil of nil.
-/
import Derived.Test.YtloldgiggnhemaaWMore
import Derived.Test.YtloldgiggnhemaaWFoot
import Derived.WalkSpells
import Derived.Test.YtloldgiggnhemaaProg
import Derived.WalkKit
import Derived.KernelRfl
set_option linter.unusedVariables false
set_option linter.unusedSimpArgs false
namespace Go.Proofs.Ytloldgiggnhemaa.CloneByte
open Go.RowKit Go.Proofs.YtloldgiggnhemaaW.PrintWords Go.Proofs.YtloldgiggnhemaaW.PrintLast Go.Proofs.YtloldgiggnhemaaW.PrintMore

theorem infoE : (Try.prog.info? 5).map (fun i => (i.zero, i.size, i.bytes)) = some (some (.int .u8 0), 1, 1) := by kernel_rfl
theorem R_empty (W : World) (base : Nat) (h : base ≤ W.heap.size) : ((Kd.int .u8)).R 5 (W.alloc (.cells #[] 5)) base (fun _ => True) (.slice (some ⟨W.heap.size, 0, none⟩) 0 0) [] :=
  Kd.R_of_own (xs := []) ⟨by simp [encs], .inr ⟨W.heap.size, 0, #[], rfl, h, blk_new W _, Nat.le_refl _, Nat.zero_le _, by simp, by simp [encs]⟩⟩ (fun _ _ => trivial)

set_option maxHeartbeats 2000000 in
set_option maxRecDepth 100000 in
theorem calls (A : Option Addr) (c : Nat) (l : List Int) (w : World) (hr : Kd.C (Kd.int .u8) w A l.length l) (hc : l.length ≤ c) (hl : l.length * 1 ≤ 140737488355328) :
    Calls Try.prog 47 #[.slice A l.length c] w fun e w' => ∃ v : Value, e = .returned v ∧ Kd.R (Kd.int .u8) 5 w' w.heap.size (fun _ => True) v l ∧ Below w.heap.size w w' := by
  have hq := fun (W : World) => Lib.run_eql_slice_nil (P := Try.prog) W 22 5 A l.length c 0 0 Try.underlying22
  have HR := Aside0.mk hr
  have HL := Aside0.mk hl
  clear hr hc hl
  cases A with
  | none =>
    have hnil : l = [] := by
      cases l with
      | nil => rfl
      | cons x xs => obtain ⟨_, _, e⟩ := HR.out; obtain ⟨_, he, _⟩ := e (by simp); cases he
    subst hnil
    simp only [Option.isNone_none, List.length_nil] at hq
    go_enter Try.func47, Try.ntmps47
    go_wp2
    go_ret
    exact ⟨_, rfl, Kd.R_nil _ _ _ _ _, Below.refl _ _⟩
  | some ad =>
    simp only [Option.isNone_some] at hq
    go_enter Try.func47, Try.ntmps47
    go_wp2_with ((with_reducible refine gate_dst (N := 7) rfl ?_); refine Kd.R_append_row (h1 := fun _ => rfl) (Value.int .u8) (0 : Int) (w0 := w) w.heap.size rfl (.tmp 5) (.tmp 6) 22 5 (.int .u8 0) 1 rfl Try.underlying22 infoE rfl (by decide) (.slice (some ⟨w.heap.size, 0, none⟩) 0 0) [] l (some ad) l.length c (fun _ => True) rfl rfl (fun _ _ => trivial) (R_empty w _ (Nat.le_refl _)) (Kd.C_alloc HR.out _) (below_alloc (Below.refl _ _) _) (by simp) (by simpa using HL.out) ?_; intro v1 w1 ho hb hg hat; have HO := Aside0.mk ho; have HB := Aside0.mk hb; clear ho hb hg hat)
    go_ret
    have h1 := HO.out
    simp only [List.nil_append] at h1
    exact ⟨_, rfl, h1, HB.out⟩
end Go.Proofs.Ytloldgiggnhemaa.CloneByte
