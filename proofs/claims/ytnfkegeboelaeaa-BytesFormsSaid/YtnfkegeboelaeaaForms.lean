import Derived.Test.YtnfkegeboelaeaaG4
import Derived.Test.YtnfkegeboelaeaaPl1
set_option linter.unusedVariables false
set_option linter.unusedSimpArgs false
/-! BytesForms: always true. -/
namespace Go.Proofs.Ytnfkegeboelaeaa.Forms
open Go.RowKit Go.Proofs.YtnfkegeboelaeaaW.PrintWords Go.Proofs.YtnfkegeboelaeaaW.PrintLast Go.Proofs.YtnfkegeboelaeaaW.PrintMore Go.Proofs.Ytnfkegeboelaeaa.PAll Go.Proofs.Ytnfkegeboelaeaa.Pl1

theorem pure (l0 : List Int) (a1 : Int) (l2 : List Int) : Ev (fun k => potsherdlaw3_BytesForms.f k l0 a1 l2) true := by
  have hawake : ∀ b, b = true → Ev (fun k => potsherdlaw3_BytesForms.j0 k l0 a1 l2 b) true := fun b hb => by
    subst hb
    refine Ev.step (f := fun _ => some true) (fun k => ?_) (Ev.now _)
    simp only [potsherdlaw3_BytesForms.j0]
    rw [if_pos trivial]
    rfl
  by_cases g0 : (l0.length : Int) > 500
  · exact Ev.congr (fun k => by unfold potsherdlaw3_BytesForms.f; rw [if_pos g0]) (hawake _ rfl)
  refine Ev.congr (fun k => by unfold potsherdlaw3_BytesForms.f; rw [if_neg g0]) ?_
  by_cases g1 : (l2.length : Int) > 500
  · exact hawake _ (by simpa using g1)
  have n1 := number_ev l0 (by omega) a1
  have n2 := put_ev l0 (by omega) a1
  have t1 := text_ev l0 l2 (by omega) (by omega)
  have t2 := putText_ev l0 l2 (by omega) (by omega)
  refine Ev.step (f := fun k => (bytes_Number.f k l0 a1).bind fun t148 => ((potsherdref3_PutNumber.f k l0 a1).bind fun t157 => (if (strOfNums t148).toList = (strOfNums t157).toList then ((bytes_Text.f k l0 l2).bind fun t160 => ((potsherdref3_PutText.f k l0 l2).bind fun t169 => (if (strOfNums t160).toList = (strOfNums t169).toList then some true else some false))) else some false))) (fun k => ?_) ?_
  · simp only [potsherdlaw3_BytesForms.j0]
    rw [if_neg (by simpa using g1)]
    congr 1
    funext t
    simp only [Option.bind_some, List.nil_append, List.length_nil]
    rw [if_pos (by omega)]
    congr 1
    funext t'
    split
    · congr 1
      funext q
      rw [if_pos (by omega)]
      rfl
    · rfl
  · refine Ev.bind n1 (Ev.bind n2 (Ev.congr (fun k => by rw [if_pos rfl]) ?_))
    exact Ev.bind t1 (Ev.bind t2 (Ev.congr (fun k => by rw [if_pos rfl]) (Ev.now _)))
theorem final (W : World) (A0 : Option Addr) (c0 : Nat) (l0 : List Int) (hc0 : l0.length ≤ c0) (hr0 : Kd.C (Kd.int .u8) W A0 l0.length l0) (hm0 : l0.length ≤ maxLen) (hok0 : ∀ x ∈ l0, (Lit.int .u8 x).wf = true) (a1 : Int) (w1 : (Lit.int .i64 a1).wf = true)
    (A2 : Option Addr) (c2 : Nat) (l2 : List Int) (hc2 : l2.length ≤ c2) (hr2 : Kd.C (Kd.int .u8) W A2 l2.length l2) (hm2 : l2.length ≤ maxLen) (hok2 : ∀ x ∈ l2, (Lit.int .u8 x).wf = true) :
    Calls Try.prog 3 #[.slice A0 l0.length c0, .int .i64 a1, .slice A2 l2.length c2] W fun e w' => e = .returned (.bool true) ∧ Below W.heap.size W w' := by
  obtain ⟨k, hk⟩ := (pure l0 a1 l2).rounds
  exact potsherdlaw3_BytesForms.calls k A0 c0 l0 a1 A2 c2 l2 true W hr0 hc0 hr2 hc2 rfl hk
end Go.Proofs.Ytnfkegeboelaeaa.Forms
