import Derived.Test.YtnfkegeboelaeaaOne
import Derived.Test.YtnfkegeboelaeaaOneP
set_option linter.unusedVariables false
set_option linter.unusedSimpArgs false
/-! BytesOne: always true. -/
namespace Go.Proofs.Ytnfkegeboelaeaa.OneF
open Go.RowKit Go.Proofs.YtnfkegeboelaeaaW.PrintWords Go.Proofs.YtnfkegeboelaeaaW.PrintLast Go.Proofs.YtnfkegeboelaeaaW.PrintMore Go.Proofs.Ytnfkegeboelaeaa.PAll Go.Proofs.Ytnfkegeboelaeaa.Pl1 Go.Proofs.Ytnfkegeboelaeaa.Pl2 Go.Proofs.Ytnfkegeboelaeaa.St Go.Proofs.Ytnfkegeboelaeaa.Bounds
theorem final (W : World) (A0 : Option Addr) (c0 : Nat) (l0 : List Int) (hc0 : l0.length ≤ c0) (hr0 : Kd.C (Kd.int .u8) W A0 l0.length l0) (hm0 : l0.length ≤ maxLen) (hok0 : ∀ x ∈ l0, (Lit.int .u8 x).wf = true)
    (a1 : Int) (w1 : (Lit.int .i64 a1).wf = true) (a2 : Int) (w2 : (Lit.int .i64 a2).wf = true) :
    Calls Try.prog 7 #[.slice A0 l0.length c0, .int .i64 a1, .int .i64 a2] W fun e w' => e = .returned (.bool true) ∧ Below W.heap.size W w' := by
  by_cases hl : 20 < l0.length
  · exact One.long W A0 c0 l0 a1 a2 hl
  · have hf : Fine l0 := ⟨bytes_of hok0, by omega⟩
    obtain ⟨n, hn, hn2⟩ := small a1 1099511627776 (by decide) (by decide)
    obtain ⟨m, hm, hm2⟩ := small a2 1099511627776 (by decide) (by decide)
    obtain ⟨k1, e1⟩ := number_ev [] (by simp) (n : Int)
    obtain ⟨k2, e2⟩ := number_ev [] (by simp) (m : Int)
    have f1 := e1 (k1 + k2) (by omega)
    have f2 := e2 (k1 + k2) (by omega)
    simp only [clamp_of n (show n ≤ 1099511627776 by omega), clamp_of m (show m ≤ 1099511627776 by omega), List.nil_append] at f1 f2
    obtain ⟨v, l', e', hst⟩ : ∃ v l' e', numStep l0 0 1099511627776 = (v, l', e') := ⟨_, _, _, rfl⟩
    exact One.walk W A0 c0 l0 a1 a2 (by omega) hr0 hc0 hf n m hn hm (code n) (code m) (k1 + k2) f1 f2 (OneP.hcmp n m (by omega) (by omega)) v e' l' hst (OneP.hend hf hst)
end Go.Proofs.Ytnfkegeboelaeaa.OneF
