import Derived.Test.YtnfkegeboelaeaaAw
set_option linter.unusedVariables false
set_option linter.unusedSimpArgs false
/-! BytesNil: always true. -/
namespace Go.Proofs.Ytnfkegeboelaeaa.NilLaw
open Go.RowKit Go.Proofs.YtnfkegeboelaeaaW.PrintWords Go.Proofs.YtnfkegeboelaeaaW.PrintLast Go.Proofs.YtnfkegeboelaeaaW.PrintMore Go.Proofs.Ytnfkegeboelaeaa.PAll Go.Proofs.Ytnfkegeboelaeaa.Rdr
attribute [local go_sem] max2_int min2_int max_two min_two max_three min_three max_four min_four

set_option maxHeartbeats 4000000 in
set_option maxRecDepth 100000 in
theorem final (W : World) (a0 : Int) (w0 : (Lit.int .i64 a0).wf = true) : Calls Try.prog 6 #[.int .i64 a0] W fun e w' => e = .returned (.bool true) ∧ Below W.heap.size W w' := by
  clear w0
  go_enter Try.func6, Try.ntmps6
  go_wp2_with (first | (go_at_call 15; refine (numberNil _ a0).mono ?_; rintro e w1 ⟨rfl, hb⟩; have HB1 := Aside0.mk hb; clear hb) | (go_at_call 17; refine (textNil _ a0).mono ?_; rintro e w2 ⟨rfl, hb⟩; have HB2 := Aside0.mk (below_step HB1.out hb); clear hb) | (go_at_call 19; refine (leftNil _).mono ?_; rintro e w3 ⟨rfl, hb⟩; have HB3 := Aside0.mk (below_step HB2.out hb); clear hb) | (go_at_call 20; refine (errNil _).mono ?_; rintro e w4 ⟨rfl, hb⟩; have HB4 := Aside0.mk (below_step HB3.out hb); clear hb) | (go_at_call 9; refine (Aw.awake _).mono ?_; rintro e w5 ⟨rfl, hb⟩; have HB5 := Aside0.mk (below_step HB4.out hb); clear hb))
  go_ret
  exact ⟨rfl, HB5.out⟩
end Go.Proofs.Ytnfkegeboelaeaa.NilLaw
