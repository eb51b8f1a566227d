import Derived.Test.YtnfkegeboelaeaaBack
set_option linter.unusedVariables false
set_option linter.unusedSimpArgs false
/-! BytesBack: always true. -/
namespace Go.Proofs.Ytnfkegeboelaeaa.BackF
open Go.RowKit Go.Proofs.YtnfkegeboelaeaaW.PrintWords Go.Proofs.YtnfkegeboelaeaaW.PrintLast Go.Proofs.YtnfkegeboelaeaaW.PrintMore Go.Proofs.Ytnfkegeboelaeaa.PAll Go.Proofs.Ytnfkegeboelaeaa.Bounds
attribute [local go_sem] max2_int min2_int max_two min_two max_three min_three max_four min_four

set_option maxHeartbeats 4000000 in
set_option maxRecDepth 100000 in
theorem long (W : World) (A0 : Option Addr) (c0 : Nat) (n : List Int) (A1 : Option Addr) (c1 : Nat) (s : List (List Int)) (a2 : Int) (h : 30 < n.length ∨ 30 < s.length) : Calls Try.prog 5 #[.slice A0 n.length c0, .slice A1 s.length c1, .int .i64 a2] W fun e w' => e = .returned (.bool true) ∧ Below W.heap.size W w' := by
  by_cases h0 : 30 < n.length
  · have h1 : ((n.length : Int) > 30) := by omega
    clear h h0
    go_enter Try.func5, Try.ntmps5
    go_wp2_with (go_at_call 9; refine (Aw.awake _).mono ?_; rintro e w5 ⟨rfl, hb⟩; have HB5 := Aside0.mk hb; clear hb)
    go_ret
    exact ⟨rfl, HB5.out⟩
  · have h1 : ¬ ((n.length : Int) > 30) := by omega
    have h2 : ((s.length : Int) > 30) := by omega
    clear h h0
    go_enter Try.func5, Try.ntmps5
    go_wp2_with (go_at_call 9; refine (Aw.awake _).mono ?_; rintro e w5 ⟨rfl, hb⟩; have HB5 := Aside0.mk hb; clear hb)
    go_ret
    exact ⟨rfl, HB5.out⟩
theorem final (W : World) (A0 : Option Addr) (c0 : Nat) (l0 : List Int) (hc0 : l0.length ≤ c0) (hr0 : Kd.C (Kd.int .i64) W A0 l0.length l0) (hm0 : l0.length ≤ maxLen) (hok0 : ∀ x ∈ l0, (Lit.int .i64 x).wf = true)
    (A1 : Option Addr) (c1 : Nat) (l1 : List (List Int)) (hc1 : l1.length ≤ c1) (hr1 : Kd.C (Kd.slice 5 (Kd.int .u8)) W A1 l1.length l1) (hm1 : l1.length ≤ maxLen) (hok1 : ∀ x ∈ l1, x.length ≤ maxLen ∧ ∀ y ∈ x, (Lit.int .u8 y).wf = true) (a2 : Int) (w2 : (Lit.int .i64 a2).wf = true) :
    Calls Try.prog 5 #[.slice A0 l0.length c0, .slice A1 l1.length c1, .int .i64 a2] W fun e w' => e = .returned (.bool true) ∧ Below W.heap.size W w' := by
  by_cases h : 30 < l0.length ∨ 30 < l1.length
  · exact long W A0 c0 l0 A1 c1 l1 a2 h
  · exact Back.walk W A0 c0 l0 A1 c1 l1 a2 (by omega) (by omega) hr0 hr1 (fun t ht => bytes_of (hok1 t ht).2)
end Go.Proofs.Ytnfkegeboelaeaa.BackF
