/-  Most of a tally of numbers; a tally that there isn't: LeastNil returns true whatever the numbers.  -/
import Derived.Test.YthnicdafglohbaaAw
set_option linter.unusedVariables false
set_option linter.unusedSimpArgs false
namespace Go.Proofs.Ythnicdafglohbaa.Lw
open Go.RowKit Go.Maps Go.Sort Go.Lib Go.WideMaps Go.Proofs.YthnicdafglohbaaW.PrintWords Go.Proofs.YthnicdafglohbaaW.PrintLast Go.Proofs.YthnicdafglohbaaW.PrintMore
attribute [local go_sem] max2_int min2_int max_two min_two max_three min_three max_four min_four

theorem gtC (x y : Int) (W : World) : Calls Try.prog 31 #[.int .i64 x, .int .i64 y] W fun e w' => e = .returned (.bool (Li.gtI x y)) ∧ w' = W := by
  unfold Li.gtI
  go_enter Try.func31, Try.ntmps31
  go_wp2
  all_goals (go_ret; exact ⟨by simp_all, rfl⟩)
theorem mostI {w : World} {tb b n : Nat} {c : Int → Int} (h : Li.Tl w tb b c n) (hn : n ≤ 1000000) :
    Calls Try.prog 22 #[.pointer (some ⟨tb, 0, none⟩)] w fun e w' => ∃ ks, Li.KSet c ks ∧ e = .returned (.tuple #[(encZ (Li.bst Li.gtI c ks).1), .int .i64 (Li.bst Li.gtI c ks).2.1, .bool (Li.bst Li.gtI c ks).2.2]) ∧ Below w.heap.size w w' := by
  have hcc := Li.best h hn 31 Li.gtI gtC (enters_of Try.func31 (by kernel_rfl) rfl)
  clear h hn
  go_enter Try.func22, Try.ntmps22
  go_wp2_with fail
  refine hcc.mono ?_
  clear hcc
  rintro ev w1 ⟨ks, hs, rfl, hb⟩
  have HS := Aside0.mk hs
  have HB := Aside0.mk hb
  clear hs hb
  go_wp2_with fail
  go_ret3
  exact ⟨ks, HS.out, rfl, HB.out⟩
theorem leastNil (w : World) : Calls Try.prog 21 #[.pointer none] w fun e w' => e = .returned (.tuple #[.int .i64 0, .int .i64 0, .bool false]) ∧ Below w.heap.size w w' := by
  go_enter Try.func21, Try.ntmps21
  go_wp2_with fail
  refine (Li.bestNil w _).mono ?_
  rintro ev w1 ⟨rfl, hb⟩
  have HB := Aside0.mk hb
  clear hb
  go_wp2_with fail
  go_ret3
  exact ⟨rfl, HB.out⟩
theorem mostNil (w : World) : Calls Try.prog 22 #[.pointer none] w fun e w' => e = .returned (.tuple #[.int .i64 0, .int .i64 0, .bool false]) ∧ Below w.heap.size w w' := by
  go_enter Try.func22, Try.ntmps22
  go_wp2_with fail
  refine (Li.bestNil w _).mono ?_
  rintro ev w1 ⟨rfl, hb⟩
  have HB := Aside0.mk hb
  clear hb
  go_wp2_with fail
  go_ret3
  exact ⟨rfl, HB.out⟩
set_option maxHeartbeats 4000000 in
set_option maxRecDepth 100000 in
theorem nilFinal (W : World) (a0 : Int) (w0 : (Lit.int .i64 a0).wf = true) (a1 : Int) (w1 : (Lit.int .i64 a1).wf = true) :
    Calls Try.prog 7 #[.int .i64 a0, .int .i64 a1] W fun e W' => e = .returned (.bool true) ∧ Below W.heap.size W W' := by
  go_enter Try.func7, Try.ntmps7
  go_wp2_with fail
  refine (leastNil W).mono ?_
  rintro ev w1 ⟨rfl, hb⟩
  have HB1 := Aside0.mk hb
  clear hb
  go_wp2_with fail
  refine (mostNil w1).mono ?_
  rintro ev w2 ⟨rfl, hb⟩
  have HB2 := Aside0.mk (below_step HB1.out hb)
  clear hb HB1
  go_wp2_with fail
  refine (Li.addNil w2 a0 a1).mono ?_
  rintro ev w3 ⟨rfl, hw⟩
  rw [hw]
  clear hw w3
  go_wp2_with fail
  refine (Li.ofNil w2 a0).mono ?_
  rintro ev w3 ⟨rfl, hw⟩
  rw [hw]
  clear hw w3
  go_wp2_with fail
  refine (Li.keysNil w2).mono ?_
  rintro ev w3 ⟨rfl, hb⟩
  have HB3 := Aside0.mk (below_step HB2.out hb)
  clear hb HB2
  go_wp2_with fail
  refine (awake w3).mono ?_
  rintro ev w4 ⟨rfl, hb⟩
  have HB4 := Aside0.mk (below_step HB3.out hb)
  clear hb HB3
  go_wp2_with fail
  go_ret
  exact ⟨rfl, HB4.out⟩
end Go.Proofs.Ythnicdafglohbaa.Lw
