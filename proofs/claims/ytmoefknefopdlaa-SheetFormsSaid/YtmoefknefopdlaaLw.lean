import Derived.Test.YtmoefknefopdlaaLt
import Derived.Test.YtmoefknefopdlaaParseR
import Derived.Test.YtmoefknefopdlaaAw
set_option linter.unusedVariables false
set_option linter.unusedSimpArgs false
/-! What the laws' walks share. -/
namespace Go.Proofs.Ytmoefknefopdlaa.Lw
open Go.RowKit Go.Proofs.YtmoefknefopdlaaW.PrintWords Go.Proofs.YtmoefknefopdlaaW.PrintLast Go.Proofs.YtmoefknefopdlaaW.PrintMore Go.Proofs.Ytmoefknefopdlaa.PAll Go.Proofs.Ytmoefknefopdlaa.Pl1 Go.Proofs.Ytmoefknefopdlaa.Pl2 Go.Proofs.Ytmoefknefopdlaa.St Go.Proofs.Ytmoefknefopdlaa.Sp Go.Proofs.Ytmoefknefopdlaa.Bd Go.Proofs.Ytmoefknefopdlaa.Lt Go.Proofs.Ytmoefknefopdlaa.Rdr Go.Proofs.Ytmoefknefopdlaa.Parse
attribute [local go_sem] max2_int min2_int max_two min_two max_three min_three max_four min_four
/-- The world is W and what was made since; s's box stands. -/
def Inv (W : World) (sb : Nat) (p q : Int) (v : Value) (w : World) : Prop := Below W.heap.size W w ∧ w.heap[sb]? = some (.cells #[.int .i64 p, .int .i64 q, v] 24 (0, 0))
theorem Inv.step {W w w' : World} {sb : Nat} {p q : Int} {v : Value} (h : Inv W sb p q v w) (hb : Below w.heap.size w w') : Inv W sb p q v w' := ⟨below_step h.1 hb, (hb.block sb (blk_lt h.2)).trans h.2⟩
theorem Inv.C {W w : World} {sb : Nat} {p q : Int} {v : Value} (h : Inv W sb p q v w) {A : Option Addr} {d : List Int} (hC : Kd.C (Kd.int .u8) W A d.length d) : Kd.C (Kd.int .u8) w A d.length d := Kd.C_below hC h.1
theorem empty_R (w : World) : Kd.R (Kd.int .u8) 5 (w.alloc (.cells #[] 5)) w.heap.size (fun _ => True) (.slice (some ⟨w.heap.size, 0, none⟩) 0 0) ([] : List Int) :=
  Kd.R_of_own (by simpa [nums, encs] using own_lit w w.heap.size 5 .u8 [] (Nat.le_refl _) (by simp)) (fun _ _ => trivial)
theorem same_self (p q : Int) (d : List Int) : potsherdref3_SameSheet.f p q d p q d = some true := by
  unfold potsherdref3_SameSheet.f
  rw [if_pos rfl, if_pos rfl, beq_self_eq_true]
theorem parse_some {l : List Int} (hb : Bytes l) (hl : l.length ≤ 1000000) {r : Int × Int × List Int × Int} (h : parseL l = r) : sheet_Parse.f l = some r := by
  unfold sheet_Parse.f
  rw [if_pos ⟨hb, hl⟩, h]
theorem cut_at (a : Int) (B : Nat) (h : 0 < B) (hB : B ≤ 1000000) : ∃ q : Nat, wrap64 (Int.tmod (IntKind.u64.wrap a) (B : Int)) = (q : Int) ∧ q < B ∧ IntKind.u64.wrap (B : Int) = (B : Int) ∧ ((B : Int) == 0) = false := by
  obtain ⟨q, h1, h2⟩ := small a (B : Int) (by omega) (by omega)
  refine ⟨q, h1, by omega, ?_, ?_⟩
  · rw [IntKind.wrap_u64]; exact Int.emod_eq_of_lt (by omega) (by omega)
  · rw [beq_eq_false_iff_ne]; omega
theorem agg_of {x : S24} {w : World} {cs : Array Value} (h : k24.K w x cs.toList) : ∃ A c, cs = #[.int .i64 x.f0, .int .i64 x.f1, .slice A x.f2.length c] ∧ x.f2.length ≤ c ∧ Kd.C (Kd.int .u8) w A x.f2.length x.f2 := by
  obtain ⟨A, c, e, hz, hC⟩ := k24_open h
  exact ⟨A, c, by rw [← Array.toArray_toList (xs := cs), e], hz, hC⟩
def Ok24 (x : S24) : Prop := (Lit.int .i64 x.f0).wf = true ∧ (Lit.int .i64 x.f1).wf = true ∧ (x.f2.length ≤ maxLen ∧ ∀ y ∈ x.f2, (Lit.int .u8 y).wf = true)
end Go.Proofs.Ytmoefknefopdlaa.Lw
