import Derived.Test.YtmoefknefopdlaaG6
import Derived.Test.YtmoefknefopdlaaBd
set_option linter.unusedVariables false
set_option linter.unusedSimpArgs false
/-! SheetRaw, SheetNumbers: always true. -/
namespace Go.Proofs.Ytmoefknefopdlaa.RN
open Go.RowKit Go.Proofs.YtmoefknefopdlaaW.PrintWords Go.Proofs.Ytmoefknefopdlaa.PAll Go.Proofs.Ytmoefknefopdlaa.Pl1 Go.Proofs.Ytmoefknefopdlaa.Pl2 Go.Proofs.Ytmoefknefopdlaa.St Go.Proofs.Ytmoefknefopdlaa.Sp Go.Proofs.Ytmoefknefopdlaa.Bd

theorem same_self (p q : Int) (d : List Int) : potsherdref3_SameSheet.f p q d p q d = some true := by
  unfold potsherdref3_SameSheet.f
  rw [if_pos rfl, if_pos rfl, beq_self_eq_true]
theorem raw (l : List Int) (hb : Bytes l) : Ev (fun k => potsherdlaw5_SheetRaw.f k l) true := by
  by_cases h : (l.length : Int) > 3000
  · exact Ev.congr (fun k => by unfold potsherdlaw5_SheetRaw.f; rw [if_pos h]; rfl) (Ev.now _)
  have hp : sheet_Parse.f l = some (parseL l) := by unfold sheet_Parse.f; rw [if_pos ⟨hb, by omega⟩]
  refine Ev.congr (fun k => by unfold potsherdlaw5_SheetRaw.f; rw [if_neg h, hp, Option.bind_some]) ?_
  rcases parse_inv hb with e | ⟨p, q, d, e, hm, hl⟩
  · rw [e]
    refine Ev.congr (fun k => ?_) (Ev.now _)
    simp only
    rw [if_neg (by decide), if_pos trivial, same_self, Option.bind_some, if_pos rfl]
    rfl
  · rw [e]
    refine Ev.congr (fun k => by simp only; rw [if_pos trivial]) (Ev.bind (bytes_ev p q d) ?_)
    refine Ev.bind (may_ev p q d) ?_
    refine Ev.congr (fun k => ?_) (Ev.now _)
    unfold bytesL
    rw [if_pos hm, if_pos hm]
    simp only
    rw [if_pos trivial, if_pos (by rw [hl]), if_pos (by have := (mayB_iff.1 hm).2.2.2.2.2; rw [hl]; omega)]
    rfl
theorem rawFinal (W : World) (A0 : Option Addr) (c0 : Nat) (l0 : List Int) (hc0 : l0.length ≤ c0) (hr0 : Kd.C (Kd.int .u8) W A0 l0.length l0) (hm0 : l0.length ≤ maxLen) (hok0 : ∀ x ∈ l0, (Lit.int .u8 x).wf = true) :
    Calls Try.prog 5 #[.slice A0 l0.length c0] W fun e w' => e = .returned (.bool true) ∧ Below W.heap.size W w' := by
  obtain ⟨k, hk⟩ := (raw l0 (bytes_of hok0)).rounds
  exact potsherdlaw5_SheetRaw.calls k A0 c0 l0 true W hr0 hc0 hk
theorem num_some {n m : Nat} (hn : n < 12) (hm : m < 5) : sheet_Number.f (n : Int) (m : Int) = some (1 + (n : Int) * 5 + m) := by
  unfold sheet_Number.f
  rw [if_neg (by omega), if_neg (by omega), if_neg (by omega), if_neg (by omega), w64 (n := (n : Int) * 5) (by omega) (by omega), w64 (n := 1 + (n : Int) * 5) (by omega) (by omega), w64 (by omega) (by omega)]
theorem split_some {n m : Nat} (hn : n < 12) (hm : m < 5) : sheet_Split.f (1 + (n : Int) * 5 + m) = some ((n : Int), (m : Int)) := by
  unfold sheet_Split.f
  rw [if_neg (by omega), if_neg (by omega), w64 (n := (1 + (n : Int) * 5 + m - 1)) (by omega) (by omega)]
  have h1 : Int.tdiv (1 + (n : Int) * 5 + m - 1) 5 = n := by rw [Int.tdiv_eq_ediv_of_nonneg (by omega)]; omega
  have h2 : Int.tmod (1 + (n : Int) * 5 + m - 1) 5 = m := by rw [Int.tmod_eq_emod_of_nonneg (by omega)]; omega
  rw [h1, h2, w64 (by omega) (by omega)]
theorem numbers (a b c d : Int) : potsherdlaw5_SheetNumbers.f a b c d = some true := by
  obtain ⟨n1, e1, h1⟩ := small a 12 (by omega) (by omega)
  obtain ⟨n2, e2, h2⟩ := small b 5 (by omega) (by omega)
  obtain ⟨n3, e3, h3⟩ := small c 12 (by omega) (by omega)
  obtain ⟨n4, e4, h4⟩ := small d 5 (by omega) (by omega)
  unfold potsherdlaw5_SheetNumbers.f
  rw [e1, e2, e3, e4, num_some (by omega) (by omega), Option.bind_some, num_some (by omega) (by omega), Option.bind_some, split_some (by omega) (by omega), Option.bind_some]
  simp only
  rw [if_pos trivial, if_pos trivial, if_pos (by omega), if_pos (by omega)]
  by_cases e : n1 = n3
  · subst e
    rw [if_pos rfl, if_pos]
    · rfl
    · by_cases e : n2 = n4
      · subst e; simp
      · rw [beq_eq_false_iff_ne.2 (show ¬ (1 + (n1 : Int) * 5 + n2) = 1 + (n1 : Int) * 5 + n4 by omega), beq_eq_false_iff_ne.2 (show ¬ (n2 : Int) = n4 by omega)]; rfl
  · rw [if_neg (by omega), if_pos]
    · rfl
    · rw [beq_eq_false_iff_ne.2 (show ¬ (1 + (n1 : Int) * 5 + n2) = 1 + (n3 : Int) * 5 + n4 by omega)]; rfl
theorem numFinal (W : World) (a0 : Int) (w0 : (Lit.int .i64 a0).wf = true) (a1 : Int) (w1 : (Lit.int .i64 a1).wf = true) (a2 : Int) (w2 : (Lit.int .i64 a2).wf = true) (a3 : Int) (w3 : (Lit.int .i64 a3).wf = true) :
    Calls Try.prog 8 #[.int .i64 a0, .int .i64 a1, .int .i64 a2, .int .i64 a3] W fun e w' => e = .returned (.bool true) ∧ Below W.heap.size W w' :=
  potsherdlaw5_SheetNumbers.calls a0 a1 a2 a3 true W (numbers a0 a1 a2 a3)
end Go.Proofs.Ytmoefknefopdlaa.RN
