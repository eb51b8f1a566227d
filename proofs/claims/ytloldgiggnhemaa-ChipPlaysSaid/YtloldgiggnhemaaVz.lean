import Derived.Test.YtloldgiggnhemaaDz
import Derived.Test.YtloldgiggnhemaaBz
set_option linter.unusedVariables false
set_option linter.unusedSimpArgs false
/-! Small things that ChipPlays shares with the other laws. -/
namespace Go.Proofs.Ytloldgiggnhemaa.Cm
open Go.RowKit Go.Proofs.YtloldgiggnhemaaW.PrintWords Go.Proofs.YtloldgiggnhemaaW.PrintLast Go.Proofs.YtloldgiggnhemaaW.PrintMore Go.Proofs.Ytloldgiggnhemaa.Kp Go.Proofs.Ytloldgiggnhemaa.Cp
attribute [local go_sem] max2_int min2_int max_two min_two max_three min_three max_four min_four

theorem argOkB {W w : World} {base g : Nat} {S : Nat → Prop} {s : Chp} {A : Option Addr} {b : List Int} (hbs : W.heap.size ≤ base) (h : Hd w base S g s) (hC : Kd.C (Kd.int .u8) W A b.length b) (hb : Below W.heap.size W w) {ad : Addr} (hA : A = some ad) (h1 : 1 ≤ b.length) : ad.block < w.heap.size ∧ ¬ S ad.block := by
  subst hA
  have h2 := Kd.C_lt hC (by omega) (by decide)
  exact ⟨Nat.lt_of_lt_of_le h2 hb.size, fun hs => by have := h.chip.okb _ hs; omega⟩
theorem programHE {W : World} {base : Nat} {S : Nat → Prop} {g : Nat} {s : Chp} (h : Hd W base S g s) (b p : Int) (A : Option Addr) (c : Nat) (xs : List Int) (hC : Kd.C (Kd.int .u8) W A xs.length xs) (hc : xs.length ≤ c) (h2 : 1 ≤ xs.length → ∀ ad, A = some ad → ad.block < W.heap.size ∧ ¬ S ad.block) :
    Calls Try.prog 14 #[.pointer (some ⟨g, 0, none⟩), .agg #[.int .i64 b, .int .i64 p], .slice A xs.length c] W fun e W' => e = .returned (.int .i64 (progS s b p xs).2) ∧ Ch W base S g (progS s b p xs).1 W' := by
  by_cases h1 : 1 ≤ xs.length
  · exact programH h b p A c xs hC hc (h2 h1)
  · have e : progS s b p xs = (s, 1) := by
      unfold progS
      rw [if_neg (fun hh => h1 hh.2.1)]
    rw [e]
    refine (prog_arg h.wide b p A c xs (fun hh => h1 hh.2.1)).mono ?_
    rintro e W' ⟨rfl, hn⟩
    exact ⟨rfl, now_ch h hn⟩
theorem wf_le {x : Int} (h : (Lit.int .i64 x).wf = true) : x ≤ 9223372036854775807 := by
  simp [Lit.wf, IntKind.min, IntKind.max, IntKind.bits, IntKind.signed] at h
  omega
/-- What holds of each of the calls that a law takes. -/
def DoOk (x : S52) : Prop := (Lit.int .i64 x.f0).wf = true ∧ (Lit.int .i64 x.f1).wf = true ∧ (Lit.int .i64 x.f2).wf = true ∧ ((Lit.int .i64 x.f3.f0).wf = true ∧ (Lit.int .i64 x.f3.f1).wf = true) ∧ (x.f4.length ≤ maxLen ∧ ∀ y ∈ x.f4, (Lit.int .u8 y).wf = true)
end Go.Proofs.Ytloldgiggnhemaa.Cm
