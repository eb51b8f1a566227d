import Derived.Test.YtloldgiggnhemaaFp
set_option linter.unusedVariables false
set_option linter.unusedSimpArgs false
/-! ChipWorn, plainly. -/
namespace Go.Proofs.Ytloldgiggnhemaa.Cm
open Go.RowKit Go.Proofs.YtloldgiggnhemaaW.PrintWords Go.Proofs.YtloldgiggnhemaaW.PrintLast Go.Proofs.YtloldgiggnhemaaW.PrintMore Go.Proofs.Ytloldgiggnhemaa.Kp Go.Proofs.Ytloldgiggnhemaa.Cp

def wp0 : Nat → Chp
  | 0 => newS 3 2 []
  | i + 1 => (progS (wp0 i) (i : Int) 0 [((i + 1 : Nat) : Int)]).1
def wrun (n : Nat) : Nat → Chp
  | 0 => wornS (wp0 3) n
  | i + 1 => (eraseS (wrun n i) ((i % 3 : Nat) : Int)).1
def wwant (n i : Nat) : Int := if i = n ∨ (i > n ∧ i % 3 = n % 3) then 3 else 0
def wEnd (n : Nat) : Chp := readS (wrun n 6) ((n % 3 : Nat) : Int) 0
def wX (n : Nat) : List Int := if n < 3 then [((n + 1 : Nat) : Int)] else []
theorem w_er : ∀ n, n < 6 → ∀ i, i < 6 → (eraseS (wrun n i) ((i % 3 : Nat) : Int)).2 = wwant n i
  | 0, _, 0, _ => by kernel_rfl
  | 0, _, 1, _ => by kernel_rfl
  | 0, _, 2, _ => by kernel_rfl
  | 0, _, 3, _ => by kernel_rfl
  | 0, _, 4, _ => by kernel_rfl
  | 0, _, 5, _ => by kernel_rfl
  | 1, _, 0, _ => by kernel_rfl
  | 1, _, 1, _ => by kernel_rfl
  | 1, _, 2, _ => by kernel_rfl
  | 1, _, 3, _ => by kernel_rfl
  | 1, _, 4, _ => by kernel_rfl
  | 1, _, 5, _ => by kernel_rfl
  | 2, _, 0, _ => by kernel_rfl
  | 2, _, 1, _ => by kernel_rfl
  | 2, _, 2, _ => by kernel_rfl
  | 2, _, 3, _ => by kernel_rfl
  | 2, _, 4, _ => by kernel_rfl
  | 2, _, 5, _ => by kernel_rfl
  | 3, _, 0, _ => by kernel_rfl
  | 3, _, 1, _ => by kernel_rfl
  | 3, _, 2, _ => by kernel_rfl
  | 3, _, 3, _ => by kernel_rfl
  | 3, _, 4, _ => by kernel_rfl
  | 3, _, 5, _ => by kernel_rfl
  | 4, _, 0, _ => by kernel_rfl
  | 4, _, 1, _ => by kernel_rfl
  | 4, _, 2, _ => by kernel_rfl
  | 4, _, 3, _ => by kernel_rfl
  | 4, _, 4, _ => by kernel_rfl
  | 4, _, 5, _ => by kernel_rfl
  | 5, _, 0, _ => by kernel_rfl
  | 5, _, 1, _ => by kernel_rfl
  | 5, _, 2, _ => by kernel_rfl
  | 5, _, 3, _ => by kernel_rfl
  | 5, _, 4, _ => by kernel_rfl
  | 5, _, 5, _ => by kernel_rfl
  | n + 6, h, _, _ => absurd h (by omega)
  | _, _, i + 6, h => absurd h (by omega)
def wFacts (n : Nat) : Prop := readE (wrun n 6) ((n % 3 : Nat) : Int) 0 = 0 ∧ readX (wrun n 6) ((n % 3 : Nat) : Int) 0 = wX n ∧ (blockB (wEnd n) ((n % 3 : Nat) : Int)).bad = true ∧ (blockB (wEnd n) ((n % 3 : Nat) : Int)).count = ((n / 3 + 1 : Nat) : Int) ∧
  (blockB (wEnd n) (((n + 1) % 3 : Nat) : Int)).bad = false ∧ (blockB (wEnd n) (((n + 1) % 3 : Nat) : Int)).next = 0 ∧ (blockB (wEnd n) ((n % 3 : Nat) : Int)).pages = [wX n, []] ∧ (blockB (wEnd n) (((n + 1) % 3 : Nat) : Int)).pages = [[], []]
theorem w_facts : ∀ n, n < 6 → wFacts n
  | 0, _ => ⟨by kernel_rfl, by kernel_rfl, by kernel_rfl, by kernel_rfl, by kernel_rfl, by kernel_rfl, by kernel_rfl, by kernel_rfl⟩
  | 1, _ => ⟨by kernel_rfl, by kernel_rfl, by kernel_rfl, by kernel_rfl, by kernel_rfl, by kernel_rfl, by kernel_rfl, by kernel_rfl⟩
  | 2, _ => ⟨by kernel_rfl, by kernel_rfl, by kernel_rfl, by kernel_rfl, by kernel_rfl, by kernel_rfl, by kernel_rfl, by kernel_rfl⟩
  | 3, _ => ⟨by kernel_rfl, by kernel_rfl, by kernel_rfl, by kernel_rfl, by kernel_rfl, by kernel_rfl, by kernel_rfl, by kernel_rfl⟩
  | 4, _ => ⟨by kernel_rfl, by kernel_rfl, by kernel_rfl, by kernel_rfl, by kernel_rfl, by kernel_rfl, by kernel_rfl, by kernel_rfl⟩
  | 5, _ => ⟨by kernel_rfl, by kernel_rfl, by kernel_rfl, by kernel_rfl, by kernel_rfl, by kernel_rfl, by kernel_rfl, by kernel_rfl⟩
  | n + 6, h => absurd h (by omega)
end Go.Proofs.Ytloldgiggnhemaa.Cm
