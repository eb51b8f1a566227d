/-  ChipPlays returns true whatever the numbers, the bad blocks and the calls.  -/
import Derived.Test.YtloldgiggnhemaaRa
set_option linter.unusedVariables false
namespace Go.Proofs.Ytloldgiggnhemaa.Cm
open Go.RowKit Go.Proofs.YtloldgiggnhemaaW.PrintWords Go.Proofs.YtloldgiggnhemaaW.PrintLast Go.Proofs.YtloldgiggnhemaaW.PrintMore Go.Proofs.Ytloldgiggnhemaa.Kp Go.Proofs.Ytloldgiggnhemaa.Cp

theorem playsFinal (W : World) (a0 : Int) (w0 : (Lit.int .i64 a0).wf = true) (a1 : Int) (w1 : (Lit.int .i64 a1).wf = true) (A2 : Option Addr) (c2 : Nat) (l2 : List Int) (hc2 : l2.length ≤ c2) (hr2 : Kd.C (Kd.int .i64) W A2 l2.length l2) (hm2 : l2.length ≤ maxLen) (hok2 : ∀ x ∈ l2, (Lit.int .i64 x).wf = true)
    (A3 : Option Addr) (c3 : Nat) (l3 : List S52) (hc3 : l3.length ≤ c3) (hr3 : Kd.C k52 W A3 l3.length l3) (hm3 : l3.length ≤ maxLen) (hok3 : ∀ x ∈ l3, DoOk x) :
    Calls Try.prog 8 #[.int .i64 a0, .int .i64 a1, .slice A2 l2.length c2, .slice A3 l3.length c3] W fun e W' => e = .returned (.bool true) ∧ Below W.heap.size W W' :=
  plays4 W a0 a1 A2 c2 l2 hc2 hr2 hm2 A3 c3 l3 hc3 hr3 hm3 (fun x hx => ⟨(hok3 x hx).2.1, (hok3 x hx).2.2.1⟩)
end Go.Proofs.Ytloldgiggnhemaa.Cm
