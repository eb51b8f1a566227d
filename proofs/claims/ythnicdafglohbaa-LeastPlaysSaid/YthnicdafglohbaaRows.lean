/-
  No cell of these rows narrows 'for every input' (looked for: loops, veiled, ifaces, maps, wideKeys, modest, calm, conditions, laid).
  DERIVED. THE GIVEN ROWS OF THIS SEAT. 6 by the template 'for every input the law returns true; each argument reads behind the call as it read before'; 0 by the template 'total and deterministic' (their statements: YthnicdafglohbaaTotals.lean).
  GIVEN WITH THE SEED: the statements are not yours to turn. If you find one false, say at which input.
  Laid BY PROGRAM, IN A SANDBOX (cutbox-rows.mjs): the forced cells as the released guide's own fill.sh prints them over the translation 8a844c10eb993f80… (all of the seat's roots in one cut). By AI agents, Wed Nov 11 2026. No macro, syntax, notation, axiom, sorry.
-/
import Derived.Test.YthnicdafglohbaaChecked
import GoSem.Claim
import GoSem.ClaimJoined
import GoSem.ClaimMapViews
import Derived.JoinedTies
import Derived.KernelRfl
namespace Go.Proofs.Ythnicdafglohbaa
/- THE CELL 'sum', in the pinned program and in every row, IS THE sha256 OF THE DUMP (.gsa) THAT YthnicdafglohbaaProg.lean LOADS. Nothing in Lean hashes anything: it is a label: what it is worth is what the hold of that sum in a sandbox is worth. -/
noncomputable def Try.pinned : Pinned := { name := "ythnicdafglohbaa", sum := "8a844c10eb993f801bd2cd6668e3dcca0275d605c996995a1a64791277535050", checked := Try.checked }
namespace Rows
def none {H : Type} : Left H := { results := [], args := [] }

/-- 'potsherdlaw2.LeastEnds': WHATEVER THE INPUT: true; the input reads as it did. -/
def leastEndsSpec : ChangeSpec := { name := "leastEnds", fn := fun _ => fun
  | [d1, d2] => { results := [.lit (.bool true)], args := [d1, d2] }
  | _ => none }
def leastEndsRow : OpenClaim := { program := "ythnicdafglohbaa", sum := "8a844c10eb993f801bd2cd6668e3dcca0275d605c996995a1a64791277535050", func := "potsherd/potsherdlaw2.LeastEnds", spec := "leastEnds", unfollowed := true, recurses := true, apart := false }
def LeastEndsSaid : Prop := leastEndsRow.holds Try.pinned (OpenSpec.ofChange leastEndsSpec)

/-- ITS FALSE NEIGHBOUR: 'it returns false'. Refute it at one input. -/
def leastEndsWrong : ChangeSpec := { name := "leastEnds", fn := fun _ => fun
  | [d1, d2] => { results := [.lit (.bool false)], args := [d1, d2] }
  | _ => none }
def LeastEndsWrongFalsely : Prop := leastEndsRow.holds Try.pinned (OpenSpec.ofChange leastEndsWrong)

/-- 'potsherdlaw2.LeastOrder': WHATEVER THE INPUT: true; the input reads as it did. -/
def leastOrderSpec : ChangeSpec := { name := "leastOrder", fn := fun _ => fun
  | [d1, d2] => { results := [.lit (.bool true)], args := [d1, d2] }
  | _ => none }
def leastOrderRow : OpenClaim := { program := "ythnicdafglohbaa", sum := "8a844c10eb993f801bd2cd6668e3dcca0275d605c996995a1a64791277535050", func := "potsherd/potsherdlaw2.LeastOrder", spec := "leastOrder", unfollowed := true, recurses := true, apart := false }
def LeastOrderSaid : Prop := leastOrderRow.holds Try.pinned (OpenSpec.ofChange leastOrderSpec)

/-- ITS FALSE NEIGHBOUR: 'it returns false'. Refute it at one input. -/
def leastOrderWrong : ChangeSpec := { name := "leastOrder", fn := fun _ => fun
  | [d1, d2] => { results := [.lit (.bool false)], args := [d1, d2] }
  | _ => none }
def LeastOrderWrongFalsely : Prop := leastOrderRow.holds Try.pinned (OpenSpec.ofChange leastOrderWrong)

/-- 'potsherdlaw2.LeastTakes': WHATEVER THE INPUT: true; the input reads as it did. -/
def leastTakesSpec : ChangeSpec := { name := "leastTakes", fn := fun _ => fun
  | [d1, d2, d3] => { results := [.lit (.bool true)], args := [d1, d2, d3] }
  | _ => none }
def leastTakesRow : OpenClaim := { program := "ythnicdafglohbaa", sum := "8a844c10eb993f801bd2cd6668e3dcca0275d605c996995a1a64791277535050", func := "potsherd/potsherdlaw2.LeastTakes", spec := "leastTakes", unfollowed := true, recurses := true, apart := false }
def LeastTakesSaid : Prop := leastTakesRow.holds Try.pinned (OpenSpec.ofChange leastTakesSpec)

/-- ITS FALSE NEIGHBOUR: 'it returns false'. Refute it at one input. -/
def leastTakesWrong : ChangeSpec := { name := "leastTakes", fn := fun _ => fun
  | [d1, d2, d3] => { results := [.lit (.bool false)], args := [d1, d2, d3] }
  | _ => none }
def LeastTakesWrongFalsely : Prop := leastTakesRow.holds Try.pinned (OpenSpec.ofChange leastTakesWrong)

/-- 'potsherdlaw2.LeastPlays': WHATEVER THE INPUT: true; the input reads as it did. -/
def leastPlaysSpec : ChangeSpec := { name := "leastPlays", fn := fun _ => fun
  | [d] => { results := [.lit (.bool true)], args := [d] }
  | _ => none }
def leastPlaysRow : OpenClaim := { program := "ythnicdafglohbaa", sum := "8a844c10eb993f801bd2cd6668e3dcca0275d605c996995a1a64791277535050", func := "potsherd/potsherdlaw2.LeastPlays", spec := "leastPlays", unfollowed := true, recurses := true, apart := false }
def LeastPlaysSaid : Prop := leastPlaysRow.holds Try.pinned (OpenSpec.ofChange leastPlaysSpec)

/-- ITS FALSE NEIGHBOUR: 'it returns false'. Refute it at one input. -/
def leastPlaysWrong : ChangeSpec := { name := "leastPlays", fn := fun _ => fun
  | [d] => { results := [.lit (.bool false)], args := [d] }
  | _ => none }
def LeastPlaysWrongFalsely : Prop := leastPlaysRow.holds Try.pinned (OpenSpec.ofChange leastPlaysWrong)

/-- 'potsherdlaw2.LeastNil': WHATEVER THE INPUT: true; the input reads as it did. -/
def leastNilSpec : ChangeSpec := { name := "leastNil", fn := fun _ => fun
  | [d1, d2] => { results := [.lit (.bool true)], args := [d1, d2] }
  | _ => none }
def leastNilRow : OpenClaim := { program := "ythnicdafglohbaa", sum := "8a844c10eb993f801bd2cd6668e3dcca0275d605c996995a1a64791277535050", func := "potsherd/potsherdlaw2.LeastNil", spec := "leastNil", unfollowed := true, recurses := true, apart := false }
def LeastNilSaid : Prop := leastNilRow.holds Try.pinned (OpenSpec.ofChange leastNilSpec)

/-- ITS FALSE NEIGHBOUR: 'it returns false'. Refute it at one input. -/
def leastNilWrong : ChangeSpec := { name := "leastNil", fn := fun _ => fun
  | [d1, d2] => { results := [.lit (.bool false)], args := [d1, d2] }
  | _ => none }
def LeastNilWrongFalsely : Prop := leastNilRow.holds Try.pinned (OpenSpec.ofChange leastNilWrong)

/-- 'potsherdlaw2.LeastBetween': WHATEVER THE INPUT: true; the input reads as it did. -/
def leastBetweenSpec : ChangeSpec := { name := "leastBetween", fn := fun _ => fun
  | [d] => { results := [.lit (.bool true)], args := [d] }
  | _ => none }
def leastBetweenRow : OpenClaim := { program := "ythnicdafglohbaa", sum := "8a844c10eb993f801bd2cd6668e3dcca0275d605c996995a1a64791277535050", func := "potsherd/potsherdlaw2.LeastBetween", spec := "leastBetween", unfollowed := true, recurses := true, apart := false }
def LeastBetweenSaid : Prop := leastBetweenRow.holds Try.pinned (OpenSpec.ofChange leastBetweenSpec)

/-- ITS FALSE NEIGHBOUR: 'it returns false'. Refute it at one input. -/
def leastBetweenWrong : ChangeSpec := { name := "leastBetween", fn := fun _ => fun
  | [d] => { results := [.lit (.bool false)], args := [d] }
  | _ => none }
def LeastBetweenWrongFalsely : Prop := leastBetweenRow.holds Try.pinned (OpenSpec.ofChange leastBetweenWrong)

/- THE SECOND FORM. 'bulk': how many values and letters a reading holds, each counted each time it is reached (what is shared counts as often as it is met; a slice's spare places count too). A statement '..UptoSaid' is the law's where the arguments, and the package variables that the reading takes, are together of bulk at most 1048576: NARROWER than '..Said'. Prove '..Said' where nothing that the law and all that it calls make is longer than what came in: it says more and counts as full. Else prove '..UptoSaid'. A law counts once. -/
mutual
def uptoBulk {H : Type} : DataW H → Nat
  | .lit (.string bytes) => bytes.length + 1
  | .lit _ => 1
  | .nil => 1
  | .ptr d => uptoBulk d + 1
  | .slice elems spare => uptoBulkAll elems + uptoBulkAll spare + 1
  | .agg parts => uptoBulkAll parts + 1
  | .iface _ d => uptoBulk d + 1
  | .map entries => uptoBulkEntries entries + 1
  | .held _ => 1
def uptoBulkAll {H : Type} : List (DataW H) → Nat
  | [] => 0
  | d :: r => uptoBulk d + uptoBulkAll r
def uptoBulkEntries {H : Type} : List (Lit × DataW H) → Nat
  | [] => 0
  | x :: r => uptoBulkEntry x + uptoBulkEntries r
def uptoBulkEntry {H : Type} : Lit × DataW H → Nat
  | (.string bytes, d) => bytes.length + uptoBulk d + 1
  | (_, d) => uptoBulk d + 1
 end
def uptoSmall : (H : Type) → List (DataW H) → Bool := fun _ ds => decide (uptoBulkAll ds ≤ 1048576)
def OpenSpec.upto (s : _root_.Go.ChangeSpec) : _root_.Go.OpenSpec := { _root_.Go.OpenSpec.ofChange s with cond := some uptoSmall }

/-- 'potsherdlaw2.LeastEnds', WHERE WHAT IT READS IS OF BULK AT MOST 1048576: true; the input reads as it did. -/
def leastEndsUptoRow : OpenClaim := { program := "ythnicdafglohbaa", sum := "8a844c10eb993f801bd2cd6668e3dcca0275d605c996995a1a64791277535050", func := "potsherd/potsherdlaw2.LeastEnds", spec := "leastEnds", unfollowed := true, recurses := true, apart := false, narrowed := true }
def LeastEndsUptoSaid : Prop := leastEndsUptoRow.holds Try.pinned (OpenSpec.upto leastEndsSpec)

/-- 'potsherdlaw2.LeastOrder', WHERE WHAT IT READS IS OF BULK AT MOST 1048576: true; the input reads as it did. -/
def leastOrderUptoRow : OpenClaim := { program := "ythnicdafglohbaa", sum := "8a844c10eb993f801bd2cd6668e3dcca0275d605c996995a1a64791277535050", func := "potsherd/potsherdlaw2.LeastOrder", spec := "leastOrder", unfollowed := true, recurses := true, apart := false, narrowed := true }
def LeastOrderUptoSaid : Prop := leastOrderUptoRow.holds Try.pinned (OpenSpec.upto leastOrderSpec)

/-- 'potsherdlaw2.LeastTakes', WHERE WHAT IT READS IS OF BULK AT MOST 1048576: true; the input reads as it did. -/
def leastTakesUptoRow : OpenClaim := { program := "ythnicdafglohbaa", sum := "8a844c10eb993f801bd2cd6668e3dcca0275d605c996995a1a64791277535050", func := "potsherd/potsherdlaw2.LeastTakes", spec := "leastTakes", unfollowed := true, recurses := true, apart := false, narrowed := true }
def LeastTakesUptoSaid : Prop := leastTakesUptoRow.holds Try.pinned (OpenSpec.upto leastTakesSpec)

/-- 'potsherdlaw2.LeastPlays', WHERE WHAT IT READS IS OF BULK AT MOST 1048576: true; the input reads as it did. -/
def leastPlaysUptoRow : OpenClaim := { program := "ythnicdafglohbaa", sum := "8a844c10eb993f801bd2cd6668e3dcca0275d605c996995a1a64791277535050", func := "potsherd/potsherdlaw2.LeastPlays", spec := "leastPlays", unfollowed := true, recurses := true, apart := false, narrowed := true }
def LeastPlaysUptoSaid : Prop := leastPlaysUptoRow.holds Try.pinned (OpenSpec.upto leastPlaysSpec)

/-- 'potsherdlaw2.LeastNil', WHERE WHAT IT READS IS OF BULK AT MOST 1048576: true; the input reads as it did. -/
def leastNilUptoRow : OpenClaim := { program := "ythnicdafglohbaa", sum := "8a844c10eb993f801bd2cd6668e3dcca0275d605c996995a1a64791277535050", func := "potsherd/potsherdlaw2.LeastNil", spec := "leastNil", unfollowed := true, recurses := true, apart := false, narrowed := true }
def LeastNilUptoSaid : Prop := leastNilUptoRow.holds Try.pinned (OpenSpec.upto leastNilSpec)

/-- 'potsherdlaw2.LeastBetween', WHERE WHAT IT READS IS OF BULK AT MOST 1048576: true; the input reads as it did. -/
def leastBetweenUptoRow : OpenClaim := { program := "ythnicdafglohbaa", sum := "8a844c10eb993f801bd2cd6668e3dcca0275d605c996995a1a64791277535050", func := "potsherd/potsherdlaw2.LeastBetween", spec := "leastBetween", unfollowed := true, recurses := true, apart := false, narrowed := true }
def LeastBetweenUptoSaid : Prop := leastBetweenUptoRow.holds Try.pinned (OpenSpec.upto leastBetweenSpec)

end Rows
end Go.Proofs.Ythnicdafglohbaa
