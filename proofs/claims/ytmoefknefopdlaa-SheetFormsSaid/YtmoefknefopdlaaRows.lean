/-
  No cell of these rows narrows 'for every input' (looked for: loops, veiled, ifaces, maps, wideKeys, modest, calm, conditions, laid).
  DERIVED. THE GIVEN ROWS OF THIS SEAT. 6 by the template 'for every input the law returns true; each argument reads behind the call as it read before'; 0 by the template 'total and deterministic' (their statements: YtmoefknefopdlaaTotals.lean).
  GIVEN WITH THE SEED: the statements are not yours to turn. If you find one false, say at which input.
  Laid BY PROGRAM, IN A SANDBOX (cutbox-rows.mjs): the forced cells as the released guide's own fill.sh prints them over the translation 48da9d6e005564a6… (all of the seat's roots in one cut). By AI agents, Wed Nov 11 2026. No macro, syntax, notation, axiom, sorry.
-/
import Derived.Test.YtmoefknefopdlaaChecked
import GoSem.Claim
import GoSem.ClaimJoined
import GoSem.ClaimMapViews
import Derived.JoinedTies
import Derived.KernelRfl
namespace Go.Proofs.Ytmoefknefopdlaa
/- THE CELL 'sum', in the pinned program and in every row, IS THE sha256 OF THE DUMP (.gsa) THAT YtmoefknefopdlaaProg.lean LOADS. Nothing in Lean hashes anything: it is a label: what it is worth is what the hold of that sum in a sandbox is worth. -/
noncomputable def Try.pinned : Pinned := { name := "ytmoefknefopdlaa", sum := "48da9d6e005564a6fbc2f3574fe0c03ff3a899483a99947e1748943a7da29b4b", checked := Try.checked }
namespace Rows
def none {H : Type} : Left H := { results := [], args := [] }

/-- 'potsherdlaw5.SheetTorn': WHATEVER THE INPUT: true; the input reads as it did. -/
def sheetTornSpec : ChangeSpec := { name := "sheetTorn", fn := fun _ => fun
  | [d1, d2, d3] => { results := [.lit (.bool true)], args := [d1, d2, d3] }
  | _ => none }
def sheetTornRow : OpenClaim := { program := "ytmoefknefopdlaa", sum := "48da9d6e005564a6fbc2f3574fe0c03ff3a899483a99947e1748943a7da29b4b", func := "potsherd/potsherdlaw5.SheetTorn", spec := "sheetTorn", apart := false }
def SheetTornSaid : Prop := sheetTornRow.holds Try.pinned (OpenSpec.ofChange sheetTornSpec)

/-- ITS FALSE NEIGHBOUR: 'it returns false'. Refute it at one input. -/
def sheetTornWrong : ChangeSpec := { name := "sheetTorn", fn := fun _ => fun
  | [d1, d2, d3] => { results := [.lit (.bool false)], args := [d1, d2, d3] }
  | _ => none }
def SheetTornWrongFalsely : Prop := sheetTornRow.holds Try.pinned (OpenSpec.ofChange sheetTornWrong)

/-- 'potsherdlaw5.SheetApart': WHATEVER THE INPUT: true; the input reads as it did. -/
def sheetApartSpec : ChangeSpec := { name := "sheetApart", fn := fun _ => fun
  | [d1, d2] => { results := [.lit (.bool true)], args := [d1, d2] }
  | _ => none }
def sheetApartRow : OpenClaim := { program := "ytmoefknefopdlaa", sum := "48da9d6e005564a6fbc2f3574fe0c03ff3a899483a99947e1748943a7da29b4b", func := "potsherd/potsherdlaw5.SheetApart", spec := "sheetApart", apart := false }
def SheetApartSaid : Prop := sheetApartRow.holds Try.pinned (OpenSpec.ofChange sheetApartSpec)

/-- ITS FALSE NEIGHBOUR: 'it returns false'. Refute it at one input. -/
def sheetApartWrong : ChangeSpec := { name := "sheetApart", fn := fun _ => fun
  | [d1, d2] => { results := [.lit (.bool false)], args := [d1, d2] }
  | _ => none }
def SheetApartWrongFalsely : Prop := sheetApartRow.holds Try.pinned (OpenSpec.ofChange sheetApartWrong)

/-- 'potsherdlaw5.SheetRaw': WHATEVER THE INPUT: true; the input reads as it did. -/
def sheetRawSpec : ChangeSpec := { name := "sheetRaw", fn := fun _ => fun
  | [d] => { results := [.lit (.bool true)], args := [d] }
  | _ => none }
def sheetRawRow : OpenClaim := { program := "ytmoefknefopdlaa", sum := "48da9d6e005564a6fbc2f3574fe0c03ff3a899483a99947e1748943a7da29b4b", func := "potsherd/potsherdlaw5.SheetRaw", spec := "sheetRaw", apart := false }
def SheetRawSaid : Prop := sheetRawRow.holds Try.pinned (OpenSpec.ofChange sheetRawSpec)

/-- ITS FALSE NEIGHBOUR: 'it returns false'. Refute it at one input. -/
def sheetRawWrong : ChangeSpec := { name := "sheetRaw", fn := fun _ => fun
  | [d] => { results := [.lit (.bool false)], args := [d] }
  | _ => none }
def SheetRawWrongFalsely : Prop := sheetRawRow.holds Try.pinned (OpenSpec.ofChange sheetRawWrong)

/-- 'potsherdlaw5.SheetTurned': WHATEVER THE INPUT: true; the input reads as it did. -/
def sheetTurnedSpec : ChangeSpec := { name := "sheetTurned", fn := fun _ => fun
  | [d1, d2, d3] => { results := [.lit (.bool true)], args := [d1, d2, d3] }
  | _ => none }
def sheetTurnedRow : OpenClaim := { program := "ytmoefknefopdlaa", sum := "48da9d6e005564a6fbc2f3574fe0c03ff3a899483a99947e1748943a7da29b4b", func := "potsherd/potsherdlaw5.SheetTurned", spec := "sheetTurned", apart := false }
def SheetTurnedSaid : Prop := sheetTurnedRow.holds Try.pinned (OpenSpec.ofChange sheetTurnedSpec)

/-- ITS FALSE NEIGHBOUR: 'it returns false'. Refute it at one input. -/
def sheetTurnedWrong : ChangeSpec := { name := "sheetTurned", fn := fun _ => fun
  | [d1, d2, d3] => { results := [.lit (.bool false)], args := [d1, d2, d3] }
  | _ => none }
def SheetTurnedWrongFalsely : Prop := sheetTurnedRow.holds Try.pinned (OpenSpec.ofChange sheetTurnedWrong)

/-- 'potsherdlaw5.SheetForms': WHATEVER THE INPUT: true; the input reads as it did. -/
def sheetFormsSpec : ChangeSpec := { name := "sheetForms", fn := fun _ => fun
  | [d1, d2, d3, d4] => { results := [.lit (.bool true)], args := [d1, d2, d3, d4] }
  | _ => none }
def sheetFormsRow : OpenClaim := { program := "ytmoefknefopdlaa", sum := "48da9d6e005564a6fbc2f3574fe0c03ff3a899483a99947e1748943a7da29b4b", func := "potsherd/potsherdlaw5.SheetForms", spec := "sheetForms", apart := false }
def SheetFormsSaid : Prop := sheetFormsRow.holds Try.pinned (OpenSpec.ofChange sheetFormsSpec)

/-- ITS FALSE NEIGHBOUR: 'it returns false'. Refute it at one input. -/
def sheetFormsWrong : ChangeSpec := { name := "sheetForms", fn := fun _ => fun
  | [d1, d2, d3, d4] => { results := [.lit (.bool false)], args := [d1, d2, d3, d4] }
  | _ => none }
def SheetFormsWrongFalsely : Prop := sheetFormsRow.holds Try.pinned (OpenSpec.ofChange sheetFormsWrong)

/-- 'potsherdlaw5.SheetNumbers': WHATEVER THE INPUT: true; the input reads as it did. -/
def sheetNumbersSpec : ChangeSpec := { name := "sheetNumbers", fn := fun _ => fun
  | [d1, d2, d3, d4] => { results := [.lit (.bool true)], args := [d1, d2, d3, d4] }
  | _ => none }
def sheetNumbersRow : OpenClaim := { program := "ytmoefknefopdlaa", sum := "48da9d6e005564a6fbc2f3574fe0c03ff3a899483a99947e1748943a7da29b4b", func := "potsherd/potsherdlaw5.SheetNumbers", spec := "sheetNumbers", apart := false }
def SheetNumbersSaid : Prop := sheetNumbersRow.holds Try.pinned (OpenSpec.ofChange sheetNumbersSpec)

/-- ITS FALSE NEIGHBOUR: 'it returns false'. Refute it at one input. -/
def sheetNumbersWrong : ChangeSpec := { name := "sheetNumbers", fn := fun _ => fun
  | [d1, d2, d3, d4] => { results := [.lit (.bool false)], args := [d1, d2, d3, d4] }
  | _ => none }
def SheetNumbersWrongFalsely : Prop := sheetNumbersRow.holds Try.pinned (OpenSpec.ofChange sheetNumbersWrong)

/- THE SECOND FORM. 'bulk': how many values and letters a reading holds, each counted each time it is reached (what is shared counts as often as it is met; a slice's spare places count too). A statement '..UptoSaid' is the law's where the arguments, and the package variables that the reading takes, are together of bulk at most 1048576: NARROWER than '..Said'. Prove '..Said' where nothing that the law and all that it calls make is longer than what came in: it says more and counts as full. Else prove '..UptoSaid'. A law counts once. -/
mutual
def uptoBulk {H : Type} : DataW H → Nat
  | .lit (.string bytes) => bytes.length + 1
  | .lit _ => 1
  | .nil => 1
  | .ptr d => uptoBulk d + 1
  | .slice elems spare => uptoBulkAll elems + uptoBulkAll spare + 1
  | .agg parts => uptoBulkAll parts + 1
  | .iface _ d => uptoBulk d + 1
  | .map entries => uptoBulkEntries entries + 1
  | .held _ => 1
def uptoBulkAll {H : Type} : List (DataW H) → Nat
  | [] => 0
  | d :: r => uptoBulk d + uptoBulkAll r
def uptoBulkEntries {H : Type} : List (Lit × DataW H) → Nat
  | [] => 0
  | x :: r => uptoBulkEntry x + uptoBulkEntries r
def uptoBulkEntry {H : Type} : Lit × DataW H → Nat
  | (.string bytes, d) => bytes.length + uptoBulk d + 1
  | (_, d) => uptoBulk d + 1
 end
def uptoSmall : (H : Type) → List (DataW H) → Bool := fun _ ds => decide (uptoBulkAll ds ≤ 1048576)
def OpenSpec.upto (s : _root_.Go.ChangeSpec) : _root_.Go.OpenSpec := { _root_.Go.OpenSpec.ofChange s with cond := some uptoSmall }

/-- 'potsherdlaw5.SheetTorn', WHERE WHAT IT READS IS OF BULK AT MOST 1048576: true; the input reads as it did. -/
def sheetTornUptoRow : OpenClaim := { program := "ytmoefknefopdlaa", sum := "48da9d6e005564a6fbc2f3574fe0c03ff3a899483a99947e1748943a7da29b4b", func := "potsherd/potsherdlaw5.SheetTorn", spec := "sheetTorn", apart := false, narrowed := true }
def SheetTornUptoSaid : Prop := sheetTornUptoRow.holds Try.pinned (OpenSpec.upto sheetTornSpec)

/-- 'potsherdlaw5.SheetApart', WHERE WHAT IT READS IS OF BULK AT MOST 1048576: true; the input reads as it did. -/
def sheetApartUptoRow : OpenClaim := { program := "ytmoefknefopdlaa", sum := "48da9d6e005564a6fbc2f3574fe0c03ff3a899483a99947e1748943a7da29b4b", func := "potsherd/potsherdlaw5.SheetApart", spec := "sheetApart", apart := false, narrowed := true }
def SheetApartUptoSaid : Prop := sheetApartUptoRow.holds Try.pinned (OpenSpec.upto sheetApartSpec)

/-- 'potsherdlaw5.SheetRaw', WHERE WHAT IT READS IS OF BULK AT MOST 1048576: true; the input reads as it did. -/
def sheetRawUptoRow : OpenClaim := { program := "ytmoefknefopdlaa", sum := "48da9d6e005564a6fbc2f3574fe0c03ff3a899483a99947e1748943a7da29b4b", func := "potsherd/potsherdlaw5.SheetRaw", spec := "sheetRaw", apart := false, narrowed := true }
def SheetRawUptoSaid : Prop := sheetRawUptoRow.holds Try.pinned (OpenSpec.upto sheetRawSpec)

/-- 'potsherdlaw5.SheetTurned', WHERE WHAT IT READS IS OF BULK AT MOST 1048576: true; the input reads as it did. -/
def sheetTurnedUptoRow : OpenClaim := { program := "ytmoefknefopdlaa", sum := "48da9d6e005564a6fbc2f3574fe0c03ff3a899483a99947e1748943a7da29b4b", func := "potsherd/potsherdlaw5.SheetTurned", spec := "sheetTurned", apart := false, narrowed := true }
def SheetTurnedUptoSaid : Prop := sheetTurnedUptoRow.holds Try.pinned (OpenSpec.upto sheetTurnedSpec)

/-- 'potsherdlaw5.SheetForms', WHERE WHAT IT READS IS OF BULK AT MOST 1048576: true; the input reads as it did. -/
def sheetFormsUptoRow : OpenClaim := { program := "ytmoefknefopdlaa", sum := "48da9d6e005564a6fbc2f3574fe0c03ff3a899483a99947e1748943a7da29b4b", func := "potsherd/potsherdlaw5.SheetForms", spec := "sheetForms", apart := false, narrowed := true }
def SheetFormsUptoSaid : Prop := sheetFormsUptoRow.holds Try.pinned (OpenSpec.upto sheetFormsSpec)

/-- 'potsherdlaw5.SheetNumbers', WHERE WHAT IT READS IS OF BULK AT MOST 1048576: true; the input reads as it did. -/
def sheetNumbersUptoRow : OpenClaim := { program := "ytmoefknefopdlaa", sum := "48da9d6e005564a6fbc2f3574fe0c03ff3a899483a99947e1748943a7da29b4b", func := "potsherd/potsherdlaw5.SheetNumbers", spec := "sheetNumbers", apart := false, narrowed := true }
def SheetNumbersUptoSaid : Prop := sheetNumbersUptoRow.holds Try.pinned (OpenSpec.upto sheetNumbersSpec)

end Rows
end Go.Proofs.Ytmoefknefopdlaa
