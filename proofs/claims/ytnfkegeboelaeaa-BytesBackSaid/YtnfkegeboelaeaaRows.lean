/-
  No cell of these rows narrows 'for every input' (looked for: loops, veiled, ifaces, maps, wideKeys, modest, calm, conditions, laid).
  DERIVED. THE GIVEN ROWS OF THIS SEAT. 6 by the template 'for every input the law returns true; each argument reads behind the call as it read before'; 0 by the template 'total and deterministic' (their statements: YtnfkegeboelaeaaTotals.lean).
  GIVEN WITH THE SEED: the statements are not yours to turn. If you find one false, say at which input.
  Laid BY PROGRAM, IN A SANDBOX (cutbox-rows.mjs): the forced cells as the released guide's own fill.sh prints them over the translation c1481771d7b59fe2… (all of the seat's roots in one cut). By AI agents, Wed Nov 11 2026. No macro, syntax, notation, axiom, sorry.
-/
import Derived.Test.YtnfkegeboelaeaaChecked
import GoSem.Claim
import GoSem.ClaimJoined
import GoSem.ClaimMapViews
import Derived.JoinedTies
import Derived.KernelRfl
namespace Go.Proofs.Ytnfkegeboelaeaa
/- THE CELL 'sum', in the pinned program and in every row, IS THE sha256 OF THE DUMP (.gsa) THAT YtnfkegeboelaeaaProg.lean LOADS. Nothing in Lean hashes anything: it is a label: what it is worth is what the hold of that sum in a sandbox is worth. -/
noncomputable def Try.pinned : Pinned := { name := "ytnfkegeboelaeaa", sum := "c1481771d7b59fe260b2db99ad8cbcee6206a9d1e63f8795d560692ce77d542e", checked := Try.checked }
namespace Rows
def none {H : Type} : Left H := { results := [], args := [] }

/-- 'potsherdlaw3.BytesForms': WHATEVER THE INPUT: true; the input reads as it did. -/
def bytesFormsSpec : ChangeSpec := { name := "bytesForms", fn := fun _ => fun
  | [d1, d2, d3] => { results := [.lit (.bool true)], args := [d1, d2, d3] }
  | _ => none }
def bytesFormsRow : OpenClaim := { program := "ytnfkegeboelaeaa", sum := "c1481771d7b59fe260b2db99ad8cbcee6206a9d1e63f8795d560692ce77d542e", func := "potsherd/potsherdlaw3.BytesForms", spec := "bytesForms", apart := false }
def BytesFormsSaid : Prop := bytesFormsRow.holds Try.pinned (OpenSpec.ofChange bytesFormsSpec)

/-- ITS FALSE NEIGHBOUR: 'it returns false'. Refute it at one input. -/
def bytesFormsWrong : ChangeSpec := { name := "bytesForms", fn := fun _ => fun
  | [d1, d2, d3] => { results := [.lit (.bool false)], args := [d1, d2, d3] }
  | _ => none }
def BytesFormsWrongFalsely : Prop := bytesFormsRow.holds Try.pinned (OpenSpec.ofChange bytesFormsWrong)

/-- 'potsherdlaw3.BytesReads': WHATEVER THE INPUT: true; the input reads as it did. -/
def bytesReadsSpec : ChangeSpec := { name := "bytesReads", fn := fun _ => fun
  | [d1, d2] => { results := [.lit (.bool true)], args := [d1, d2] }
  | _ => none }
def bytesReadsRow : OpenClaim := { program := "ytnfkegeboelaeaa", sum := "c1481771d7b59fe260b2db99ad8cbcee6206a9d1e63f8795d560692ce77d542e", func := "potsherd/potsherdlaw3.BytesReads", spec := "bytesReads", apart := false }
def BytesReadsSaid : Prop := bytesReadsRow.holds Try.pinned (OpenSpec.ofChange bytesReadsSpec)

/-- ITS FALSE NEIGHBOUR: 'it returns false'. Refute it at one input. -/
def bytesReadsWrong : ChangeSpec := { name := "bytesReads", fn := fun _ => fun
  | [d1, d2] => { results := [.lit (.bool false)], args := [d1, d2] }
  | _ => none }
def BytesReadsWrongFalsely : Prop := bytesReadsRow.holds Try.pinned (OpenSpec.ofChange bytesReadsWrong)

/-- 'potsherdlaw3.BytesBack': WHATEVER THE INPUT: true; the input reads as it did. -/
def bytesBackSpec : ChangeSpec := { name := "bytesBack", fn := fun _ => fun
  | [d1, d2, d3] => { results := [.lit (.bool true)], args := [d1, d2, d3] }
  | _ => none }
def bytesBackRow : OpenClaim := { program := "ytnfkegeboelaeaa", sum := "c1481771d7b59fe260b2db99ad8cbcee6206a9d1e63f8795d560692ce77d542e", func := "potsherd/potsherdlaw3.BytesBack", spec := "bytesBack", apart := false }
def BytesBackSaid : Prop := bytesBackRow.holds Try.pinned (OpenSpec.ofChange bytesBackSpec)

/-- ITS FALSE NEIGHBOUR: 'it returns false'. Refute it at one input. -/
def bytesBackWrong : ChangeSpec := { name := "bytesBack", fn := fun _ => fun
  | [d1, d2, d3] => { results := [.lit (.bool false)], args := [d1, d2, d3] }
  | _ => none }
def BytesBackWrongFalsely : Prop := bytesBackRow.holds Try.pinned (OpenSpec.ofChange bytesBackWrong)

/-- 'potsherdlaw3.BytesNil': WHATEVER THE INPUT: true; the input reads as it did. -/
def bytesNilSpec : ChangeSpec := { name := "bytesNil", fn := fun _ => fun
  | [d] => { results := [.lit (.bool true)], args := [d] }
  | _ => none }
def bytesNilRow : OpenClaim := { program := "ytnfkegeboelaeaa", sum := "c1481771d7b59fe260b2db99ad8cbcee6206a9d1e63f8795d560692ce77d542e", func := "potsherd/potsherdlaw3.BytesNil", spec := "bytesNil", apart := false }
def BytesNilSaid : Prop := bytesNilRow.holds Try.pinned (OpenSpec.ofChange bytesNilSpec)

/-- ITS FALSE NEIGHBOUR: 'it returns false'. Refute it at one input. -/
def bytesNilWrong : ChangeSpec := { name := "bytesNil", fn := fun _ => fun
  | [d] => { results := [.lit (.bool false)], args := [d] }
  | _ => none }
def BytesNilWrongFalsely : Prop := bytesNilRow.holds Try.pinned (OpenSpec.ofChange bytesNilWrong)

/-- 'potsherdlaw3.BytesOne': WHATEVER THE INPUT: true; the input reads as it did. -/
def bytesOneSpec : ChangeSpec := { name := "bytesOne", fn := fun _ => fun
  | [d1, d2, d3] => { results := [.lit (.bool true)], args := [d1, d2, d3] }
  | _ => none }
def bytesOneRow : OpenClaim := { program := "ytnfkegeboelaeaa", sum := "c1481771d7b59fe260b2db99ad8cbcee6206a9d1e63f8795d560692ce77d542e", func := "potsherd/potsherdlaw3.BytesOne", spec := "bytesOne", apart := false }
def BytesOneSaid : Prop := bytesOneRow.holds Try.pinned (OpenSpec.ofChange bytesOneSpec)

/-- ITS FALSE NEIGHBOUR: 'it returns false'. Refute it at one input. -/
def bytesOneWrong : ChangeSpec := { name := "bytesOne", fn := fun _ => fun
  | [d1, d2, d3] => { results := [.lit (.bool false)], args := [d1, d2, d3] }
  | _ => none }
def BytesOneWrongFalsely : Prop := bytesOneRow.holds Try.pinned (OpenSpec.ofChange bytesOneWrong)

/-- 'potsherdlaw3.BytesBounds': WHATEVER THE INPUT: true; the input reads as it did. -/
def bytesBoundsSpec : ChangeSpec := { name := "bytesBounds", fn := fun _ => fun
  | [d1, d2, d3] => { results := [.lit (.bool true)], args := [d1, d2, d3] }
  | _ => none }
def bytesBoundsRow : OpenClaim := { program := "ytnfkegeboelaeaa", sum := "c1481771d7b59fe260b2db99ad8cbcee6206a9d1e63f8795d560692ce77d542e", func := "potsherd/potsherdlaw3.BytesBounds", spec := "bytesBounds", apart := false }
def BytesBoundsSaid : Prop := bytesBoundsRow.holds Try.pinned (OpenSpec.ofChange bytesBoundsSpec)

/-- ITS FALSE NEIGHBOUR: 'it returns false'. Refute it at one input. -/
def bytesBoundsWrong : ChangeSpec := { name := "bytesBounds", fn := fun _ => fun
  | [d1, d2, d3] => { results := [.lit (.bool false)], args := [d1, d2, d3] }
  | _ => none }
def BytesBoundsWrongFalsely : Prop := bytesBoundsRow.holds Try.pinned (OpenSpec.ofChange bytesBoundsWrong)

/- THE SECOND FORM. 'bulk': how many values and letters a reading holds, each counted each time it is reached (what is shared counts as often as it is met; a slice's spare places count too). A statement '..UptoSaid' is the law's where the arguments, and the package variables that the reading takes, are together of bulk at most 1048576: NARROWER than '..Said'. Prove '..Said' where nothing that the law and all that it calls make is longer than what came in: it says more and counts as full. Else prove '..UptoSaid'. A law counts once. -/
mutual
def uptoBulk {H : Type} : DataW H → Nat
  | .lit (.string bytes) => bytes.length + 1
  | .lit _ => 1
  | .nil => 1
  | .ptr d => uptoBulk d + 1
  | .slice elems spare => uptoBulkAll elems + uptoBulkAll spare + 1
  | .agg parts => uptoBulkAll parts + 1
  | .iface _ d => uptoBulk d + 1
  | .map entries => uptoBulkEntries entries + 1
  | .held _ => 1
def uptoBulkAll {H : Type} : List (DataW H) → Nat
  | [] => 0
  | d :: r => uptoBulk d + uptoBulkAll r
def uptoBulkEntries {H : Type} : List (Lit × DataW H) → Nat
  | [] => 0
  | x :: r => uptoBulkEntry x + uptoBulkEntries r
def uptoBulkEntry {H : Type} : Lit × DataW H → Nat
  | (.string bytes, d) => bytes.length + uptoBulk d + 1
  | (_, d) => uptoBulk d + 1
 end
def uptoSmall : (H : Type) → List (DataW H) → Bool := fun _ ds => decide (uptoBulkAll ds ≤ 1048576)
def OpenSpec.upto (s : _root_.Go.ChangeSpec) : _root_.Go.OpenSpec := { _root_.Go.OpenSpec.ofChange s with cond := some uptoSmall }

/-- 'potsherdlaw3.BytesForms', WHERE WHAT IT READS IS OF BULK AT MOST 1048576: true; the input reads as it did. -/
def bytesFormsUptoRow : OpenClaim := { program := "ytnfkegeboelaeaa", sum := "c1481771d7b59fe260b2db99ad8cbcee6206a9d1e63f8795d560692ce77d542e", func := "potsherd/potsherdlaw3.BytesForms", spec := "bytesForms", apart := false, narrowed := true }
def BytesFormsUptoSaid : Prop := bytesFormsUptoRow.holds Try.pinned (OpenSpec.upto bytesFormsSpec)

/-- 'potsherdlaw3.BytesReads', WHERE WHAT IT READS IS OF BULK AT MOST 1048576: true; the input reads as it did. -/
def bytesReadsUptoRow : OpenClaim := { program := "ytnfkegeboelaeaa", sum := "c1481771d7b59fe260b2db99ad8cbcee6206a9d1e63f8795d560692ce77d542e", func := "potsherd/potsherdlaw3.BytesReads", spec := "bytesReads", apart := false, narrowed := true }
def BytesReadsUptoSaid : Prop := bytesReadsUptoRow.holds Try.pinned (OpenSpec.upto bytesReadsSpec)

/-- 'potsherdlaw3.BytesBack', WHERE WHAT IT READS IS OF BULK AT MOST 1048576: true; the input reads as it did. -/
def bytesBackUptoRow : OpenClaim := { program := "ytnfkegeboelaeaa", sum := "c1481771d7b59fe260b2db99ad8cbcee6206a9d1e63f8795d560692ce77d542e", func := "potsherd/potsherdlaw3.BytesBack", spec := "bytesBack", apart := false, narrowed := true }
def BytesBackUptoSaid : Prop := bytesBackUptoRow.holds Try.pinned (OpenSpec.upto bytesBackSpec)

/-- 'potsherdlaw3.BytesNil', WHERE WHAT IT READS IS OF BULK AT MOST 1048576: true; the input reads as it did. -/
def bytesNilUptoRow : OpenClaim := { program := "ytnfkegeboelaeaa", sum := "c1481771d7b59fe260b2db99ad8cbcee6206a9d1e63f8795d560692ce77d542e", func := "potsherd/potsherdlaw3.BytesNil", spec := "bytesNil", apart := false, narrowed := true }
def BytesNilUptoSaid : Prop := bytesNilUptoRow.holds Try.pinned (OpenSpec.upto bytesNilSpec)

/-- 'potsherdlaw3.BytesOne', WHERE WHAT IT READS IS OF BULK AT MOST 1048576: true; the input reads as it did. -/
def bytesOneUptoRow : OpenClaim := { program := "ytnfkegeboelaeaa", sum := "c1481771d7b59fe260b2db99ad8cbcee6206a9d1e63f8795d560692ce77d542e", func := "potsherd/potsherdlaw3.BytesOne", spec := "bytesOne", apart := false, narrowed := true }
def BytesOneUptoSaid : Prop := bytesOneUptoRow.holds Try.pinned (OpenSpec.upto bytesOneSpec)

/-- 'potsherdlaw3.BytesBounds', WHERE WHAT IT READS IS OF BULK AT MOST 1048576: true; the input reads as it did. -/
def bytesBoundsUptoRow : OpenClaim := { program := "ytnfkegeboelaeaa", sum := "c1481771d7b59fe260b2db99ad8cbcee6206a9d1e63f8795d560692ce77d542e", func := "potsherd/potsherdlaw3.BytesBounds", spec := "bytesBounds", apart := false, narrowed := true }
def BytesBoundsUptoSaid : Prop := bytesBoundsUptoRow.holds Try.pinned (OpenSpec.upto bytesBoundsSpec)

end Rows
end Go.Proofs.Ytnfkegeboelaeaa
