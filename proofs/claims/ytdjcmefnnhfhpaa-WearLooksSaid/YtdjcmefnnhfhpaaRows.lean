/-
  No cell of these rows narrows 'for every input' (looked for: loops, veiled, ifaces, maps, wideKeys, modest, calm, conditions, laid).
  DERIVED. THE GIVEN ROWS OF THIS SEAT. 5 by the template 'for every input the law returns true; each argument reads behind the call as it read before'; 0 by the template 'total and deterministic' (their statements: YtdjcmefnnhfhpaaTotals.lean).
  GIVEN WITH THE SEED: the statements are not yours to turn. If you find one false, say at which input.
  Laid BY PROGRAM, IN A SANDBOX (cutbox-rows.mjs): the forced cells as the released guide's own fill.sh prints them over the translation 913a358e8c98e4d4… (all of the seat's roots in one cut). By AI agents, Wed Nov 11 2026. No macro, syntax, notation, axiom, sorry.
-/
import Derived.Test.YtdjcmefnnhfhpaaChecked
import GoSem.Claim
import GoSem.ClaimJoined
import GoSem.ClaimMapViews
import Derived.JoinedTies
import Derived.KernelRfl
namespace Go.Proofs.Ytdjcmefnnhfhpaa
/- THE CELL 'sum', in the pinned program and in every row, IS THE sha256 OF THE DUMP (.gsa) THAT YtdjcmefnnhfhpaaProg.lean LOADS. Nothing in Lean hashes anything: it is a label: what it is worth is what the hold of that sum in a sandbox is worth. -/
noncomputable def Try.pinned : Pinned := { name := "ytdjcmefnnhfhpaa", sum := "913a358e8c98e4d4281e67150535ed2a93cfcedf427cae9ec11696f90b8e3a1c", checked := Try.checked }
namespace Rows
def none {H : Type} : Left H := { results := [], args := [] }

/-- 'potsherdlaw7.WearForms': WHATEVER THE INPUT: true; the input reads as it did. -/
def wearFormsSpec : ChangeSpec := { name := "wearForms", fn := fun _ => fun
  | [d1, d2, d3] => { results := [.lit (.bool true)], args := [d1, d2, d3] }
  | _ => none }
def wearFormsRow : OpenClaim := { program := "ytdjcmefnnhfhpaa", sum := "913a358e8c98e4d4281e67150535ed2a93cfcedf427cae9ec11696f90b8e3a1c", func := "potsherd/potsherdlaw7.WearForms", spec := "wearForms", unfollowed := true, recurses := true, apart := false }
def WearFormsSaid : Prop := wearFormsRow.holds Try.pinned (OpenSpec.ofChange wearFormsSpec)

/-- ITS FALSE NEIGHBOUR: 'it returns false'. Refute it at one input. -/
def wearFormsWrong : ChangeSpec := { name := "wearForms", fn := fun _ => fun
  | [d1, d2, d3] => { results := [.lit (.bool false)], args := [d1, d2, d3] }
  | _ => none }
def WearFormsWrongFalsely : Prop := wearFormsRow.holds Try.pinned (OpenSpec.ofChange wearFormsWrong)

/-- 'potsherdlaw7.WearEnds': WHATEVER THE INPUT: true; the input reads as it did. -/
def wearEndsSpec : ChangeSpec := { name := "wearEnds", fn := fun _ => fun
  | [d1, d2, d3] => { results := [.lit (.bool true)], args := [d1, d2, d3] }
  | _ => none }
def wearEndsRow : OpenClaim := { program := "ytdjcmefnnhfhpaa", sum := "913a358e8c98e4d4281e67150535ed2a93cfcedf427cae9ec11696f90b8e3a1c", func := "potsherd/potsherdlaw7.WearEnds", spec := "wearEnds", unfollowed := true, recurses := true, apart := false }
def WearEndsSaid : Prop := wearEndsRow.holds Try.pinned (OpenSpec.ofChange wearEndsSpec)

/-- ITS FALSE NEIGHBOUR: 'it returns false'. Refute it at one input. -/
def wearEndsWrong : ChangeSpec := { name := "wearEnds", fn := fun _ => fun
  | [d1, d2, d3] => { results := [.lit (.bool false)], args := [d1, d2, d3] }
  | _ => none }
def WearEndsWrongFalsely : Prop := wearEndsRow.holds Try.pinned (OpenSpec.ofChange wearEndsWrong)

/-- 'potsherdlaw7.WearOne': WHATEVER THE INPUT: true; the input reads as it did. -/
def wearOneSpec : ChangeSpec := { name := "wearOne", fn := fun _ => fun
  | [d1, d2, d3] => { results := [.lit (.bool true)], args := [d1, d2, d3] }
  | _ => none }
def wearOneRow : OpenClaim := { program := "ytdjcmefnnhfhpaa", sum := "913a358e8c98e4d4281e67150535ed2a93cfcedf427cae9ec11696f90b8e3a1c", func := "potsherd/potsherdlaw7.WearOne", spec := "wearOne", unfollowed := true, recurses := true, apart := false }
def WearOneSaid : Prop := wearOneRow.holds Try.pinned (OpenSpec.ofChange wearOneSpec)

/-- ITS FALSE NEIGHBOUR: 'it returns false'. Refute it at one input. -/
def wearOneWrong : ChangeSpec := { name := "wearOne", fn := fun _ => fun
  | [d1, d2, d3] => { results := [.lit (.bool false)], args := [d1, d2, d3] }
  | _ => none }
def WearOneWrongFalsely : Prop := wearOneRow.holds Try.pinned (OpenSpec.ofChange wearOneWrong)

/-- 'potsherdlaw7.WearLooks': WHATEVER THE INPUT: true; the input reads as it did. -/
def wearLooksSpec : ChangeSpec := { name := "wearLooks", fn := fun _ => fun
  | [d1, d2, d3, d4] => { results := [.lit (.bool true)], args := [d1, d2, d3, d4] }
  | _ => none }
def wearLooksRow : OpenClaim := { program := "ytdjcmefnnhfhpaa", sum := "913a358e8c98e4d4281e67150535ed2a93cfcedf427cae9ec11696f90b8e3a1c", func := "potsherd/potsherdlaw7.WearLooks", spec := "wearLooks", unfollowed := true, recurses := true, apart := false }
def WearLooksSaid : Prop := wearLooksRow.holds Try.pinned (OpenSpec.ofChange wearLooksSpec)

/-- ITS FALSE NEIGHBOUR: 'it returns false'. Refute it at one input. -/
def wearLooksWrong : ChangeSpec := { name := "wearLooks", fn := fun _ => fun
  | [d1, d2, d3, d4] => { results := [.lit (.bool false)], args := [d1, d2, d3, d4] }
  | _ => none }
def WearLooksWrongFalsely : Prop := wearLooksRow.holds Try.pinned (OpenSpec.ofChange wearLooksWrong)

/-- 'potsherdlaw7.WearBuckets': WHATEVER THE INPUT: true; the input reads as it did. -/
def wearBucketsSpec : ChangeSpec := { name := "wearBuckets", fn := fun _ => fun
  | [d1, d2] => { results := [.lit (.bool true)], args := [d1, d2] }
  | _ => none }
def wearBucketsRow : OpenClaim := { program := "ytdjcmefnnhfhpaa", sum := "913a358e8c98e4d4281e67150535ed2a93cfcedf427cae9ec11696f90b8e3a1c", func := "potsherd/potsherdlaw7.WearBuckets", spec := "wearBuckets", unfollowed := true, recurses := true, apart := false }
def WearBucketsSaid : Prop := wearBucketsRow.holds Try.pinned (OpenSpec.ofChange wearBucketsSpec)

/-- ITS FALSE NEIGHBOUR: 'it returns false'. Refute it at one input. -/
def wearBucketsWrong : ChangeSpec := { name := "wearBuckets", fn := fun _ => fun
  | [d1, d2] => { results := [.lit (.bool false)], args := [d1, d2] }
  | _ => none }
def WearBucketsWrongFalsely : Prop := wearBucketsRow.holds Try.pinned (OpenSpec.ofChange wearBucketsWrong)

/- THE SECOND FORM. 'bulk': how many values and letters a reading holds, each counted each time it is reached (what is shared counts as often as it is met; a slice's spare places count too). A statement '..UptoSaid' is the law's where the arguments, and the package variables that the reading takes, are together of bulk at most 1048576: NARROWER than '..Said'. Prove '..Said' where nothing that the law and all that it calls make is longer than what came in: it says more and counts as full. Else prove '..UptoSaid'. A law counts once. -/
mutual
def uptoBulk {H : Type} : DataW H → Nat
  | .lit (.string bytes) => bytes.length + 1
  | .lit _ => 1
  | .nil => 1
  | .ptr d => uptoBulk d + 1
  | .slice elems spare => uptoBulkAll elems + uptoBulkAll spare + 1
  | .agg parts => uptoBulkAll parts + 1
  | .iface _ d => uptoBulk d + 1
  | .map entries => uptoBulkEntries entries + 1
  | .held _ => 1
def uptoBulkAll {H : Type} : List (DataW H) → Nat
  | [] => 0
  | d :: r => uptoBulk d + uptoBulkAll r
def uptoBulkEntries {H : Type} : List (Lit × DataW H) → Nat
  | [] => 0
  | x :: r => uptoBulkEntry x + uptoBulkEntries r
def uptoBulkEntry {H : Type} : Lit × DataW H → Nat
  | (.string bytes, d) => bytes.length + uptoBulk d + 1
  | (_, d) => uptoBulk d + 1
 end
def uptoSmall : (H : Type) → List (DataW H) → Bool := fun _ ds => decide (uptoBulkAll ds ≤ 1048576)
def OpenSpec.upto (s : _root_.Go.ChangeSpec) : _root_.Go.OpenSpec := { _root_.Go.OpenSpec.ofChange s with cond := some uptoSmall }

/-- 'potsherdlaw7.WearForms', WHERE WHAT IT READS IS OF BULK AT MOST 1048576: true; the input reads as it did. -/
def wearFormsUptoRow : OpenClaim := { program := "ytdjcmefnnhfhpaa", sum := "913a358e8c98e4d4281e67150535ed2a93cfcedf427cae9ec11696f90b8e3a1c", func := "potsherd/potsherdlaw7.WearForms", spec := "wearForms", unfollowed := true, recurses := true, apart := false, narrowed := true }
def WearFormsUptoSaid : Prop := wearFormsUptoRow.holds Try.pinned (OpenSpec.upto wearFormsSpec)

/-- 'potsherdlaw7.WearEnds', WHERE WHAT IT READS IS OF BULK AT MOST 1048576: true; the input reads as it did. -/
def wearEndsUptoRow : OpenClaim := { program := "ytdjcmefnnhfhpaa", sum := "913a358e8c98e4d4281e67150535ed2a93cfcedf427cae9ec11696f90b8e3a1c", func := "potsherd/potsherdlaw7.WearEnds", spec := "wearEnds", unfollowed := true, recurses := true, apart := false, narrowed := true }
def WearEndsUptoSaid : Prop := wearEndsUptoRow.holds Try.pinned (OpenSpec.upto wearEndsSpec)

/-- 'potsherdlaw7.WearOne', WHERE WHAT IT READS IS OF BULK AT MOST 1048576: true; the input reads as it did. -/
def wearOneUptoRow : OpenClaim := { program := "ytdjcmefnnhfhpaa", sum := "913a358e8c98e4d4281e67150535ed2a93cfcedf427cae9ec11696f90b8e3a1c", func := "potsherd/potsherdlaw7.WearOne", spec := "wearOne", unfollowed := true, recurses := true, apart := false, narrowed := true }
def WearOneUptoSaid : Prop := wearOneUptoRow.holds Try.pinned (OpenSpec.upto wearOneSpec)

/-- 'potsherdlaw7.WearLooks', WHERE WHAT IT READS IS OF BULK AT MOST 1048576: true; the input reads as it did. -/
def wearLooksUptoRow : OpenClaim := { program := "ytdjcmefnnhfhpaa", sum := "913a358e8c98e4d4281e67150535ed2a93cfcedf427cae9ec11696f90b8e3a1c", func := "potsherd/potsherdlaw7.WearLooks", spec := "wearLooks", unfollowed := true, recurses := true, apart := false, narrowed := true }
def WearLooksUptoSaid : Prop := wearLooksUptoRow.holds Try.pinned (OpenSpec.upto wearLooksSpec)

/-- 'potsherdlaw7.WearBuckets', WHERE WHAT IT READS IS OF BULK AT MOST 1048576: true; the input reads as it did. -/
def wearBucketsUptoRow : OpenClaim := { program := "ytdjcmefnnhfhpaa", sum := "913a358e8c98e4d4281e67150535ed2a93cfcedf427cae9ec11696f90b8e3a1c", func := "potsherd/potsherdlaw7.WearBuckets", spec := "wearBuckets", unfollowed := true, recurses := true, apart := false, narrowed := true }
def WearBucketsUptoSaid : Prop := wearBucketsUptoRow.holds Try.pinned (OpenSpec.upto wearBucketsSpec)

end Rows
end Go.Proofs.Ytdjcmefnnhfhpaa
