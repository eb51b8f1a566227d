/-
  No cell of these rows narrows 'for every input' (looked for: loops, veiled, ifaces, maps, wideKeys, modest, calm, conditions, laid).
  DERIVED. THE GIVEN ROWS OF THIS SEAT. 8 by the template 'for every input the law returns true; each argument reads behind the call as it read before'; 0 by the template 'total and deterministic' (their statements: YtloldgiggnhemaaTotals.lean).
  GIVEN WITH THE SEED: the statements are not yours to turn. If you find one false, say at which input.
  Laid BY PROGRAM, IN A SANDBOX (cutbox-rows.mjs): the forced cells as the released guide's own fill.sh prints them over the translation 9eba38f55a0f7bae… (all of the seat's roots in one cut). By AI agents, Wed Nov 11 2026. No macro, syntax, notation, axiom, sorry.
-/
import Derived.Test.YtloldgiggnhemaaChecked
import GoSem.Claim
import GoSem.ClaimJoined
import GoSem.ClaimMapViews
import Derived.JoinedTies
import Derived.KernelRfl
namespace Go.Proofs.Ytloldgiggnhemaa
/- THE CELL 'sum', in the pinned program and in every row, IS THE sha256 OF THE DUMP (.gsa) THAT YtloldgiggnhemaaProg.lean LOADS. Nothing in Lean hashes anything: it is a label: what it is worth is what the hold of that sum in a sandbox is worth. -/
noncomputable def Try.pinned : Pinned := { name := "ytloldgiggnhemaa", sum := "9eba38f55a0f7baed01d53733966db591d0917f24f62e64ed59dd1fc02ad3814", checked := Try.checked }
namespace Rows
def none {H : Type} : Left H := { results := [], args := [] }

/-- 'potsherdlaw4.ChipFails': WHATEVER THE INPUT: true; the input reads as it did. -/
def chipFailsSpec : ChangeSpec := { name := "chipFails", fn := fun _ => fun
  | [d1, d2] => { results := [.lit (.bool true)], args := [d1, d2] }
  | _ => none }
def chipFailsRow : OpenClaim := { program := "ytloldgiggnhemaa", sum := "9eba38f55a0f7baed01d53733966db591d0917f24f62e64ed59dd1fc02ad3814", func := "potsherd/potsherdlaw4.ChipFails", spec := "chipFails", unfollowed := true, recurses := true, apart := false }
def ChipFailsSaid : Prop := chipFailsRow.holds Try.pinned (OpenSpec.ofChange chipFailsSpec)

/-- ITS FALSE NEIGHBOUR: 'it returns false'. Refute it at one input. -/
def chipFailsWrong : ChangeSpec := { name := "chipFails", fn := fun _ => fun
  | [d1, d2] => { results := [.lit (.bool false)], args := [d1, d2] }
  | _ => none }
def ChipFailsWrongFalsely : Prop := chipFailsRow.holds Try.pinned (OpenSpec.ofChange chipFailsWrong)

/-- 'potsherdlaw4.ChipWorn': WHATEVER THE INPUT: true; the input reads as it did. -/
def chipWornSpec : ChangeSpec := { name := "chipWorn", fn := fun _ => fun
  | [d] => { results := [.lit (.bool true)], args := [d] }
  | _ => none }
def chipWornRow : OpenClaim := { program := "ytloldgiggnhemaa", sum := "9eba38f55a0f7baed01d53733966db591d0917f24f62e64ed59dd1fc02ad3814", func := "potsherd/potsherdlaw4.ChipWorn", spec := "chipWorn", unfollowed := true, recurses := true, apart := false }
def ChipWornSaid : Prop := chipWornRow.holds Try.pinned (OpenSpec.ofChange chipWornSpec)

/-- ITS FALSE NEIGHBOUR: 'it returns false'. Refute it at one input. -/
def chipWornWrong : ChangeSpec := { name := "chipWorn", fn := fun _ => fun
  | [d] => { results := [.lit (.bool false)], args := [d] }
  | _ => none }
def ChipWornWrongFalsely : Prop := chipWornRow.holds Try.pinned (OpenSpec.ofChange chipWornWrong)

/-- 'potsherdlaw4.ChipOrder': WHATEVER THE INPUT: true; the input reads as it did. -/
def chipOrderSpec : ChangeSpec := { name := "chipOrder", fn := fun _ => fun
  | [d1, d2, d3] => { results := [.lit (.bool true)], args := [d1, d2, d3] }
  | _ => none }
def chipOrderRow : OpenClaim := { program := "ytloldgiggnhemaa", sum := "9eba38f55a0f7baed01d53733966db591d0917f24f62e64ed59dd1fc02ad3814", func := "potsherd/potsherdlaw4.ChipOrder", spec := "chipOrder", unfollowed := true, recurses := true, apart := false }
def ChipOrderSaid : Prop := chipOrderRow.holds Try.pinned (OpenSpec.ofChange chipOrderSpec)

/-- ITS FALSE NEIGHBOUR: 'it returns false'. Refute it at one input. -/
def chipOrderWrong : ChangeSpec := { name := "chipOrder", fn := fun _ => fun
  | [d1, d2, d3] => { results := [.lit (.bool false)], args := [d1, d2, d3] }
  | _ => none }
def ChipOrderWrongFalsely : Prop := chipOrderRow.holds Try.pinned (OpenSpec.ofChange chipOrderWrong)

/-- 'potsherdlaw4.ChipTorn': WHATEVER THE INPUT: true; the input reads as it did. -/
def chipTornSpec : ChangeSpec := { name := "chipTorn", fn := fun _ => fun
  | [d1, d2, d3] => { results := [.lit (.bool true)], args := [d1, d2, d3] }
  | _ => none }
def chipTornRow : OpenClaim := { program := "ytloldgiggnhemaa", sum := "9eba38f55a0f7baed01d53733966db591d0917f24f62e64ed59dd1fc02ad3814", func := "potsherd/potsherdlaw4.ChipTorn", spec := "chipTorn", unfollowed := true, recurses := true, apart := false }
def ChipTornSaid : Prop := chipTornRow.holds Try.pinned (OpenSpec.ofChange chipTornSpec)

/-- ITS FALSE NEIGHBOUR: 'it returns false'. Refute it at one input. -/
def chipTornWrong : ChangeSpec := { name := "chipTorn", fn := fun _ => fun
  | [d1, d2, d3] => { results := [.lit (.bool false)], args := [d1, d2, d3] }
  | _ => none }
def ChipTornWrongFalsely : Prop := chipTornRow.holds Try.pinned (OpenSpec.ofChange chipTornWrong)

/-- 'potsherdlaw4.ChipStands': WHATEVER THE INPUT: true; the input reads as it did. -/
def chipStandsSpec : ChangeSpec := { name := "chipStands", fn := fun _ => fun
  | [d1, d2, d3] => { results := [.lit (.bool true)], args := [d1, d2, d3] }
  | _ => none }
def chipStandsRow : OpenClaim := { program := "ytloldgiggnhemaa", sum := "9eba38f55a0f7baed01d53733966db591d0917f24f62e64ed59dd1fc02ad3814", func := "potsherd/potsherdlaw4.ChipStands", spec := "chipStands", unfollowed := true, recurses := true, apart := false }
def ChipStandsSaid : Prop := chipStandsRow.holds Try.pinned (OpenSpec.ofChange chipStandsSpec)

/-- ITS FALSE NEIGHBOUR: 'it returns false'. Refute it at one input. -/
def chipStandsWrong : ChangeSpec := { name := "chipStands", fn := fun _ => fun
  | [d1, d2, d3] => { results := [.lit (.bool false)], args := [d1, d2, d3] }
  | _ => none }
def ChipStandsWrongFalsely : Prop := chipStandsRow.holds Try.pinned (OpenSpec.ofChange chipStandsWrong)

/-- 'potsherdlaw4.ChipPlays': WHATEVER THE INPUT: true; the input reads as it did. -/
def chipPlaysSpec : ChangeSpec := { name := "chipPlays", fn := fun _ => fun
  | [d1, d2, d3, d4] => { results := [.lit (.bool true)], args := [d1, d2, d3, d4] }
  | _ => none }
def chipPlaysRow : OpenClaim := { program := "ytloldgiggnhemaa", sum := "9eba38f55a0f7baed01d53733966db591d0917f24f62e64ed59dd1fc02ad3814", func := "potsherd/potsherdlaw4.ChipPlays", spec := "chipPlays", unfollowed := true, recurses := true, apart := false }
def ChipPlaysSaid : Prop := chipPlaysRow.holds Try.pinned (OpenSpec.ofChange chipPlaysSpec)

/-- ITS FALSE NEIGHBOUR: 'it returns false'. Refute it at one input. -/
def chipPlaysWrong : ChangeSpec := { name := "chipPlays", fn := fun _ => fun
  | [d1, d2, d3, d4] => { results := [.lit (.bool false)], args := [d1, d2, d3, d4] }
  | _ => none }
def ChipPlaysWrongFalsely : Prop := chipPlaysRow.holds Try.pinned (OpenSpec.ofChange chipPlaysWrong)

/-- 'potsherdlaw4.ChipNil': WHATEVER THE INPUT: true; the input reads as it did. -/
def chipNilSpec : ChangeSpec := { name := "chipNil", fn := fun _ => fun
  | [d] => { results := [.lit (.bool true)], args := [d] }
  | _ => none }
def chipNilRow : OpenClaim := { program := "ytloldgiggnhemaa", sum := "9eba38f55a0f7baed01d53733966db591d0917f24f62e64ed59dd1fc02ad3814", func := "potsherd/potsherdlaw4.ChipNil", spec := "chipNil", unfollowed := true, recurses := true, apart := false }
def ChipNilSaid : Prop := chipNilRow.holds Try.pinned (OpenSpec.ofChange chipNilSpec)

/-- ITS FALSE NEIGHBOUR: 'it returns false'. Refute it at one input. -/
def chipNilWrong : ChangeSpec := { name := "chipNil", fn := fun _ => fun
  | [d] => { results := [.lit (.bool false)], args := [d] }
  | _ => none }
def ChipNilWrongFalsely : Prop := chipNilRow.holds Try.pinned (OpenSpec.ofChange chipNilWrong)

/-- 'potsherdlaw8.BlockChip': WHATEVER THE INPUT: true; the input reads as it did. -/
def blockChipSpec : ChangeSpec := { name := "blockChip", fn := fun _ => fun
  | [d1, d2] => { results := [.lit (.bool true)], args := [d1, d2] }
  | _ => none }
def blockChipRow : OpenClaim := { program := "ytloldgiggnhemaa", sum := "9eba38f55a0f7baed01d53733966db591d0917f24f62e64ed59dd1fc02ad3814", func := "potsherd/potsherdlaw8.BlockChip", spec := "blockChip", unfollowed := true, recurses := true, apart := false }
def BlockChipSaid : Prop := blockChipRow.holds Try.pinned (OpenSpec.ofChange blockChipSpec)

/-- ITS FALSE NEIGHBOUR: 'it returns false'. Refute it at one input. -/
def blockChipWrong : ChangeSpec := { name := "blockChip", fn := fun _ => fun
  | [d1, d2] => { results := [.lit (.bool false)], args := [d1, d2] }
  | _ => none }
def BlockChipWrongFalsely : Prop := blockChipRow.holds Try.pinned (OpenSpec.ofChange blockChipWrong)

/- THE SECOND FORM. 'bulk': how many values and letters a reading holds, each counted each time it is reached (what is shared counts as often as it is met; a slice's spare places count too). A statement '..UptoSaid' is the law's where the arguments, and the package variables that the reading takes, are together of bulk at most 1048576: NARROWER than '..Said'. Prove '..Said' where nothing that the law and all that it calls make is longer than what came in: it says more and counts as full. Else prove '..UptoSaid'. A law counts once. -/
mutual
def uptoBulk {H : Type} : DataW H → Nat
  | .lit (.string bytes) => bytes.length + 1
  | .lit _ => 1
  | .nil => 1
  | .ptr d => uptoBulk d + 1
  | .slice elems spare => uptoBulkAll elems + uptoBulkAll spare + 1
  | .agg parts => uptoBulkAll parts + 1
  | .iface _ d => uptoBulk d + 1
  | .map entries => uptoBulkEntries entries + 1
  | .held _ => 1
def uptoBulkAll {H : Type} : List (DataW H) → Nat
  | [] => 0
  | d :: r => uptoBulk d + uptoBulkAll r
def uptoBulkEntries {H : Type} : List (Lit × DataW H) → Nat
  | [] => 0
  | x :: r => uptoBulkEntry x + uptoBulkEntries r
def uptoBulkEntry {H : Type} : Lit × DataW H → Nat
  | (.string bytes, d) => bytes.length + uptoBulk d + 1
  | (_, d) => uptoBulk d + 1
 end
def uptoSmall : (H : Type) → List (DataW H) → Bool := fun _ ds => decide (uptoBulkAll ds ≤ 1048576)
def OpenSpec.upto (s : _root_.Go.ChangeSpec) : _root_.Go.OpenSpec := { _root_.Go.OpenSpec.ofChange s with cond := some uptoSmall }

/-- 'potsherdlaw4.ChipFails', WHERE WHAT IT READS IS OF BULK AT MOST 1048576: true; the input reads as it did. -/
def chipFailsUptoRow : OpenClaim := { program := "ytloldgiggnhemaa", sum := "9eba38f55a0f7baed01d53733966db591d0917f24f62e64ed59dd1fc02ad3814", func := "potsherd/potsherdlaw4.ChipFails", spec := "chipFails", unfollowed := true, recurses := true, apart := false, narrowed := true }
def ChipFailsUptoSaid : Prop := chipFailsUptoRow.holds Try.pinned (OpenSpec.upto chipFailsSpec)

/-- 'potsherdlaw4.ChipWorn', WHERE WHAT IT READS IS OF BULK AT MOST 1048576: true; the input reads as it did. -/
def chipWornUptoRow : OpenClaim := { program := "ytloldgiggnhemaa", sum := "9eba38f55a0f7baed01d53733966db591d0917f24f62e64ed59dd1fc02ad3814", func := "potsherd/potsherdlaw4.ChipWorn", spec := "chipWorn", unfollowed := true, recurses := true, apart := false, narrowed := true }
def ChipWornUptoSaid : Prop := chipWornUptoRow.holds Try.pinned (OpenSpec.upto chipWornSpec)

/-- 'potsherdlaw4.ChipOrder', WHERE WHAT IT READS IS OF BULK AT MOST 1048576: true; the input reads as it did. -/
def chipOrderUptoRow : OpenClaim := { program := "ytloldgiggnhemaa", sum := "9eba38f55a0f7baed01d53733966db591d0917f24f62e64ed59dd1fc02ad3814", func := "potsherd/potsherdlaw4.ChipOrder", spec := "chipOrder", unfollowed := true, recurses := true, apart := false, narrowed := true }
def ChipOrderUptoSaid : Prop := chipOrderUptoRow.holds Try.pinned (OpenSpec.upto chipOrderSpec)

/-- 'potsherdlaw4.ChipTorn', WHERE WHAT IT READS IS OF BULK AT MOST 1048576: true; the input reads as it did. -/
def chipTornUptoRow : OpenClaim := { program := "ytloldgiggnhemaa", sum := "9eba38f55a0f7baed01d53733966db591d0917f24f62e64ed59dd1fc02ad3814", func := "potsherd/potsherdlaw4.ChipTorn", spec := "chipTorn", unfollowed := true, recurses := true, apart := false, narrowed := true }
def ChipTornUptoSaid : Prop := chipTornUptoRow.holds Try.pinned (OpenSpec.upto chipTornSpec)

/-- 'potsherdlaw4.ChipStands', WHERE WHAT IT READS IS OF BULK AT MOST 1048576: true; the input reads as it did. -/
def chipStandsUptoRow : OpenClaim := { program := "ytloldgiggnhemaa", sum := "9eba38f55a0f7baed01d53733966db591d0917f24f62e64ed59dd1fc02ad3814", func := "potsherd/potsherdlaw4.ChipStands", spec := "chipStands", unfollowed := true, recurses := true, apart := false, narrowed := true }
def ChipStandsUptoSaid : Prop := chipStandsUptoRow.holds Try.pinned (OpenSpec.upto chipStandsSpec)

/-- 'potsherdlaw4.ChipPlays', WHERE WHAT IT READS IS OF BULK AT MOST 1048576: true; the input reads as it did. -/
def chipPlaysUptoRow : OpenClaim := { program := "ytloldgiggnhemaa", sum := "9eba38f55a0f7baed01d53733966db591d0917f24f62e64ed59dd1fc02ad3814", func := "potsherd/potsherdlaw4.ChipPlays", spec := "chipPlays", unfollowed := true, recurses := true, apart := false, narrowed := true }
def ChipPlaysUptoSaid : Prop := chipPlaysUptoRow.holds Try.pinned (OpenSpec.upto chipPlaysSpec)

/-- 'potsherdlaw4.ChipNil', WHERE WHAT IT READS IS OF BULK AT MOST 1048576: true; the input reads as it did. -/
def chipNilUptoRow : OpenClaim := { program := "ytloldgiggnhemaa", sum := "9eba38f55a0f7baed01d53733966db591d0917f24f62e64ed59dd1fc02ad3814", func := "potsherd/potsherdlaw4.ChipNil", spec := "chipNil", unfollowed := true, recurses := true, apart := false, narrowed := true }
def ChipNilUptoSaid : Prop := chipNilUptoRow.holds Try.pinned (OpenSpec.upto chipNilSpec)

/-- 'potsherdlaw8.BlockChip', WHERE WHAT IT READS IS OF BULK AT MOST 1048576: true; the input reads as it did. -/
def blockChipUptoRow : OpenClaim := { program := "ytloldgiggnhemaa", sum := "9eba38f55a0f7baed01d53733966db591d0917f24f62e64ed59dd1fc02ad3814", func := "potsherd/potsherdlaw8.BlockChip", spec := "blockChip", unfollowed := true, recurses := true, apart := false, narrowed := true }
def BlockChipUptoSaid : Prop := blockChipUptoRow.holds Try.pinned (OpenSpec.upto blockChipSpec)

end Rows
end Go.Proofs.Ytloldgiggnhemaa
