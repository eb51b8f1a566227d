/-
  No cell of these rows narrows 'for every input' (looked for: loops, veiled, ifaces, maps, wideKeys, modest, calm, conditions, laid).
  DERIVED. THE GIVEN ROWS OF THIS SEAT. 9 by the template 'for every input the law returns true; each argument reads behind the call as it read before'; 0 by the template 'total and deterministic' (their statements: YtflaaphlghkpnaaTotals.lean).
  GIVEN WITH THE SEED: the statements are not yours to turn. If you find one false, say at which input.
  Laid BY PROGRAM, IN A SANDBOX (cutbox-rows.mjs): the forced cells as the released guide's own fill.sh prints them over the translation 639aa10641390701… (all of the seat's roots in one cut). By AI agents, Wed Nov 11 2026. No macro, syntax, notation, axiom, sorry.
-/
import Derived.Test.YtflaaphlghkpnaaChecked
import GoSem.Claim
import GoSem.ClaimJoined
import GoSem.ClaimMapViews
import Derived.JoinedTies
import Derived.KernelRfl
namespace Go.Proofs.Ytflaaphlghkpnaa
/- THE CELL 'sum', in the pinned program and in every row, IS THE sha256 OF THE DUMP (.gsa) THAT YtflaaphlghkpnaaProg.lean LOADS. Nothing in Lean hashes anything: it is a label: what it is worth is what the hold of that sum in a sandbox is worth. -/
noncomputable def Try.pinned : Pinned := { name := "ytflaaphlghkpnaa", sum := "639aa106413907014d02401ff7b0c0f7daff4614dce26d23d06c0737dd6a30fc", checked := Try.checked }
namespace Rows
def none {H : Type} : Left H := { results := [], args := [] }

/-- 'potsherdlaw8.BlockTurns': WHATEVER THE INPUT: true; the input reads as it did. -/
def blockTurnsSpec : ChangeSpec := { name := "blockTurns", fn := fun _ => fun
  | [d1, d2] => { results := [.lit (.bool true)], args := [d1, d2] }
  | _ => none }
def blockTurnsRow : OpenClaim := { program := "ytflaaphlghkpnaa", sum := "639aa106413907014d02401ff7b0c0f7daff4614dce26d23d06c0737dd6a30fc", func := "potsherd/potsherdlaw8.BlockTurns", spec := "blockTurns", apart := false }
def BlockTurnsSaid : Prop := blockTurnsRow.holds Try.pinned (OpenSpec.ofChange blockTurnsSpec)

/-- ITS FALSE NEIGHBOUR: 'it returns false'. Refute it at one input. -/
def blockTurnsWrong : ChangeSpec := { name := "blockTurns", fn := fun _ => fun
  | [d1, d2] => { results := [.lit (.bool false)], args := [d1, d2] }
  | _ => none }
def BlockTurnsWrongFalsely : Prop := blockTurnsRow.holds Try.pinned (OpenSpec.ofChange blockTurnsWrong)

/-- 'potsherdlaw8.BlockOne': WHATEVER THE INPUT: true; the input reads as it did. -/
def blockOneSpec : ChangeSpec := { name := "blockOne", fn := fun _ => fun
  | [d1, d2] => { results := [.lit (.bool true)], args := [d1, d2] }
  | _ => none }
def blockOneRow : OpenClaim := { program := "ytflaaphlghkpnaa", sum := "639aa106413907014d02401ff7b0c0f7daff4614dce26d23d06c0737dd6a30fc", func := "potsherd/potsherdlaw8.BlockOne", spec := "blockOne", apart := false }
def BlockOneSaid : Prop := blockOneRow.holds Try.pinned (OpenSpec.ofChange blockOneSpec)

/-- ITS FALSE NEIGHBOUR: 'it returns false'. Refute it at one input. -/
def blockOneWrong : ChangeSpec := { name := "blockOne", fn := fun _ => fun
  | [d1, d2] => { results := [.lit (.bool false)], args := [d1, d2] }
  | _ => none }
def BlockOneWrongFalsely : Prop := blockOneRow.holds Try.pinned (OpenSpec.ofChange blockOneWrong)

/-- 'potsherdlaw1.TurnOnce': WHATEVER THE INPUT: true; the input reads as it did. -/
def turnOnceSpec : ChangeSpec := { name := "turnOnce", fn := fun _ => fun
  | [d1, d2, d3] => { results := [.lit (.bool true)], args := [d1, d2, d3] }
  | _ => none }
def turnOnceRow : OpenClaim := { program := "ytflaaphlghkpnaa", sum := "639aa106413907014d02401ff7b0c0f7daff4614dce26d23d06c0737dd6a30fc", func := "potsherd/potsherdlaw1.TurnOnce", spec := "turnOnce", unfollowed := true, recurses := true, apart := false }
def TurnOnceSaid : Prop := turnOnceRow.holds Try.pinned (OpenSpec.ofChange turnOnceSpec)

/-- ITS FALSE NEIGHBOUR: 'it returns false'. Refute it at one input. -/
def turnOnceWrong : ChangeSpec := { name := "turnOnce", fn := fun _ => fun
  | [d1, d2, d3] => { results := [.lit (.bool false)], args := [d1, d2, d3] }
  | _ => none }
def TurnOnceWrongFalsely : Prop := turnOnceRow.holds Try.pinned (OpenSpec.ofChange turnOnceWrong)

/-- 'potsherdlaw1.TurnWhere': WHATEVER THE INPUT: true; the input reads as it did. -/
def turnWhereSpec : ChangeSpec := { name := "turnWhere", fn := fun _ => fun
  | [d] => { results := [.lit (.bool true)], args := [d] }
  | _ => none }
def turnWhereRow : OpenClaim := { program := "ytflaaphlghkpnaa", sum := "639aa106413907014d02401ff7b0c0f7daff4614dce26d23d06c0737dd6a30fc", func := "potsherd/potsherdlaw1.TurnWhere", spec := "turnWhere", unfollowed := true, recurses := true, apart := false }
def TurnWhereSaid : Prop := turnWhereRow.holds Try.pinned (OpenSpec.ofChange turnWhereSpec)

/-- ITS FALSE NEIGHBOUR: 'it returns false'. Refute it at one input. -/
def turnWhereWrong : ChangeSpec := { name := "turnWhere", fn := fun _ => fun
  | [d] => { results := [.lit (.bool false)], args := [d] }
  | _ => none }
def TurnWhereWrongFalsely : Prop := turnWhereRow.holds Try.pinned (OpenSpec.ofChange turnWhereWrong)

/-- 'potsherdlaw1.TurnSpots': WHATEVER THE INPUT: true; the input reads as it did. -/
def turnSpotsSpec : ChangeSpec := { name := "turnSpots", fn := fun _ => fun
  | [d1, d2] => { results := [.lit (.bool true)], args := [d1, d2] }
  | _ => none }
def turnSpotsRow : OpenClaim := { program := "ytflaaphlghkpnaa", sum := "639aa106413907014d02401ff7b0c0f7daff4614dce26d23d06c0737dd6a30fc", func := "potsherd/potsherdlaw1.TurnSpots", spec := "turnSpots", unfollowed := true, recurses := true, apart := false }
def TurnSpotsSaid : Prop := turnSpotsRow.holds Try.pinned (OpenSpec.ofChange turnSpotsSpec)

/-- ITS FALSE NEIGHBOUR: 'it returns false'. Refute it at one input. -/
def turnSpotsWrong : ChangeSpec := { name := "turnSpots", fn := fun _ => fun
  | [d1, d2] => { results := [.lit (.bool false)], args := [d1, d2] }
  | _ => none }
def TurnSpotsWrongFalsely : Prop := turnSpotsRow.holds Try.pinned (OpenSpec.ofChange turnSpotsWrong)

/-- 'potsherdlaw1.TurnLeft': WHATEVER THE INPUT: true; the input reads as it did. -/
def turnLeftSpec : ChangeSpec := { name := "turnLeft", fn := fun _ => fun
  | [d1, d2, d3] => { results := [.lit (.bool true)], args := [d1, d2, d3] }
  | _ => none }
def turnLeftRow : OpenClaim := { program := "ytflaaphlghkpnaa", sum := "639aa106413907014d02401ff7b0c0f7daff4614dce26d23d06c0737dd6a30fc", func := "potsherd/potsherdlaw1.TurnLeft", spec := "turnLeft", unfollowed := true, recurses := true, apart := false }
def TurnLeftSaid : Prop := turnLeftRow.holds Try.pinned (OpenSpec.ofChange turnLeftSpec)

/-- ITS FALSE NEIGHBOUR: 'it returns false'. Refute it at one input. -/
def turnLeftWrong : ChangeSpec := { name := "turnLeft", fn := fun _ => fun
  | [d1, d2, d3] => { results := [.lit (.bool false)], args := [d1, d2, d3] }
  | _ => none }
def TurnLeftWrongFalsely : Prop := turnLeftRow.holds Try.pinned (OpenSpec.ofChange turnLeftWrong)

/-- 'potsherdlaw1.TurnShift': WHATEVER THE INPUT: true; the input reads as it did. -/
def turnShiftSpec : ChangeSpec := { name := "turnShift", fn := fun _ => fun
  | [d1, d2] => { results := [.lit (.bool true)], args := [d1, d2] }
  | _ => none }
def turnShiftRow : OpenClaim := { program := "ytflaaphlghkpnaa", sum := "639aa106413907014d02401ff7b0c0f7daff4614dce26d23d06c0737dd6a30fc", func := "potsherd/potsherdlaw1.TurnShift", spec := "turnShift", unfollowed := true, recurses := true, apart := false }
def TurnShiftSaid : Prop := turnShiftRow.holds Try.pinned (OpenSpec.ofChange turnShiftSpec)

/-- ITS FALSE NEIGHBOUR: 'it returns false'. Refute it at one input. -/
def turnShiftWrong : ChangeSpec := { name := "turnShift", fn := fun _ => fun
  | [d1, d2] => { results := [.lit (.bool false)], args := [d1, d2] }
  | _ => none }
def TurnShiftWrongFalsely : Prop := turnShiftRow.holds Try.pinned (OpenSpec.ofChange turnShiftWrong)

/-- 'potsherdlaw1.TurnBoth': WHATEVER THE INPUT: true; the input reads as it did. -/
def turnBothSpec : ChangeSpec := { name := "turnBoth", fn := fun _ => fun
  | [d] => { results := [.lit (.bool true)], args := [d] }
  | _ => none }
def turnBothRow : OpenClaim := { program := "ytflaaphlghkpnaa", sum := "639aa106413907014d02401ff7b0c0f7daff4614dce26d23d06c0737dd6a30fc", func := "potsherd/potsherdlaw1.TurnBoth", spec := "turnBoth", unfollowed := true, recurses := true, apart := false }
def TurnBothSaid : Prop := turnBothRow.holds Try.pinned (OpenSpec.ofChange turnBothSpec)

/-- ITS FALSE NEIGHBOUR: 'it returns false'. Refute it at one input. -/
def turnBothWrong : ChangeSpec := { name := "turnBoth", fn := fun _ => fun
  | [d] => { results := [.lit (.bool false)], args := [d] }
  | _ => none }
def TurnBothWrongFalsely : Prop := turnBothRow.holds Try.pinned (OpenSpec.ofChange turnBothWrong)

/-- 'potsherdlaw1.TurnStops': WHATEVER THE INPUT: true; the input reads as it did. -/
def turnStopsSpec : ChangeSpec := { name := "turnStops", fn := fun _ => fun
  | [d1, d2, d3] => { results := [.lit (.bool true)], args := [d1, d2, d3] }
  | _ => none }
def turnStopsRow : OpenClaim := { program := "ytflaaphlghkpnaa", sum := "639aa106413907014d02401ff7b0c0f7daff4614dce26d23d06c0737dd6a30fc", func := "potsherd/potsherdlaw1.TurnStops", spec := "turnStops", unfollowed := true, recurses := true, apart := false }
def TurnStopsSaid : Prop := turnStopsRow.holds Try.pinned (OpenSpec.ofChange turnStopsSpec)

/-- ITS FALSE NEIGHBOUR: 'it returns false'. Refute it at one input. -/
def turnStopsWrong : ChangeSpec := { name := "turnStops", fn := fun _ => fun
  | [d1, d2, d3] => { results := [.lit (.bool false)], args := [d1, d2, d3] }
  | _ => none }
def TurnStopsWrongFalsely : Prop := turnStopsRow.holds Try.pinned (OpenSpec.ofChange turnStopsWrong)

/- THE SECOND FORM. 'bulk': how many values and letters a reading holds, each counted each time it is reached (what is shared counts as often as it is met; a slice's spare places count too). A statement '..UptoSaid' is the law's where the arguments, and the package variables that the reading takes, are together of bulk at most 1048576: NARROWER than '..Said'. Prove '..Said' where nothing that the law and all that it calls make is longer than what came in: it says more and counts as full. Else prove '..UptoSaid'. A law counts once. -/
mutual
def uptoBulk {H : Type} : DataW H → Nat
  | .lit (.string bytes) => bytes.length + 1
  | .lit _ => 1
  | .nil => 1
  | .ptr d => uptoBulk d + 1
  | .slice elems spare => uptoBulkAll elems + uptoBulkAll spare + 1
  | .agg parts => uptoBulkAll parts + 1
  | .iface _ d => uptoBulk d + 1
  | .map entries => uptoBulkEntries entries + 1
  | .held _ => 1
def uptoBulkAll {H : Type} : List (DataW H) → Nat
  | [] => 0
  | d :: r => uptoBulk d + uptoBulkAll r
def uptoBulkEntries {H : Type} : List (Lit × DataW H) → Nat
  | [] => 0
  | x :: r => uptoBulkEntry x + uptoBulkEntries r
def uptoBulkEntry {H : Type} : Lit × DataW H → Nat
  | (.string bytes, d) => bytes.length + uptoBulk d + 1
  | (_, d) => uptoBulk d + 1
 end
def uptoSmall : (H : Type) → List (DataW H) → Bool := fun _ ds => decide (uptoBulkAll ds ≤ 1048576)
def OpenSpec.upto (s : _root_.Go.ChangeSpec) : _root_.Go.OpenSpec := { _root_.Go.OpenSpec.ofChange s with cond := some uptoSmall }

/-- 'potsherdlaw8.BlockTurns', WHERE WHAT IT READS IS OF BULK AT MOST 1048576: true; the input reads as it did. -/
def blockTurnsUptoRow : OpenClaim := { program := "ytflaaphlghkpnaa", sum := "639aa106413907014d02401ff7b0c0f7daff4614dce26d23d06c0737dd6a30fc", func := "potsherd/potsherdlaw8.BlockTurns", spec := "blockTurns", apart := false, narrowed := true }
def BlockTurnsUptoSaid : Prop := blockTurnsUptoRow.holds Try.pinned (OpenSpec.upto blockTurnsSpec)

/-- 'potsherdlaw8.BlockOne', WHERE WHAT IT READS IS OF BULK AT MOST 1048576: true; the input reads as it did. -/
def blockOneUptoRow : OpenClaim := { program := "ytflaaphlghkpnaa", sum := "639aa106413907014d02401ff7b0c0f7daff4614dce26d23d06c0737dd6a30fc", func := "potsherd/potsherdlaw8.BlockOne", spec := "blockOne", apart := false, narrowed := true }
def BlockOneUptoSaid : Prop := blockOneUptoRow.holds Try.pinned (OpenSpec.upto blockOneSpec)

/-- 'potsherdlaw1.TurnOnce', WHERE WHAT IT READS IS OF BULK AT MOST 1048576: true; the input reads as it did. -/
def turnOnceUptoRow : OpenClaim := { program := "ytflaaphlghkpnaa", sum := "639aa106413907014d02401ff7b0c0f7daff4614dce26d23d06c0737dd6a30fc", func := "potsherd/potsherdlaw1.TurnOnce", spec := "turnOnce", unfollowed := true, recurses := true, apart := false, narrowed := true }
def TurnOnceUptoSaid : Prop := turnOnceUptoRow.holds Try.pinned (OpenSpec.upto turnOnceSpec)

/-- 'potsherdlaw1.TurnWhere', WHERE WHAT IT READS IS OF BULK AT MOST 1048576: true; the input reads as it did. -/
def turnWhereUptoRow : OpenClaim := { program := "ytflaaphlghkpnaa", sum := "639aa106413907014d02401ff7b0c0f7daff4614dce26d23d06c0737dd6a30fc", func := "potsherd/potsherdlaw1.TurnWhere", spec := "turnWhere", unfollowed := true, recurses := true, apart := false, narrowed := true }
def TurnWhereUptoSaid : Prop := turnWhereUptoRow.holds Try.pinned (OpenSpec.upto turnWhereSpec)

/-- 'potsherdlaw1.TurnSpots', WHERE WHAT IT READS IS OF BULK AT MOST 1048576: true; the input reads as it did. -/
def turnSpotsUptoRow : OpenClaim := { program := "ytflaaphlghkpnaa", sum := "639aa106413907014d02401ff7b0c0f7daff4614dce26d23d06c0737dd6a30fc", func := "potsherd/potsherdlaw1.TurnSpots", spec := "turnSpots", unfollowed := true, recurses := true, apart := false, narrowed := true }
def TurnSpotsUptoSaid : Prop := turnSpotsUptoRow.holds Try.pinned (OpenSpec.upto turnSpotsSpec)

/-- 'potsherdlaw1.TurnLeft', WHERE WHAT IT READS IS OF BULK AT MOST 1048576: true; the input reads as it did. -/
def turnLeftUptoRow : OpenClaim := { program := "ytflaaphlghkpnaa", sum := "639aa106413907014d02401ff7b0c0f7daff4614dce26d23d06c0737dd6a30fc", func := "potsherd/potsherdlaw1.TurnLeft", spec := "turnLeft", unfollowed := true, recurses := true, apart := false, narrowed := true }
def TurnLeftUptoSaid : Prop := turnLeftUptoRow.holds Try.pinned (OpenSpec.upto turnLeftSpec)

/-- 'potsherdlaw1.TurnShift', WHERE WHAT IT READS IS OF BULK AT MOST 1048576: true; the input reads as it did. -/
def turnShiftUptoRow : OpenClaim := { program := "ytflaaphlghkpnaa", sum := "639aa106413907014d02401ff7b0c0f7daff4614dce26d23d06c0737dd6a30fc", func := "potsherd/potsherdlaw1.TurnShift", spec := "turnShift", unfollowed := true, recurses := true, apart := false, narrowed := true }
def TurnShiftUptoSaid : Prop := turnShiftUptoRow.holds Try.pinned (OpenSpec.upto turnShiftSpec)

/-- 'potsherdlaw1.TurnBoth', WHERE WHAT IT READS IS OF BULK AT MOST 1048576: true; the input reads as it did. -/
def turnBothUptoRow : OpenClaim := { program := "ytflaaphlghkpnaa", sum := "639aa106413907014d02401ff7b0c0f7daff4614dce26d23d06c0737dd6a30fc", func := "potsherd/potsherdlaw1.TurnBoth", spec := "turnBoth", unfollowed := true, recurses := true, apart := false, narrowed := true }
def TurnBothUptoSaid : Prop := turnBothUptoRow.holds Try.pinned (OpenSpec.upto turnBothSpec)

/-- 'potsherdlaw1.TurnStops', WHERE WHAT IT READS IS OF BULK AT MOST 1048576: true; the input reads as it did. -/
def turnStopsUptoRow : OpenClaim := { program := "ytflaaphlghkpnaa", sum := "639aa106413907014d02401ff7b0c0f7daff4614dce26d23d06c0737dd6a30fc", func := "potsherd/potsherdlaw1.TurnStops", spec := "turnStops", unfollowed := true, recurses := true, apart := false, narrowed := true }
def TurnStopsUptoSaid : Prop := turnStopsUptoRow.holds Try.pinned (OpenSpec.upto turnStopsSpec)

end Rows
end Go.Proofs.Ytflaaphlghkpnaa
