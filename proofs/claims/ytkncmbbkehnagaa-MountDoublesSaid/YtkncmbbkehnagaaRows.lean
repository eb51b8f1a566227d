/-
  No cell of these rows narrows 'for every input' (looked for: loops, veiled, ifaces, maps, wideKeys, modest, calm, conditions, laid).
  DERIVED. THE GIVEN ROWS OF THIS SEAT. 5 by the template 'for every input the law returns true; each argument reads behind the call as it read before'; 0 by the template 'total and deterministic' (their statements: YtkncmbbkehnagaaTotals.lean).
  GIVEN WITH THE SEED: the statements are not yours to turn. If you find one false, say at which input.
  Laid BY PROGRAM, IN A SANDBOX (cutbox-rows.mjs): the forced cells as the released guide's own fill.sh prints them over the translation bb518121582730b8… (all of the seat's roots in one cut). By AI agents, Wed Nov 11 2026. No macro, syntax, notation, axiom, sorry.
-/
import Derived.Test.YtkncmbbkehnagaaChecked
import GoSem.Claim
import GoSem.ClaimJoined
import GoSem.ClaimMapViews
import Derived.JoinedTies
import Derived.KernelRfl
namespace Go.Proofs.Ytkncmbbkehnagaa
/- THE CELL 'sum', in the pinned program and in every row, IS THE sha256 OF THE DUMP (.gsa) THAT YtkncmbbkehnagaaProg.lean LOADS. Nothing in Lean hashes anything: it is a label: what it is worth is what the hold of that sum in a sandbox is worth. -/
noncomputable def Try.pinned : Pinned := { name := "ytkncmbbkehnagaa", sum := "bb518121582730b8f38b2e993019398fb148408eba17d0c59240d15f668b8a92", checked := Try.checked }
namespace Rows
def none {H : Type} : Left H := { results := [], args := [] }

/-- 'potsherdlaw11.MountDoubles': WHATEVER THE INPUT: true; the input reads as it did. -/
def mountDoublesSpec : ChangeSpec := { name := "mountDoubles", fn := fun _ => fun
  | [d1, d2, d3] => { results := [.lit (.bool true)], args := [d1, d2, d3] }
  | _ => none }
def mountDoublesRow : OpenClaim := { program := "ytkncmbbkehnagaa", sum := "bb518121582730b8f38b2e993019398fb148408eba17d0c59240d15f668b8a92", func := "potsherd/potsherdlaw11.MountDoubles", spec := "mountDoubles", unfollowed := true, recurses := true, plainKeys := false, apart := false }
def MountDoublesSaid : Prop := mountDoublesRow.holds Try.pinned (OpenSpec.ofChange mountDoublesSpec)

/-- ITS FALSE NEIGHBOUR: 'it returns false'. Refute it at one input. -/
def mountDoublesWrong : ChangeSpec := { name := "mountDoubles", fn := fun _ => fun
  | [d1, d2, d3] => { results := [.lit (.bool false)], args := [d1, d2, d3] }
  | _ => none }
def MountDoublesWrongFalsely : Prop := mountDoublesRow.holds Try.pinned (OpenSpec.ofChange mountDoublesWrong)

/-- 'potsherdlaw11.MountPicks': WHATEVER THE INPUT: true; the input reads as it did. -/
def mountPicksSpec : ChangeSpec := { name := "mountPicks", fn := fun _ => fun
  | [d1, d2] => { results := [.lit (.bool true)], args := [d1, d2] }
  | _ => none }
def mountPicksRow : OpenClaim := { program := "ytkncmbbkehnagaa", sum := "bb518121582730b8f38b2e993019398fb148408eba17d0c59240d15f668b8a92", func := "potsherd/potsherdlaw11.MountPicks", spec := "mountPicks", unfollowed := true, recurses := true, plainKeys := false, apart := false }
def MountPicksSaid : Prop := mountPicksRow.holds Try.pinned (OpenSpec.ofChange mountPicksSpec)

/-- ITS FALSE NEIGHBOUR: 'it returns false'. Refute it at one input. -/
def mountPicksWrong : ChangeSpec := { name := "mountPicks", fn := fun _ => fun
  | [d1, d2] => { results := [.lit (.bool false)], args := [d1, d2] }
  | _ => none }
def MountPicksWrongFalsely : Prop := mountPicksRow.holds Try.pinned (OpenSpec.ofChange mountPicksWrong)

/-- 'potsherdlaw11.MountNil': WHATEVER THE INPUT: true; the input reads as it did. -/
def mountNilSpec : ChangeSpec := { name := "mountNil", fn := fun _ => fun
  | [d1, d2] => { results := [.lit (.bool true)], args := [d1, d2] }
  | _ => none }
def mountNilRow : OpenClaim := { program := "ytkncmbbkehnagaa", sum := "bb518121582730b8f38b2e993019398fb148408eba17d0c59240d15f668b8a92", func := "potsherd/potsherdlaw11.MountNil", spec := "mountNil", unfollowed := true, recurses := true, plainKeys := false, apart := false }
def MountNilSaid : Prop := mountNilRow.holds Try.pinned (OpenSpec.ofChange mountNilSpec)

/-- ITS FALSE NEIGHBOUR: 'it returns false'. Refute it at one input. -/
def mountNilWrong : ChangeSpec := { name := "mountNil", fn := fun _ => fun
  | [d1, d2] => { results := [.lit (.bool false)], args := [d1, d2] }
  | _ => none }
def MountNilWrongFalsely : Prop := mountNilRow.holds Try.pinned (OpenSpec.ofChange mountNilWrong)

/-- 'potsherdlaw11.MountNew': WHATEVER THE INPUT: true; the input reads as it did. -/
def mountNewSpec : ChangeSpec := { name := "mountNew", fn := fun _ => fun
  | [d1, d2, d3] => { results := [.lit (.bool true)], args := [d1, d2, d3] }
  | _ => none }
def mountNewRow : OpenClaim := { program := "ytkncmbbkehnagaa", sum := "bb518121582730b8f38b2e993019398fb148408eba17d0c59240d15f668b8a92", func := "potsherd/potsherdlaw11.MountNew", spec := "mountNew", unfollowed := true, recurses := true, plainKeys := false, apart := false }
def MountNewSaid : Prop := mountNewRow.holds Try.pinned (OpenSpec.ofChange mountNewSpec)

/-- ITS FALSE NEIGHBOUR: 'it returns false'. Refute it at one input. -/
def mountNewWrong : ChangeSpec := { name := "mountNew", fn := fun _ => fun
  | [d1, d2, d3] => { results := [.lit (.bool false)], args := [d1, d2, d3] }
  | _ => none }
def MountNewWrongFalsely : Prop := mountNewRow.holds Try.pinned (OpenSpec.ofChange mountNewWrong)

/-- 'potsherdlaw11.MountTorn': WHATEVER THE INPUT: true; the input reads as it did. -/
def mountTornSpec : ChangeSpec := { name := "mountTorn", fn := fun _ => fun
  | [d1, d2] => { results := [.lit (.bool true)], args := [d1, d2] }
  | _ => none }
def mountTornRow : OpenClaim := { program := "ytkncmbbkehnagaa", sum := "bb518121582730b8f38b2e993019398fb148408eba17d0c59240d15f668b8a92", func := "potsherd/potsherdlaw11.MountTorn", spec := "mountTorn", unfollowed := true, recurses := true, plainKeys := false, apart := false }
def MountTornSaid : Prop := mountTornRow.holds Try.pinned (OpenSpec.ofChange mountTornSpec)

/-- ITS FALSE NEIGHBOUR: 'it returns false'. Refute it at one input. -/
def mountTornWrong : ChangeSpec := { name := "mountTorn", fn := fun _ => fun
  | [d1, d2] => { results := [.lit (.bool false)], args := [d1, d2] }
  | _ => none }
def MountTornWrongFalsely : Prop := mountTornRow.holds Try.pinned (OpenSpec.ofChange mountTornWrong)

/- THE SECOND FORM. 'bulk': how many values and letters a reading holds, each counted each time it is reached (what is shared counts as often as it is met; a slice's spare places count too). A statement '..UptoSaid' is the law's where the arguments, and the package variables that the reading takes, are together of bulk at most 1048576: NARROWER than '..Said'. Prove '..Said' where nothing that the law and all that it calls make is longer than what came in: it says more and counts as full. Else prove '..UptoSaid'. A law counts once. -/
mutual
def uptoBulk {H : Type} : DataW H → Nat
  | .lit (.string bytes) => bytes.length + 1
  | .lit _ => 1
  | .nil => 1
  | .ptr d => uptoBulk d + 1
  | .slice elems spare => uptoBulkAll elems + uptoBulkAll spare + 1
  | .agg parts => uptoBulkAll parts + 1
  | .iface _ d => uptoBulk d + 1
  | .map entries => uptoBulkEntries entries + 1
  | .held _ => 1
def uptoBulkAll {H : Type} : List (DataW H) → Nat
  | [] => 0
  | d :: r => uptoBulk d + uptoBulkAll r
def uptoBulkEntries {H : Type} : List (Lit × DataW H) → Nat
  | [] => 0
  | x :: r => uptoBulkEntry x + uptoBulkEntries r
def uptoBulkEntry {H : Type} : Lit × DataW H → Nat
  | (.string bytes, d) => bytes.length + uptoBulk d + 1
  | (_, d) => uptoBulk d + 1
 end
def uptoSmall : (H : Type) → List (DataW H) → Bool := fun _ ds => decide (uptoBulkAll ds ≤ 1048576)
def OpenSpec.upto (s : _root_.Go.ChangeSpec) : _root_.Go.OpenSpec := { _root_.Go.OpenSpec.ofChange s with cond := some uptoSmall }

/-- 'potsherdlaw11.MountDoubles', WHERE WHAT IT READS IS OF BULK AT MOST 1048576: true; the input reads as it did. -/
def mountDoublesUptoRow : OpenClaim := { program := "ytkncmbbkehnagaa", sum := "bb518121582730b8f38b2e993019398fb148408eba17d0c59240d15f668b8a92", func := "potsherd/potsherdlaw11.MountDoubles", spec := "mountDoubles", unfollowed := true, recurses := true, plainKeys := false, apart := false, narrowed := true }
def MountDoublesUptoSaid : Prop := mountDoublesUptoRow.holds Try.pinned (OpenSpec.upto mountDoublesSpec)

/-- 'potsherdlaw11.MountPicks', WHERE WHAT IT READS IS OF BULK AT MOST 1048576: true; the input reads as it did. -/
def mountPicksUptoRow : OpenClaim := { program := "ytkncmbbkehnagaa", sum := "bb518121582730b8f38b2e993019398fb148408eba17d0c59240d15f668b8a92", func := "potsherd/potsherdlaw11.MountPicks", spec := "mountPicks", unfollowed := true, recurses := true, plainKeys := false, apart := false, narrowed := true }
def MountPicksUptoSaid : Prop := mountPicksUptoRow.holds Try.pinned (OpenSpec.upto mountPicksSpec)

/-- 'potsherdlaw11.MountNil', WHERE WHAT IT READS IS OF BULK AT MOST 1048576: true; the input reads as it did. -/
def mountNilUptoRow : OpenClaim := { program := "ytkncmbbkehnagaa", sum := "bb518121582730b8f38b2e993019398fb148408eba17d0c59240d15f668b8a92", func := "potsherd/potsherdlaw11.MountNil", spec := "mountNil", unfollowed := true, recurses := true, plainKeys := false, apart := false, narrowed := true }
def MountNilUptoSaid : Prop := mountNilUptoRow.holds Try.pinned (OpenSpec.upto mountNilSpec)

/-- 'potsherdlaw11.MountNew', WHERE WHAT IT READS IS OF BULK AT MOST 1048576: true; the input reads as it did. -/
def mountNewUptoRow : OpenClaim := { program := "ytkncmbbkehnagaa", sum := "bb518121582730b8f38b2e993019398fb148408eba17d0c59240d15f668b8a92", func := "potsherd/potsherdlaw11.MountNew", spec := "mountNew", unfollowed := true, recurses := true, plainKeys := false, apart := false, narrowed := true }
def MountNewUptoSaid : Prop := mountNewUptoRow.holds Try.pinned (OpenSpec.upto mountNewSpec)

/-- 'potsherdlaw11.MountTorn', WHERE WHAT IT READS IS OF BULK AT MOST 1048576: true; the input reads as it did. -/
def mountTornUptoRow : OpenClaim := { program := "ytkncmbbkehnagaa", sum := "bb518121582730b8f38b2e993019398fb148408eba17d0c59240d15f668b8a92", func := "potsherd/potsherdlaw11.MountTorn", spec := "mountTorn", unfollowed := true, recurses := true, plainKeys := false, apart := false, narrowed := true }
def MountTornUptoSaid : Prop := mountTornUptoRow.holds Try.pinned (OpenSpec.upto mountTornSpec)

end Rows
end Go.Proofs.Ytkncmbbkehnagaa
