/-  What all texts of this claim import; began as a tool's text (NOTES.md). -/
import Derived.Test.YtdjcmefnnhfhpaaProg
import Derived.Below
import Derived.Deep.Draws
import Derived.Deep.AppendLies
import Derived.Maps.AppendAt
import Derived.OwnWalk
import Derived.Laws.BytesArg
import Derived.Laws.MakeOwn
import Derived.Laws.OwnMore
import Derived.Deep.OwnRows
import Derived.Tactics
import Derived.Lib.ConvBytes
import Derived.Laws.Slices
import Derived.WalkKit
import Derived.KernelRfl
import Derived.RowKit3
import Derived.Deep.LoopGhost
import Derived.Deep.QuietTactic
import Derived.BigQuiet
import Derived.WideLaws
import Derived.Deep.DeepCutAuto
import Derived.Deep.CutBlock
import Derived.Deep.RegionHeld3
import Derived.Laws.Rows
import Derived.Lib.AppendStr
import Derived.ArgAppend
import Derived.Laws.IdiomCopy
import Derived.OrdersHeld
import Derived.Laws.BitsLemmas
import Derived.RowKit
import Derived.Test.YtdjcmefnnhfhpaaWWords
import Derived.Test.YtdjcmefnnhfhpaaWLast
import Derived.Test.YtdjcmefnnhfhpaaWTab
import Derived.Test.YtdjcmefnnhfhpaaWFour
import Derived.Test.YtdjcmefnnhfhpaaWQPut
import Derived.Test.YtdjcmefnnhfhpaaWApart
import Derived.Test.YtdjcmefnnhfhpaaWArr
import Derived.Test.YtdjcmefnnhfhpaaWZeros
import Derived.Test.YtdjcmefnnhfhpaaWFoot
import Derived.Test.YtdjcmefnnhfhpaaWKept
import Derived.Test.YtdjcmefnnhfhpaaWShare
import Derived.Test.YtdjcmefnnhfhpaaWN
import Derived.Test.YtdjcmefnnhfhpaaWFootNe
import Derived.Test.YtdjcmefnnhfhpaaWAt
import Derived.Test.YtdjcmefnnhfhpaaWEqStruct
import Derived.Test.YtdjcmefnnhfhpaaWRepsOne
import Derived.Test.YtdjcmefnnhfhpaaWInv
import Derived.Test.YtdjcmefnnhfhpaaWInvWords
import Derived.Test.YtdjcmefnnhfhpaaWGuard
import Derived.Test.YtdjcmefnnhfhpaaWNEv
import Derived.Test.YtdjcmefnnhfhpaaWMore
namespace Go.Proofs.Ytdjcmefnnhfhpaa.PAll
open Go.RowKit Go.Proofs.YtdjcmefnnhfhpaaW.PrintWords Go.Proofs.YtdjcmefnnhfhpaaW.PrintLast Go.Proofs.YtdjcmefnnhfhpaaW.PrintMore
attribute [local go_sem] max2_int min2_int max_two min_two max_three min_three max_four min_four   -- for this text's walks alone
set_option linter.unusedVariables false
set_option linter.unusedSimpArgs false



def errW : Option Int → Value
  | none => .nilIface
  | some c => .iface 0 (.int .i64 c)
theorem errW_none : errW none = .nilIface := rfl
theorem errW_some (c : Int) : errW (some c) = .iface 0 (.int .i64 c) := rfl

theorem info3 : (Try.prog.info? 3).map (fun i => (i.zero, i.size, i.bytes)) = some (some (.int .i64 0), 1, 8) := by kernel_rfl
theorem info4 : (Try.prog.info? 4).map (fun i => (i.zero, i.size, i.bytes)) = some (some (.bool false), 1, 1) := by kernel_rfl
-- the values' own types

end Go.Proofs.Ytdjcmefnnhfhpaa.PAll
