/- Machine side of the statements of this seat: of each function what it computes, and that the code computes it (lines made by a program of ours on the pattern of the print). No condition of our own. -/
import Derived.Test.YtdakfabdegiboaaProg
import Derived.Below
import Derived.Deep.Draws
import Derived.Deep.AppendLies
import Derived.Maps.AppendAt
import Derived.OwnWalk
import Derived.Laws.BytesArg
import Derived.Laws.MakeOwn
import Derived.Laws.OwnMore
import Derived.Deep.OwnRows
import Derived.Tactics
import Derived.Lib.ConvBytes
import Derived.Laws.Slices
import Derived.WalkKit
import Derived.KernelRfl
import Derived.RowKit3
import Derived.Deep.LoopGhost
import Derived.Deep.QuietTactic
import Derived.BigQuiet
import Derived.WideLaws
import Derived.Deep.DeepCutAuto
import Derived.Deep.CutBlock
import Derived.Deep.RegionHeld3
import Derived.Laws.Rows
import Derived.Lib.AppendStr
import Derived.ArgAppend
import Derived.Laws.IdiomCopy
import Derived.OrdersHeld
import Derived.Laws.BitsLemmas
import Derived.RowKit
import Derived.Test.YtdakfabdegiboaaOwn
import Derived.Test.YtdakfabdegiboaaShu
import Derived.Test.YtdakfabdegiboaaWWords
import Derived.Test.YtdakfabdegiboaaWLast
import Derived.Test.YtdakfabdegiboaaWTab
import Derived.Test.YtdakfabdegiboaaWFour
import Derived.Test.YtdakfabdegiboaaWQPut
import Derived.Test.YtdakfabdegiboaaWApart
import Derived.Test.YtdakfabdegiboaaWArr
import Derived.Test.YtdakfabdegiboaaWZeros
import Derived.Test.YtdakfabdegiboaaWFoot
import Derived.Test.YtdakfabdegiboaaWKept
import Derived.Test.YtdakfabdegiboaaWShare
import Derived.Test.YtdakfabdegiboaaWN
import Derived.Test.YtdakfabdegiboaaWFootNe
import Derived.Test.YtdakfabdegiboaaWAt
import Derived.Test.YtdakfabdegiboaaWEqStruct
import Derived.Test.YtdakfabdegiboaaWRepsOne
import Derived.Test.YtdakfabdegiboaaWInv
import Derived.Test.YtdakfabdegiboaaWInvWords
import Derived.Test.YtdakfabdegiboaaWGuard
import Derived.Test.YtdakfabdegiboaaWNEv
import Derived.Test.YtdakfabdegiboaaWMore
namespace Go.Proofs.Ytdakfabdegiboaa.Q
open Go.RowKit Go.Proofs.YtdakfabdegiboaaW.PrintWords Go.Proofs.YtdakfabdegiboaaW.PrintLast Go.Proofs.YtdakfabdegiboaaW.PrintMore
attribute [local go_sem] max2_int min2_int max_two min_two max_three min_three max_four min_four   -- for this text's walks alone
set_option linter.unusedVariables false
set_option linter.unusedSimpArgs false



def errW : Option Int → Value
  | none => .nilIface
  | some c => .iface 0 (.int .i64 c)
theorem errW_none : errW none = .nilIface := rfl
theorem errW_some (c : Int) : errW (some c) = .iface 0 (.int .i64 c) := rfl

theorem info3 : (Try.prog.info? 3).map (fun i => (i.zero, i.size, i.bytes)) = some (some (.int .i64 0), 1, 8) := by kernel_rfl
theorem info4 : (Try.prog.info? 4).map (fun i => (i.zero, i.size, i.bytes)) = some (some (.bool false), 1, 1) := by kernel_rfl
theorem info5 : (Try.prog.info? 5).map (fun i => (i.zero, i.size, i.bytes)) = some (some (.int .u8 0), 1, 1) := by kernel_rfl
-- the values' own types

end Go.Proofs.Ytdakfabdegiboaa.Q
