/- Machine side of the statements of this seat: of each function what it computes, and that the code computes it (lines made by a program of ours on the pattern of the print). No condition of our own. -/
import Derived.Test.YteomnlkfnfgkkaaDoorProg
import Derived.Below
import Derived.Deep.Draws
import Derived.Deep.AppendLies
import Derived.Maps.AppendAt
import Derived.OwnWalk
import Derived.Laws.BytesArg
import Derived.Laws.MakeOwn
import Derived.Laws.OwnMore
import Derived.Deep.OwnRows
import Derived.Tactics
import Derived.Lib.ConvBytes
import Derived.Laws.Slices
import Derived.WalkKit
import Derived.KernelRfl
import Derived.RowKit3
import Derived.Deep.LoopGhost
import Derived.Deep.QuietTactic
import Derived.BigQuiet
import Derived.WideLaws
import Derived.Deep.DeepCutAuto
import Derived.Deep.CutBlock
import Derived.Deep.RegionHeld3
import Derived.Laws.Rows
import Derived.Lib.AppendStr
import Derived.ArgAppend
import Derived.Laws.IdiomCopy
import Derived.OrdersHeld
import Derived.Laws.BitsLemmas
import Derived.RowKit
import Derived.Test.YteomnlkfnfgkkaaDoorOwn
import Derived.Test.YteomnlkfnfgkkaaDoorRight
import Derived.Test.YteomnlkfnfgkkaaDoorWWords
import Derived.Test.YteomnlkfnfgkkaaDoorWLast
import Derived.Test.YteomnlkfnfgkkaaDoorWTab
import Derived.Test.YteomnlkfnfgkkaaDoorWFour
import Derived.Test.YteomnlkfnfgkkaaDoorWQPut
import Derived.Test.YteomnlkfnfgkkaaDoorWApart
import Derived.Test.YteomnlkfnfgkkaaDoorWArr
import Derived.Test.YteomnlkfnfgkkaaDoorWZeros
import Derived.Test.YteomnlkfnfgkkaaDoorWFoot
import Derived.Test.YteomnlkfnfgkkaaDoorWKept
import Derived.Test.YteomnlkfnfgkkaaDoorWShare
import Derived.Test.YteomnlkfnfgkkaaDoorWN
import Derived.Test.YteomnlkfnfgkkaaDoorWFootNe
import Derived.Test.YteomnlkfnfgkkaaDoorWAt
import Derived.Test.YteomnlkfnfgkkaaDoorWEqStruct
import Derived.Test.YteomnlkfnfgkkaaDoorWRepsOne
import Derived.Test.YteomnlkfnfgkkaaDoorWInv
import Derived.Test.YteomnlkfnfgkkaaDoorWInvWords
import Derived.Test.YteomnlkfnfgkkaaDoorWGuard
import Derived.Test.YteomnlkfnfgkkaaDoorWNEv
import Derived.Test.YteomnlkfnfgkkaaDoorWMore
namespace Go.Proofs.YteomnlkfnfgkkaaDoor.Q
open Go.RowKit Go.Proofs.YteomnlkfnfgkkaaDoorW.PrintWords Go.Proofs.YteomnlkfnfgkkaaDoorW.PrintLast Go.Proofs.YteomnlkfnfgkkaaDoorW.PrintMore
attribute [local go_sem] max2_int min2_int max_two min_two max_three min_three max_four min_four   -- for this text's walks alone
set_option linter.unusedVariables false
set_option linter.unusedSimpArgs false



def errW : Option Int → Value
  | none => .nilIface
  | some c => .iface 0 (.int .i64 c)
theorem errW_none : errW none = .nilIface := rfl
theorem errW_some (c : Int) : errW (some c) = .iface 0 (.int .i64 c) := rfl

theorem info3 : (Tryd.prog.info? 3).map (fun i => (i.zero, i.size, i.bytes)) = some (some (.int .i64 0), 1, 8) := by kernel_rfl
theorem info5 : (Tryd.prog.info? 5).map (fun i => (i.zero, i.size, i.bytes)) = some (some (.int .u8 0), 1, 1) := by kernel_rfl
-- the values' own types

end Go.Proofs.YteomnlkfnfgkkaaDoor.Q
