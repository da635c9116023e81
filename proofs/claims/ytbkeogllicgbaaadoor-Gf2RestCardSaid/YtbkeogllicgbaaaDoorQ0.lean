/- Machine side of the statements of this seat: of each function what it computes, and that the code computes it (lines made by a program of ours on the pattern of the print). No condition of our own. -/
import Derived.Test.YtbkeogllicgbaaaDoorProg
import Derived.Below
import Derived.Deep.Draws
import Derived.Deep.AppendLies
import Derived.Maps.AppendAt
import Derived.OwnWalk
import Derived.Laws.BytesArg
import Derived.Laws.MakeOwn
import Derived.Laws.OwnMore
import Derived.Deep.OwnRows
import Derived.Tactics
import Derived.Lib.ConvBytes
import Derived.Laws.Slices
import Derived.WalkKit
import Derived.KernelRfl
import Derived.RowKit3
import Derived.Deep.LoopGhost
import Derived.Deep.QuietTactic
import Derived.BigQuiet
import Derived.WideLaws
import Derived.Deep.DeepCutAuto
import Derived.Deep.CutBlock
import Derived.Deep.RegionHeld3
import Derived.Laws.Rows
import Derived.Lib.AppendStr
import Derived.ArgAppend
import Derived.Laws.IdiomCopy
import Derived.OrdersHeld
import Derived.Laws.BitsLemmas
import Derived.RowKit
import Derived.Test.YtbkeogllicgbaaaDoorTz
import Derived.Test.YtbkeogllicgbaaaDoorWWords
import Derived.Test.YtbkeogllicgbaaaDoorWLast
import Derived.Test.YtbkeogllicgbaaaDoorWTab
import Derived.Test.YtbkeogllicgbaaaDoorWFour
import Derived.Test.YtbkeogllicgbaaaDoorWQPut
import Derived.Test.YtbkeogllicgbaaaDoorWApart
import Derived.Test.YtbkeogllicgbaaaDoorWArr
import Derived.Test.YtbkeogllicgbaaaDoorWZeros
import Derived.Test.YtbkeogllicgbaaaDoorWFoot
import Derived.Test.YtbkeogllicgbaaaDoorWKept
import Derived.Test.YtbkeogllicgbaaaDoorWShare
import Derived.Test.YtbkeogllicgbaaaDoorWN
import Derived.Test.YtbkeogllicgbaaaDoorWFootNe
import Derived.Test.YtbkeogllicgbaaaDoorWAt
import Derived.Test.YtbkeogllicgbaaaDoorWEqStruct
import Derived.Test.YtbkeogllicgbaaaDoorWRepsOne
import Derived.Test.YtbkeogllicgbaaaDoorWInv
import Derived.Test.YtbkeogllicgbaaaDoorWInvWords
import Derived.Test.YtbkeogllicgbaaaDoorWGuard
import Derived.Test.YtbkeogllicgbaaaDoorWNEv
import Derived.Test.YtbkeogllicgbaaaDoorWMore
namespace Go.Proofs.YtbkeogllicgbaaaDoor.Q
open Go.RowKit Go.Proofs.YtbkeogllicgbaaaDoorW.PrintWords Go.Proofs.YtbkeogllicgbaaaDoorW.PrintLast Go.Proofs.YtbkeogllicgbaaaDoorW.PrintMore
attribute [local go_sem] max2_int min2_int max_two min_two max_three min_three max_four min_four   -- for this text's walks alone
set_option linter.unusedVariables false
set_option linter.unusedSimpArgs false



def errW : Option Int → Value
  | none => .nilIface
  | some c => .iface 0 (.int .i64 c)
theorem errW_none : errW none = .nilIface := rfl
theorem errW_some (c : Int) : errW (some c) = .iface 0 (.int .i64 c) := rfl

theorem info5 : (Tryd.prog.info? 5).map (fun i => (i.zero, i.size, i.bytes)) = some (some (.int .u8 0), 1, 1) := by kernel_rfl
-- the values' own types

end Go.Proofs.YtbkeogllicgbaaaDoor.Q
