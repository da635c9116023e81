/- Machine side of the statements of this seat: of each function what it computes, and that the code computes it (lines made by a program of ours on the pattern of the print). No condition of our own. -/
import Derived.Test.YtlpinbeppedeeaaProg
import Derived.Below
import Derived.Deep.Draws
import Derived.Deep.AppendLies
import Derived.Maps.AppendAt
import Derived.OwnWalk
import Derived.Laws.BytesArg
import Derived.Laws.MakeOwn
import Derived.Laws.OwnMore
import Derived.Deep.OwnRows
import Derived.Tactics
import Derived.Lib.ConvBytes
import Derived.Laws.Slices
import Derived.WalkKit
import Derived.KernelRfl
import Derived.RowKit3
import Derived.Deep.LoopGhost
import Derived.Deep.QuietTactic
import Derived.BigQuiet
import Derived.WideLaws
import Derived.Deep.DeepCutAuto
import Derived.Deep.CutBlock
import Derived.Deep.RegionHeld3
import Derived.Laws.Rows
import Derived.Lib.AppendStr
import Derived.ArgAppend
import Derived.Laws.IdiomCopy
import Derived.OrdersHeld
import Derived.Laws.BitsLemmas
import Derived.RowKit
import Derived.Test.YtlpinbeppedeeaaOwn
import Derived.Test.YtlpinbeppedeeaaLenC
import Derived.Test.YtlpinbeppedeeaaWWords
import Derived.Test.YtlpinbeppedeeaaWLast
import Derived.Test.YtlpinbeppedeeaaWTab
import Derived.Test.YtlpinbeppedeeaaWFour
import Derived.Test.YtlpinbeppedeeaaWQPut
import Derived.Test.YtlpinbeppedeeaaWApart
import Derived.Test.YtlpinbeppedeeaaWArr
import Derived.Test.YtlpinbeppedeeaaWZeros
import Derived.Test.YtlpinbeppedeeaaWFoot
import Derived.Test.YtlpinbeppedeeaaWKept
import Derived.Test.YtlpinbeppedeeaaWShare
import Derived.Test.YtlpinbeppedeeaaWN
import Derived.Test.YtlpinbeppedeeaaWFootNe
import Derived.Test.YtlpinbeppedeeaaWAt
import Derived.Test.YtlpinbeppedeeaaWEqStruct
import Derived.Test.YtlpinbeppedeeaaWRepsOne
import Derived.Test.YtlpinbeppedeeaaWInv
import Derived.Test.YtlpinbeppedeeaaWInvWords
import Derived.Test.YtlpinbeppedeeaaWGuard
import Derived.Test.YtlpinbeppedeeaaWNEv
import Derived.Test.YtlpinbeppedeeaaWMore
namespace Go.Proofs.Ytlpinbeppedeeaa.Q
open Go.RowKit Go.Proofs.YtlpinbeppedeeaaW.PrintWords Go.Proofs.YtlpinbeppedeeaaW.PrintLast Go.Proofs.YtlpinbeppedeeaaW.PrintMore
attribute [local go_sem] max2_int min2_int max_two min_two max_three min_three max_four min_four   -- for this text's walks alone
set_option linter.unusedVariables false
set_option linter.unusedSimpArgs false



def errW : Option Int → Value
  | none => .nilIface
  | some c => .iface 0 (.int .i64 c)
theorem errW_none : errW none = .nilIface := rfl
theorem errW_some (c : Int) : errW (some c) = .iface 0 (.int .i64 c) := rfl

theorem info3 : (Try.prog.info? 3).map (fun i => (i.zero, i.size, i.bytes)) = some (some (.int .i64 0), 1, 8) := by kernel_rfl
theorem info5 : (Try.prog.info? 5).map (fun i => (i.zero, i.size, i.bytes)) = some (some (.int .u8 0), 1, 1) := by kernel_rfl
-- the values' own types

end Go.Proofs.Ytlpinbeppedeeaa.Q
