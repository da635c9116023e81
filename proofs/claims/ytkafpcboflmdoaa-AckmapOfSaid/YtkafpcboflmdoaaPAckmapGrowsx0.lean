-- PRINTED BY print.sh 35421559b90ae4d0a3588c463048766b98c2df88dd9212a6774a882060cdf62d: not written by this session
import Derived.Test.YtkafpcboflmdoaaProg
import Derived.Below
import Derived.Deep.Draws
import Derived.Deep.AppendLies
import Derived.Maps.AppendAt
import Derived.OwnWalk
import Derived.Laws.BytesArg
import Derived.Laws.MakeOwn
import Derived.Laws.OwnMore
import Derived.Deep.OwnRows
import Derived.Tactics
import Derived.Lib.ConvBytes
import Derived.Laws.Slices
import Derived.WalkKit
import Derived.KernelRfl
import Derived.RowKit3
import Derived.Deep.LoopGhost
import Derived.Deep.QuietTactic
import Derived.BigQuiet
import Derived.WideLaws
import Derived.Deep.DeepCutAuto
import Derived.Deep.CutBlock
import Derived.Deep.RegionHeld3
import Derived.Laws.Rows
import Derived.Lib.AppendStr
import Derived.ArgAppend
import Derived.Laws.IdiomCopy
import Derived.OrdersHeld
import Derived.Laws.BitsLemmas
import Derived.RowKit
import Derived.Test.YtkafpcboflmdoaaWWords
import Derived.Test.YtkafpcboflmdoaaWLast
import Derived.Test.YtkafpcboflmdoaaWTab
import Derived.Test.YtkafpcboflmdoaaWFour
import Derived.Test.YtkafpcboflmdoaaWQPut
import Derived.Test.YtkafpcboflmdoaaWApart
import Derived.Test.YtkafpcboflmdoaaWArr
import Derived.Test.YtkafpcboflmdoaaWZeros
import Derived.Test.YtkafpcboflmdoaaWFoot
import Derived.Test.YtkafpcboflmdoaaWKept
import Derived.Test.YtkafpcboflmdoaaWShare
import Derived.Test.YtkafpcboflmdoaaWN
import Derived.Test.YtkafpcboflmdoaaWFootNe
import Derived.Test.YtkafpcboflmdoaaWAt
import Derived.Test.YtkafpcboflmdoaaWEqStruct
import Derived.Test.YtkafpcboflmdoaaWRepsOne
import Derived.Test.YtkafpcboflmdoaaWInv
import Derived.Test.YtkafpcboflmdoaaWInvWords
import Derived.Test.YtkafpcboflmdoaaWGuard
import Derived.Test.YtkafpcboflmdoaaWNEv
import Derived.Test.YtkafpcboflmdoaaWMore
namespace Go.Proofs.Ytkafpcboflmdoaa.PAckmapGrows
open Go.RowKit Go.Proofs.YtkafpcboflmdoaaW.PrintWords Go.Proofs.YtkafpcboflmdoaaW.PrintLast Go.Proofs.YtkafpcboflmdoaaW.PrintMore
attribute [local go_sem] max2_int min2_int max_two min_two max_three min_three max_four min_four   -- for this text's walks alone
set_option linter.unusedVariables false
set_option linter.unusedSimpArgs false



def errW : Option Int → Value
  | none => .nilIface
  | some c => .iface 0 (.int .i64 c)
theorem errW_none : errW none = .nilIface := rfl
theorem errW_some (c : Int) : errW (some c) = .iface 0 (.int .i64 c) := rfl

theorem info27 : (Try.prog.info? 27).map (fun i => (i.zero, i.size, i.bytes)) = some (some (.int .u16 0), 1, 2) := by kernel_rfl
-- the values' own types

end Go.Proofs.Ytkafpcboflmdoaa.PAckmapGrows
