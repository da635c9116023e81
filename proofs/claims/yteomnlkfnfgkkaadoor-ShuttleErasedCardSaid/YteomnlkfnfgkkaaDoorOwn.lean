/- Small words for the machine side: a length spelled otherwise; a string of bytes of one's own, in a world that was drawn. No condition. -/
import Derived.Test.YteomnlkfnfgkkaaDoorProg
import Derived.Below
import Derived.Deep.Draws
import Derived.Deep.AppendLies
import Derived.Maps.AppendAt
import Derived.OwnWalk
import Derived.Laws.BytesArg
import Derived.Laws.MakeOwn
import Derived.Laws.OwnMore
import Derived.Deep.OwnRows
import Derived.Tactics
import Derived.Lib.ConvBytes
import Derived.Laws.Slices
import Derived.WalkKit
import Derived.KernelRfl
import Derived.RowKit3
import Derived.Deep.LoopGhost
import Derived.Deep.QuietTactic
import Derived.BigQuiet
import Derived.WideLaws
import Derived.Deep.DeepCutAuto
import Derived.Deep.CutBlock
import Derived.Deep.RegionHeld3
import Derived.Laws.Rows
import Derived.Lib.AppendStr
import Derived.ArgAppend
import Derived.Laws.IdiomCopy
import Derived.OrdersHeld
import Derived.Laws.BitsLemmas
import Derived.RowKit
import Derived.Test.YteomnlkfnfgkkaaDoorWWords
import Derived.Test.YteomnlkfnfgkkaaDoorWLast
import Derived.Test.YteomnlkfnfgkkaaDoorWTab
import Derived.Test.YteomnlkfnfgkkaaDoorWFour
import Derived.Test.YteomnlkfnfgkkaaDoorWQPut
import Derived.Test.YteomnlkfnfgkkaaDoorWApart
import Derived.Test.YteomnlkfnfgkkaaDoorWArr
import Derived.Test.YteomnlkfnfgkkaaDoorWZeros
import Derived.Test.YteomnlkfnfgkkaaDoorWFoot
import Derived.Test.YteomnlkfnfgkkaaDoorWKept
import Derived.Test.YteomnlkfnfgkkaaDoorWShare
import Derived.Test.YteomnlkfnfgkkaaDoorWN
import Derived.Test.YteomnlkfnfgkkaaDoorWFootNe
import Derived.Test.YteomnlkfnfgkkaaDoorWAt
import Derived.Test.YteomnlkfnfgkkaaDoorWEqStruct
import Derived.Test.YteomnlkfnfgkkaaDoorWRepsOne
import Derived.Test.YteomnlkfnfgkkaaDoorWInv
import Derived.Test.YteomnlkfnfgkkaaDoorWInvWords
import Derived.Test.YteomnlkfnfgkkaaDoorWGuard
import Derived.Test.YteomnlkfnfgkkaaDoorWNEv
import Derived.Test.YteomnlkfnfgkkaaDoorWMore

namespace Go.Proofs.YteomnlkfnfgkkaaDoor.Q
open Go.RowKit Go.Proofs.YteomnlkfnfgkkaaDoorW.PrintWords Go.Proofs.YteomnlkfnfgkkaaDoorW.PrintLast Go.Proofs.YteomnlkfnfgkkaaDoorW.PrintMore
theorem rr_len {α : Type} {R : α → List Value → Prop} {size : Nat} {w : World} {A : Option Addr} {n : Nat} {ps : List α} (h : ReadsRow R size w A ps.length ps) (e : ps.length = n) : ReadsRow R size w A n ps := e ▸ h
theorem own_string_n {P : Program} {w : World} {base n : Nat} {e' src dst e : TypeId} {v : Value} {xs : List Int} (hs : P.underlying src = some (.slice e)) (he : P.underlying e = some (.int .u8)) (hd : P.underlying dst = some .string)
    (h : w.ownsRow base e' 1 v n (nums .u8 xs)) : ∀ m : Nat, (convert src dst v).run P (w.drewN m) = .ok (.string (strOfNums xs)) (w.drewN m) :=
  fun m => own_string hs he hd (by simpa [World.ownsRow] using h)
end Go.Proofs.YteomnlkfnfgkkaaDoor.Q
