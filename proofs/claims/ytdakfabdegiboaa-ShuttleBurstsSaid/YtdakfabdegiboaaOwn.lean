/- Small words for the machine side: a length spelled otherwise; a string of bytes of one's own, in a world that was drawn. No condition. -/
import Derived.Test.YtdakfabdegiboaaProg
import Derived.Below
import Derived.Deep.Draws
import Derived.Deep.AppendLies
import Derived.Maps.AppendAt
import Derived.OwnWalk
import Derived.Laws.BytesArg
import Derived.Laws.MakeOwn
import Derived.Laws.OwnMore
import Derived.Deep.OwnRows
import Derived.Tactics
import Derived.Lib.ConvBytes
import Derived.Laws.Slices
import Derived.WalkKit
import Derived.KernelRfl
import Derived.RowKit3
import Derived.Deep.LoopGhost
import Derived.Deep.QuietTactic
import Derived.BigQuiet
import Derived.WideLaws
import Derived.Deep.DeepCutAuto
import Derived.Deep.CutBlock
import Derived.Deep.RegionHeld3
import Derived.Laws.Rows
import Derived.Lib.AppendStr
import Derived.ArgAppend
import Derived.Laws.IdiomCopy
import Derived.OrdersHeld
import Derived.Laws.BitsLemmas
import Derived.RowKit
import Derived.Test.YtdakfabdegiboaaWWords
import Derived.Test.YtdakfabdegiboaaWLast
import Derived.Test.YtdakfabdegiboaaWTab
import Derived.Test.YtdakfabdegiboaaWFour
import Derived.Test.YtdakfabdegiboaaWQPut
import Derived.Test.YtdakfabdegiboaaWApart
import Derived.Test.YtdakfabdegiboaaWArr
import Derived.Test.YtdakfabdegiboaaWZeros
import Derived.Test.YtdakfabdegiboaaWFoot
import Derived.Test.YtdakfabdegiboaaWKept
import Derived.Test.YtdakfabdegiboaaWShare
import Derived.Test.YtdakfabdegiboaaWN
import Derived.Test.YtdakfabdegiboaaWFootNe
import Derived.Test.YtdakfabdegiboaaWAt
import Derived.Test.YtdakfabdegiboaaWEqStruct
import Derived.Test.YtdakfabdegiboaaWRepsOne
import Derived.Test.YtdakfabdegiboaaWInv
import Derived.Test.YtdakfabdegiboaaWInvWords
import Derived.Test.YtdakfabdegiboaaWGuard
import Derived.Test.YtdakfabdegiboaaWNEv
import Derived.Test.YtdakfabdegiboaaWMore
namespace Go.Proofs.Ytdakfabdegiboaa.Q
open Go.RowKit Go.Proofs.YtdakfabdegiboaaW.PrintWords Go.Proofs.YtdakfabdegiboaaW.PrintLast Go.Proofs.YtdakfabdegiboaaW.PrintMore
theorem rr_len {α : Type} {R : α → List Value → Prop} {size : Nat} {w : World} {A : Option Addr} {n : Nat} {ps : List α} (h : ReadsRow R size w A ps.length ps) (e : ps.length = n) : ReadsRow R size w A n ps := e ▸ h
theorem own_string_n {P : Program} {w : World} {base n : Nat} {e' src dst e : TypeId} {v : Value} {xs : List Int} (hs : P.underlying src = some (.slice e)) (he : P.underlying e = some (.int .u8)) (hd : P.underlying dst = some .string)
    (h : w.ownsRow base e' 1 v n (nums .u8 xs)) : ∀ m : Nat, (convert src dst v).run P (w.drewN m) = .ok (.string (strOfNums xs)) (w.drewN m) :=
  fun m => own_string hs he hd (by simpa [World.ownsRow] using h)
end Go.Proofs.Ytdakfabdegiboaa.Q
