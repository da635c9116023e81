/- Small words for the machine side: a length spelled otherwise; a string of bytes of one's own, in a world that was drawn. No condition. -/
import Derived.Test.YtlpinbeppedeeaaProg
import Derived.Below
import Derived.Deep.Draws
import Derived.Deep.AppendLies
import Derived.Maps.AppendAt
import Derived.Tactics
import Derived.Laws.Slices
import Derived.WalkKit
import Derived.KernelRfl
import Derived.RowKit3
import Derived.Deep.LoopGhost
import Derived.Deep.QuietTactic
import Derived.BigQuiet
import Derived.WideLaws
import Derived.Deep.DeepCutAuto
import Derived.Deep.CutBlock
import Derived.Deep.RegionHeld3
import Derived.Laws.Rows
import Derived.Lib.AppendStr
import Derived.ArgAppend
import Derived.Laws.IdiomCopy
import Derived.OrdersHeld
import Derived.Laws.BitsLemmas
import Derived.RowKit
import Derived.Test.YtlpinbeppedeeaaWWords
import Derived.Test.YtlpinbeppedeeaaWLast
import Derived.Test.YtlpinbeppedeeaaWTab
import Derived.Test.YtlpinbeppedeeaaWFour
import Derived.Test.YtlpinbeppedeeaaWQPut
import Derived.Test.YtlpinbeppedeeaaWApart
import Derived.Test.YtlpinbeppedeeaaWArr
import Derived.Test.YtlpinbeppedeeaaWZeros
import Derived.Test.YtlpinbeppedeeaaWFoot
import Derived.Test.YtlpinbeppedeeaaWKept
import Derived.Test.YtlpinbeppedeeaaWShare
import Derived.Test.YtlpinbeppedeeaaWN
import Derived.Test.YtlpinbeppedeeaaWFootNe
import Derived.Test.YtlpinbeppedeeaaWAt
import Derived.Test.YtlpinbeppedeeaaWEqStruct
import Derived.Test.YtlpinbeppedeeaaWRepsOne
import Derived.Test.YtlpinbeppedeeaaWInv
import Derived.Test.YtlpinbeppedeeaaWInvWords
import Derived.Test.YtlpinbeppedeeaaWGuard
import Derived.Test.YtlpinbeppedeeaaWNEv
import Derived.Test.YtlpinbeppedeeaaWMore

namespace Go.Proofs.Ytlpinbeppedeeaa.Q
open Go.RowKit Go.Proofs.YtlpinbeppedeeaaW.PrintWords Go.Proofs.YtlpinbeppedeeaaW.PrintLast Go.Proofs.YtlpinbeppedeeaaW.PrintMore
theorem rr_len {α : Type} {R : α → List Value → Prop} {size : Nat} {w : World} {A : Option Addr} {n : Nat} {ps : List α} (h : ReadsRow R size w A ps.length ps) (e : ps.length = n) : ReadsRow R size w A n ps := e ▸ h
theorem own_string_n {P : Program} {w : World} {base n : Nat} {e' src dst e : TypeId} {v : Value} {xs : List Int} (hs : P.underlying src = some (.slice e)) (he : P.underlying e = some (.int .u8)) (hd : P.underlying dst = some .string)
    (h : w.ownsRow base e' 1 v n (nums .u8 xs)) : ∀ m : Nat, (convert src dst v).run P (w.drewN m) = .ok (.string (strOfNums xs)) (w.drewN m) :=
  fun m => own_string hs he hd (by simpa [World.ownsRow] using h)
end Go.Proofs.Ytlpinbeppedeeaa.Q
