/- The walk of shuffle's each: whatever the function does that it is handed, it does it at each place of the table, column by column. Condition: a contract of that function, which leaves the table alone. -/
import Derived.Test.YtdakfabdegiboaaProg
import Derived.Below
import Derived.Deep.Draws
import Derived.Deep.AppendLies
import Derived.Maps.AppendAt
import Derived.OwnWalk
import Derived.Laws.BytesArg
import Derived.Laws.MakeOwn
import Derived.Laws.OwnMore
import Derived.Deep.OwnRows
import Derived.Tactics
import Derived.Lib.ConvBytes
import Derived.Laws.Slices
import Derived.WalkKit
import Derived.KernelRfl
import Derived.RowKit3
import Derived.Deep.LoopGhost
import Derived.Deep.QuietTactic
import Derived.BigQuiet
import Derived.WideLaws
import Derived.Deep.DeepCutAuto
import Derived.Deep.CutBlock
import Derived.Deep.RegionHeld3
import Derived.Laws.Rows
import Derived.Lib.AppendStr
import Derived.ArgAppend
import Derived.Laws.IdiomCopy
import Derived.OrdersHeld
import Derived.Laws.BitsLemmas
import Derived.RowKit
import Derived.Test.YtdakfabdegiboaaWWords
import Derived.Test.YtdakfabdegiboaaWLast
import Derived.Test.YtdakfabdegiboaaWTab
import Derived.Test.YtdakfabdegiboaaWFour
import Derived.Test.YtdakfabdegiboaaWQPut
import Derived.Test.YtdakfabdegiboaaWApart
import Derived.Test.YtdakfabdegiboaaWArr
import Derived.Test.YtdakfabdegiboaaWZeros
import Derived.Test.YtdakfabdegiboaaWFoot
import Derived.Test.YtdakfabdegiboaaWKept
import Derived.Test.YtdakfabdegiboaaWShare
import Derived.Test.YtdakfabdegiboaaWN
import Derived.Test.YtdakfabdegiboaaWFootNe
import Derived.Test.YtdakfabdegiboaaWAt
import Derived.Test.YtdakfabdegiboaaWEqStruct
import Derived.Test.YtdakfabdegiboaaWRepsOne
import Derived.Test.YtdakfabdegiboaaWInv
import Derived.Test.YtdakfabdegiboaaWInvWords
import Derived.Test.YtdakfabdegiboaaWGuard
import Derived.Test.YtdakfabdegiboaaWNEv
import Derived.Test.YtdakfabdegiboaaWMore
namespace Go.Proofs.Ytdakfabdegiboaa.Q
open Go.RowKit Go.Proofs.YtdakfabdegiboaaW.PrintWords Go.Proofs.YtdakfabdegiboaaW.PrintLast Go.Proofs.YtdakfabdegiboaaW.PrintMore
set_option linter.unusedVariables false
set_option linter.unusedSimpArgs false

mutual
def each.l0 {σ : Type} (d : σ → Int → Option σ) (n rows wide : Int) : Nat → σ → Int → Option σ
  | 0, _, _ => none
  | k + 1, s, c => if c < wide then each.l1 d n rows wide k s c 0 else some s
def each.l1 {σ : Type} (d : σ → Int → Option σ) (n rows wide : Int) : Nat → σ → Int → Int → Option σ
  | 0, _, _, _ => none
  | k + 1, s, c, r => if r < rows then (if wrap64 (wrap64 (r * wide) + c) < n then ((d s (wrap64 (wrap64 (r * wide) + c))).bind fun s2 => each.l1 d n rows wide k s2 c (wrap64 (r + 1))) else each.l1 d n rows wide k s c (wrap64 (r + 1))) else each.l0 d n rows wide k s (wrap64 (c + 1))
end
/-- The blocks that hold tables stay. -/
def Keep42 (w w' : World) : Prop := ∀ (g : Nat) (cs : Array Value), w.heap[g]? = some (Obj.cells cs 42 (0, 0)) → w'.heap[g]? = some (Obj.cells cs 42 (0, 0))

set_option maxHeartbeats 8000000 in
set_option maxRecDepth 100000 in
theorem each.calls {σ : Type} (d : σ → Int → Option σ) (Inv : σ → World → Prop) (F : FuncId) (fn : Func) (caps : Array Value) (hf : Try.prog.funcs[F]? = some fn) (hname : (fn.name == "runtime.NumGoroutine") = false) (hb : fn.body.isSome = true)
    (hal : ∀ s w w1, Inv s w → Below w.heap.size w w1 → Inv s w1)
    (hst : ∀ s at_ s2 w, d s at_ = some s2 → Inv s w → Calls Try.prog F (#[.int .i64 at_] ++ caps) w fun e w' => e = .returned (.tuple #[]) ∧ Inv s2 w' ∧ Keep42 w w')
    (k : Nat) (s s' : σ) (n rows wide : Int) (w : World) (hI : Inv s w) (h : each.l0 d n rows wide k s 0 = some s') :
    Calls Try.prog 18 #[.agg #[.int .i64 n, .int .i64 rows, .int .i64 wide], .func (.func F) #[] caps] w fun e w' => e = .returned (.tuple #[]) ∧ Inv s' w' := by
  have H' := Aside0.mk h
  have HI := Aside0.mk hI
  clear h hI
  have he : ∀ (args : Array Value) (w : World), (callFunc F args).run Try.prog w = .ok (.enter F args) w := fun args w => enters_ hf hname hb args w
  have HS := Aside0.mk hst
  have HA0 := Aside0.mk hal
  clear hf hst hal
  go_enter Try.func18, Try.ntmps18
  go_wp2_with (first | ((with_reducible refine gate_dst (N := 2) rfl ?_); refine box_event ?hg (N := 2) ?hd (cs := #[.int .i64 n, .int .i64 rows, .int .i64 wide]) (t := 42) ?hr ?_; (case hd => rfl); (case hg => rfl); (case hr => first | (go_simp; done) | (go_simp; rfl)); intro g hg w1 hbox hbl; have BK := Aside0.mk hbox; have HI1 := Aside0.mk (HA0.out s w w1 HI.out hbl); have cw := blk_cell hbox 2; clear hbl hbox HI hg))
  go_loopg [9] k (fun kq v9 w' => ∃ (c : Int) (s1 : σ), v9 = .int .i64 c ∧ Aside0 (each.l0 d n rows wide kq s1 c = some s') ∧ Aside0 (kq ≤ k) ∧ Aside0 (Inv s1 w') ∧ Aside0 (w'.heap[g]? = some (.cells #[.int .i64 n, .int .i64 rows, .int .i64 wide] 42 (0, 0))))
  case atStart => exact ⟨0, s, rfl, H', ⟨Nat.le_refl _⟩, HI1, BK⟩
  case round =>
    clear H' HI1 BK cw
    obtain ⟨c, s1, rfl, HA, HK1, HI1, BK⟩ := hrel
    cases gk with
    | zero => exact absurd HA.out (by simp [each.l0])
    | succ k1 =>
      have H := HA.out
      clear HA
      rw [each.l0] at H
      by_cases c4 : c < wide
      · rw [if_pos c4] at H
        have c4b : decide (c < wide) = true := decide_eq_true c4
        have H' := Aside0.mk H
        clear H c4
        have cr := blk_cell BK.out 1
        go_wp2
        clear cr c4b
        go_loopg [14] k1 (fun kq v14 w' => ∃ (r : Int) (s2 : σ), v14 = .int .i64 r ∧ Aside0 (each.l1 d n rows wide kq s2 c r = some s') ∧ Aside0 (kq ≤ k1) ∧ Aside0 (Inv s2 w') ∧ Aside0 (w'.heap[g]? = some (.cells #[.int .i64 n, .int .i64 rows, .int .i64 wide] 42 (0, 0))))
        case atStart => exact ⟨0, s1, rfl, H', ⟨Nat.le_refl _⟩, HI1, BK⟩
        case round =>
          clear H' HI1 BK
          obtain ⟨r, s2, rfl, HA, HK2, HI2, BK⟩ := hrel
          cases gk with
          | zero => exact absurd HA.out (by simp [each.l1])
          | succ k2 =>
            have H := HA.out
            clear HA
            rw [each.l1] at H
            by_cases c5 : r < rows
            · rw [if_pos c5] at H
              have c5b : decide (r < rows) = true := decide_eq_true c5
              clear c5
              have cn := blk_cell BK.out 0
              have cw := blk_cell BK.out 2
              by_cases c6 : wrap64 (wrap64 (r * wide) + c) < n
              · rw [if_pos c6] at H
                have c6b : decide (wrap64 (wrap64 (r * wide) + c) < n) = true := decide_eq_true c6
                clear c6
                obtain ⟨s3, hs3, H⟩ := Option.bind_eq_some_iff.1 H
                have HC := Aside0.mk (HS.out s2 _ s3 wr hs3 HI2.out)
                have H' := Aside0.mk H
                clear H hs3
                go_wp2_with (first | ((with_reducible refine HC.out.mono ?_); rintro e w2 ⟨rfl, hi, hk⟩; have HI3 := Aside0.mk hi; have BK3 := Aside0.mk (hk g _ BK.out); clear hi hk))
                go_roundg k2
                case measure => have := HK1.out; have := HK2.out; omega
                case rel => exact ⟨wrap64 (r + 1), s3, rfl, H', ⟨by have := HK1.out; have := HK2.out; omega⟩, HI3, BK3⟩
              · rw [if_neg c6] at H
                have c6b : decide (wrap64 (wrap64 (r * wide) + c) < n) = false := decide_eq_false c6
                clear c6
                have H' := Aside0.mk H
                clear H
                go_wp2
                go_roundg k2
                case measure => have := HK1.out; have := HK2.out; omega
                case rel => exact ⟨wrap64 (r + 1), s2, rfl, H', ⟨by have := HK1.out; have := HK2.out; omega⟩, HI2, BK⟩
            · rw [if_neg c5] at H
              have c5b : decide (r < rows) = false := decide_eq_false c5
              clear c5
              have H' := Aside0.mk H
              clear H
              go_wp2
              go_roundg k2
              case measure => have := HK1.out; have := HK2.out; omega
              case rel => exact ⟨wrap64 (c + 1), s2, rfl, H', ⟨by have := HK1.out; have := HK2.out; omega⟩, HI2, BK⟩
      · rw [if_neg c4] at H
        have c4b : decide (c < wide) = false := decide_eq_false c4
        obtain rfl := Option.some.inj H
        go_wp2
        go_end0
        exact ⟨rfl, HI1.out⟩
end Go.Proofs.Ytdakfabdegiboaa.Q
