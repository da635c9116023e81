/- slices.Chunk at bytes, where the count is a multiple of eight: its rounds. Condition: the bytes lie in their range. -/
import Derived.Test.YtlpinbeppedeeaaRight
import Derived.RangeFuncNested
import Derived.RangeFuncBox
import Derived.RangeFuncBound
import Derived.RangeFuncCalls
import Derived.RangeFuncLeaves
import Derived.Shelf.Abstract
import Derived.Shelf.RegionOpen
import Derived.WalkKit
import Derived.OwnWalkIn
import Derived.TacticsInMore
import Derived.LoopNIn
import Derived.LoopIn
import Derived.Maps.AppendAt
namespace Go.Proofs.Ytlpinbeppedeeaa.Q
open Go.RowKit Go.Shelf Go.Proofs.YtlpinbeppedeeaaW.PrintWords Go.Proofs.YtlpinbeppedeeaaW.PrintLast Go.Proofs.YtlpinbeppedeeaaW.PrintMore
attribute [local go_sem] Oper.semAt_some
set_option linter.unusedVariables false
set_option linter.unusedSimpArgs false
/-- A round's number. -/
abbrev Rd (m : Nat) := { k : Nat // k < m }
/-- What a round that goes on keeps. -/
def KpC (n₀ Bs Bn : Nat) (A C : World) : Prop := Below n₀ A C ∧ (∀ v, Boxed A Bs 22 v → Boxed C Bs 22 v) ∧ (∀ v, Boxed A Bn 3 v → Boxed C Bn 3 v)
theorem KpC_t {n₀ Bs Bn : Nat} {A B C : World} (h : KpC n₀ Bs Bn A B) (k : KpC n₀ Bs Bn B C) : KpC n₀ Bs Bn A C := ⟨h.1.trans k.1, fun v hv => k.2.1 v (h.2.1 v hv), fun v hv => k.2.2 v (h.2.2 v hv)⟩
theorem boxed_put {W : World} {B l : Nat} {t : TypeId} {v : Value} {o o' : Obj} (hl : W.heap[l]? = some o) (ho : o.isCells = false) (hb : Boxed W B t v) : Boxed (W.putObj l o') B t v :=
  hb.kept (grownBy_putObj' W l o') (fun e => by cases e; rw [show W.heap[B]? = _ from hb] at hl; cases hl; cases ho)
theorem KpC_b {n₀ Bs Bn : Nat} {w : World} (hn : n₀ ≤ w.heap.size) (W : World) (l : Nat) (o o' : Obj) (hl : w.heap.size ≤ l) (h : W.heap[l]? = some o) (hc : o.isCells = false) (hw : o.isWalk = false) : KpC n₀ Bs Bn W (W.putObj l o') :=
  ⟨belowK_b hn W l o o' hl h hc hw, fun _ hv => boxed_put h hc hv, fun _ hv => boxed_put h hc hv⟩
theorem KpC_d (n₀ Bs Bn : Nat) (W : World) (q : Nat) : KpC n₀ Bs Bn W (W.drewN q) := ⟨pw_below_drewN (Below.refl _ _) _, fun _ h => h, fun _ h => h⟩
theorem grown_d (W : World) (q : Nat) : W.grownBy (W.drewN q) none := ⟨rfl, rfl, rfl, Nat.le_refl _, fun _ _ _ => rfl⟩
set_option maxRecDepth 100000 in
set_option maxHeartbeats 4000000 in
theorem chunk1_in (n : Nat) (l Bs Bn n₀ b off m cap : Nat) (hb : b < n₀) (hm : m ≤ 1000) (hcap : 8 * m ≤ cap) (J Jx : List (Rd m) → World → Prop) (hJd : ∀ pre W (q : Nat), J pre W → J pre (W.drewN q))
    (hY : ∀ pre x W, J pre W → pre.length < m → YieldAt Fence.wide (n - 1) Try.prog l #[.slice (some ⟨b, off + 8 * x.1, none⟩) 8 8] W fun e W' =>
      (e = .returned (.bool true) ∧ J (pre ++ [x]) W' ∧ KpC n₀ Bs Bn W W') ∨ (e = .returned (.bool false) ∧ Jx (pre ++ [x]) W'))
    (W : World) (hBs : Boxed W Bs 22 (.slice (some ⟨b, off, none⟩) (8 * m) cap)) (hBn : Boxed W Bn 3 (.int .i64 8)) (h0 : J [] W) :
    CallsIn Fence.wide n Try.prog 22 #[.func (.yield l) #[] #[], .pointer (some ⟨Bs, 0, none⟩), .pointer (some ⟨Bn, 0, none⟩)] W fun e W' => (∃ v, e = .returned v) ∧
      ((∃ ys : List (Rd m), ys.map (·.1) = List.range m ∧ J ys W') ∨ (∃ pre : List (Rd m), True ∧ Jx pre W')) := by
  refine callsIn_of_wp Try.func22 rfl trivial ?_ rfl
  simp only [Try.ntmps22, List.size_toArray, List.length_cons, List.length_nil, Nat.reduceAdd, Nat.reduceSub, Array.replicate_succ, Array.replicate_zero, List.push_toArray, List.append_toArray, List.nil_append, List.cons_append]
  gi_wp2
  gi_loopw [4, 5] (fun i e5 wr => ∃ (k : Nat) (pre : List (Rd m)), k ≤ m ∧ i = .int .i64 ((8 * k : Nat) : Int) ∧ pre.map (·.1) = List.range k ∧ J pre wr ∧ KpC n₀ Bs Bn W wr)
    (fun i _ _ => 8 * m - (intOf i).toNat)
  case atStart => exact ⟨0, [], Nat.zero_le _, rfl, rfl, h0, Below.refl _ _, fun _ h => h, fun _ h => h⟩
  case round =>
    obtain ⟨k, pre, hk, rfl, hpre, hJs, hnx⟩ := hrel
    have bS := hnx.2.1 _ hBs
    have bN := hnx.2.2 _ hBn
    have cS := bS.cell
    have cN := bN.cell
    by_cases hlt : k < m
    · have hl0 : (8 * k : Nat) < 8 * m := by omega
      have hlen : pre.length < m := by have := congrArg List.length hpre; simp at this; omega
      gi_wp2
      gi_quiet (fail)
      obtain ⟨fn, tmps, assign, body, hy, hR⟩ := hY pre ⟨k, hlt⟩ (wr.drewN nq) (hJd _ _ _ hJs) hlen
      dsimp only at hy
      gi_wp2
      refine ⟨fun h => Bool.noConfusion h, hR.mono ?_⟩
      rintro e W3 (⟨rfl, hJ3, hk3⟩ | ⟨rfl, hJx3⟩)
      · have hnx3 : KpC n₀ Bs Bn W W3 := KpC_t hnx (KpC_t (KpC_d _ _ _ wr nq) hk3)
        have bN3 := hnx3.2.2 _ hBn
        have cN3 := bN3.cell
        gi_wp2
        go_roundw
        case rel => exact ⟨k + 1, pre ++ [⟨k, hlt⟩], by omega, by simp; omega, by rw [List.map_append, hpre, List.range_succ]; rfl, hJ3, hnx3⟩
        case measure => simp [intOf]; omega
      · gi_wp2
        refine bodyPost_ret (results_none rfl _ _ _) rfl ?_
        exact ⟨⟨_, rfl⟩, .inr ⟨_, trivial, hJx3⟩⟩
    · obtain rfl : k = m := by omega
      gi_wp2
      go_end0
      exact ⟨⟨_, rfl⟩, .inl ⟨pre, hpre, hJs⟩⟩
set_option maxRecDepth 100000 in
set_option maxHeartbeats 4000000 in
/-- The closure's make: slice and size are boxed. -/
theorem chunk_in (n : Nat) (a : Option Addr) (len cap : Nat) (w : World) :
    CallsIn Fence.wide n Try.prog 17 #[.slice a len cap, .int .i64 8] w fun e w' => e = .returned (.func (.func 22) #[] #[.pointer (some ⟨w.heap.size, 0, none⟩), .pointer (some ⟨w.heap.size + 1, 0, none⟩)]) ∧ w' = (w.alloc (.cells #[.slice a len cap] 22)).alloc (.cells #[.int .i64 8] 3) := by
  refine callsIn_of_wp Try.func17 rfl trivial ?_ rfl
  simp only [Try.ntmps17, List.size_toArray, List.length_cons, List.length_nil, Nat.reduceAdd, Nat.reduceSub, Array.replicate_succ, Array.replicate_zero, List.push_toArray, List.append_toArray, List.nil_append, List.cons_append]
  gi_wp2
  go_ret
  exact ⟨rfl, rfl⟩
theorem chunk_stops (n Bs Bn n₀ b off m cap : Nat) (hb : b < n₀) (hm : m ≤ 1000) (hcap : 8 * m ≤ cap) (w : World) (hn : n₀ ≤ w.heap.size) (hBs : Boxed w Bs 22 (.slice (some ⟨b, off, none⟩) (8 * m) cap)) (hBn : Boxed w Bn 3 (.int .i64 8)) :
    SeqStopsK Fence.wide n Try.prog 22 #[.pointer (some ⟨Bs, 0, none⟩), .pointer (some ⟨Bn, 0, none⟩)] (fun x : Rd m => #[Value.slice (some ⟨b, off + 8 * x.1, none⟩) 8 8]) (KpC n₀ Bs Bn) (fun ys => ys.map (·.1) = List.range m) (fun _ => True) m w := fun l J Jx W hW hJ _ hY h0 =>
  chunk1_in n l Bs Bn n₀ b off m cap hb hm hcap J Jx (fun pre W2 q hj => hJ pre W2 _ none hj (grown_d W2 q) (fun _ e => by cases e)) hY W ((hW.block Bs hBs.lt).trans hBs) ((hW.block Bn hBn.lt).trans hBn) h0
end Go.Proofs.Ytlpinbeppedeeaa.Q
