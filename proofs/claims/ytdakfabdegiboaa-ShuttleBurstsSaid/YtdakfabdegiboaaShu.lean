/- The walks of shuffle's Order, Put and Take: what they hand back, by what each does. No condition of our own. -/
import Derived.Test.YtdakfabdegiboaaClo
namespace Go.Proofs.Ytdakfabdegiboaa.Q
open Go.RowKit Go.Proofs.YtdakfabdegiboaaW.PrintWords Go.Proofs.YtdakfabdegiboaaW.PrintLast Go.Proofs.YtdakfabdegiboaaW.PrintMore
attribute [local go_sem] max2_int min2_int max_two min_two max_three min_three max_four min_four
set_option linter.unusedVariables false
set_option linter.unusedSimpArgs false
/-! ### shuffle_of: function 17 -/
def shuffle_of.f (a0 : Int) (a1 : Int) : Option (Int × Int × Int × Int) := if a0 < 0 then (some (0, 0, 0, 1)) else (if a0 > 65536 then (some (0, 0, 0, 1)) else (if a1 < 1 then (some (0, 0, 0, 1)) else (if a1 > 64 then (some (0, 0, 0, 1)) else (if a1 = 0 then (none) else (some (a0, a1, wrap64 (Int.tdiv (wrap64 ((wrap64 (a0 + a1)) - 1)) a1), 0))))))
set_option maxHeartbeats 8000000 in
set_option maxRecDepth 100000 in
theorem shuffle_of.calls (a0 : Int) (a1 : Int) (r1 : Int) (r2 : Int) (r3 : Int) (r4 : Int) (w : World) (h : shuffle_of.f a0 a1 = some (r1, r2, r3, r4)) :
    Calls Try.prog 17 #[.int .i64 a0, .int .i64 a1] w fun e w' => e = .returned (.tuple #[.agg #[.int .i64 r1, .int .i64 r2, .int .i64 r3], .int .i64 r4]) ∧ Below w.heap.size w w' := by
  have hu42 := Try.underlying42
  have HB := Aside0.mk (Below.refl w.heap.size w)
  have H : (if a0 < 0 then (some (0, 0, 0, 1)) else (if a0 > 65536 then (some (0, 0, 0, 1)) else (if a1 < 1 then (some (0, 0, 0, 1)) else (if a1 > 64 then (some (0, 0, 0, 1)) else (if a1 = 0 then (none) else (some (a0, a1, wrap64 (Int.tdiv (wrap64 ((wrap64 (a0 + a1)) - 1)) a1), 0))))))) = some (r1, r2, r3, r4) := h
  clear h
  by_cases c3 : a0 < 0
  · rw [if_pos c3] at H
    have c3b0 : decide (a0 < 0) = true := decide_eq_true c3
    clear c3
    simp only [Option.some.injEq, Prod.mk.injEq] at H
    obtain ⟨rfl, rfl, rfl, rfl⟩ := H
    go_enter Try.func17, Try.ntmps17
    go_wp2_with (first | ((with_reducible refine gate_dst (N := 4) rfl ?_); refine box_event ?hg (N := 4) ?hd (cs := #[.int .i64 0, .int .i64 0, .int .i64 0]) (t := 42) ?hr ?_; (case hd => rfl); (case hg => rfl); (case hr => first | (go_simp; done) | (go_simp; rfl)); intro gb101 hg w4 hbox hb; have n0_ := Aside0.mk (below_step (by repeat (first | (with_reducible first | exact HB.out | apply below_alloc | apply pw_below_drewN | apply below_drew1) | exact HB.out)) hb); have n1_ := Aside0.mk (hbox); have n2_ := Aside0.mk ((by rw [hg]; exact (below_size (by repeat (first | (with_reducible first | exact HB.out | apply below_alloc | apply pw_below_drewN | apply below_drew1) | exact HB.out))) : w.heap.size ≤ gb101)); have n3_ := Aside0.mk ((by rw [hg]; exact (below_size (by repeat (first | (with_reducible first | exact HB.out | apply below_alloc | apply pw_below_drewN | apply below_drew1) | exact HB.out))) : w.heap.size ≤ gb101)); clear HB; have HB := n0_; have BK101 := n1_; have GW101 := n2_; have GE101 := n3_; clear n0_ n1_ n2_ n3_; clear hb hbox hg; have hcz5_0 : w4.cell? ⟨gb101, 0, none⟩ = some (.int .i64 0) := (blk_cell BK101.out 0).trans rfl; have hcz5_1 : w4.cell? ⟨gb101, 1, none⟩ = some (.int .i64 0) := (blk_cell BK101.out 1).trans rfl; have hcz5_2 : w4.cell? ⟨gb101, 2, none⟩ = some (.int .i64 0) := (blk_cell BK101.out 2).trans rfl; have hfz5_0 := blk_frozen BK101.out 0; have hfz5_1 := blk_frozen BK101.out 1; have hfz5_2 := blk_frozen BK101.out 2))
    refine bodyPost_ret (results_ct rfl _ _ gb101 42 #[.int .i64 0, .int .i64 0, .int .i64 0] (0, 0) _ rfl (by (with_reducible repeat (first | refine blk_drewN ?_ _ | refine blk_drew ?_ | refine blk_alloc ?_ _)); refine blk_put (cs := #[.int .i64 0, .int .i64 0, .int .i64 0]) ?_ 2 _ rfl; (with_reducible repeat (first | refine blk_drewN ?_ _ | refine blk_drew ?_ | refine blk_alloc ?_ _)); refine blk_put (cs := #[.int .i64 0, .int .i64 0, .int .i64 0]) ?_ 1 _ rfl; (with_reducible repeat (first | refine blk_drewN ?_ _ | refine blk_drew ?_ | refine blk_alloc ?_ _)); refine blk_put (cs := #[.int .i64 0, .int .i64 0, .int .i64 0]) ?_ 0 _ rfl; (with_reducible repeat (first | refine blk_drewN ?_ _ | refine blk_drew ?_ | refine blk_alloc ?_ _)); exact BK101.out) Try.underlying42 rfl (by kernel_rfl)) rfl ?_
    exact ⟨by first | rfl | (simp [errW_none, errW_some] <;> rfl) | (simp [*, errW_none, errW_some] <;> rfl), by repeat (first | (with_reducible first | exact HB.out | apply below_alloc | apply pw_below_drewN | apply below_drew1 | refine below_set ?_ GE101.out) | exact HB.out)⟩
  · rw [if_neg c3] at H
    have c3b0 : decide (a0 < 0) = false := decide_eq_false c3
    clear c3
    by_cases c6 : a0 > 65536
    · rw [if_pos c6] at H
      have c6b0 : decide (65536 < a0) = true := decide_eq_true c6
      clear c6
      simp only [Option.some.injEq, Prod.mk.injEq] at H
      obtain ⟨rfl, rfl, rfl, rfl⟩ := H
      go_enter Try.func17, Try.ntmps17
      go_wp2_with (first | ((with_reducible refine gate_dst (N := 4) rfl ?_); refine box_event ?hg (N := 4) ?hd (cs := #[.int .i64 0, .int .i64 0, .int .i64 0]) (t := 42) ?hr ?_; (case hd => rfl); (case hg => rfl); (case hr => first | (go_simp; done) | (go_simp; rfl)); intro gb101 hg w7 hbox hb; have n0_ := Aside0.mk (below_step (by repeat (first | (with_reducible first | exact HB.out | apply below_alloc | apply pw_below_drewN | apply below_drew1) | exact HB.out)) hb); have n1_ := Aside0.mk (hbox); have n2_ := Aside0.mk ((by rw [hg]; exact (below_size (by repeat (first | (with_reducible first | exact HB.out | apply below_alloc | apply pw_below_drewN | apply below_drew1) | exact HB.out))) : w.heap.size ≤ gb101)); have n3_ := Aside0.mk ((by rw [hg]; exact (below_size (by repeat (first | (with_reducible first | exact HB.out | apply below_alloc | apply pw_below_drewN | apply below_drew1) | exact HB.out))) : w.heap.size ≤ gb101)); clear HB; have HB := n0_; have BK101 := n1_; have GW101 := n2_; have GE101 := n3_; clear n0_ n1_ n2_ n3_; clear hb hbox hg; have hcz8_0 : w7.cell? ⟨gb101, 0, none⟩ = some (.int .i64 0) := (blk_cell BK101.out 0).trans rfl; have hcz8_1 : w7.cell? ⟨gb101, 1, none⟩ = some (.int .i64 0) := (blk_cell BK101.out 1).trans rfl; have hcz8_2 : w7.cell? ⟨gb101, 2, none⟩ = some (.int .i64 0) := (blk_cell BK101.out 2).trans rfl; have hfz8_0 := blk_frozen BK101.out 0; have hfz8_1 := blk_frozen BK101.out 1; have hfz8_2 := blk_frozen BK101.out 2))
      refine bodyPost_ret (results_ct rfl _ _ gb101 42 #[.int .i64 0, .int .i64 0, .int .i64 0] (0, 0) _ rfl (by (with_reducible repeat (first | refine blk_drewN ?_ _ | refine blk_drew ?_ | refine blk_alloc ?_ _)); refine blk_put (cs := #[.int .i64 0, .int .i64 0, .int .i64 0]) ?_ 2 _ rfl; (with_reducible repeat (first | refine blk_drewN ?_ _ | refine blk_drew ?_ | refine blk_alloc ?_ _)); refine blk_put (cs := #[.int .i64 0, .int .i64 0, .int .i64 0]) ?_ 1 _ rfl; (with_reducible repeat (first | refine blk_drewN ?_ _ | refine blk_drew ?_ | refine blk_alloc ?_ _)); refine blk_put (cs := #[.int .i64 0, .int .i64 0, .int .i64 0]) ?_ 0 _ rfl; (with_reducible repeat (first | refine blk_drewN ?_ _ | refine blk_drew ?_ | refine blk_alloc ?_ _)); exact BK101.out) Try.underlying42 rfl (by kernel_rfl)) rfl ?_
      exact ⟨by first | rfl | (simp [errW_none, errW_some] <;> rfl) | (simp [*, errW_none, errW_some] <;> rfl), by repeat (first | (with_reducible first | exact HB.out | apply below_alloc | apply pw_below_drewN | apply below_drew1 | refine below_set ?_ GE101.out) | exact HB.out)⟩
    · rw [if_neg c6] at H
      have c6b0 : decide (65536 < a0) = false := decide_eq_false c6
      clear c6
      by_cases c9 : a1 < 1
      · rw [if_pos c9] at H
        have c9b0 : decide (a1 < 1) = true := decide_eq_true c9
        clear c9
        simp only [Option.some.injEq, Prod.mk.injEq] at H
        obtain ⟨rfl, rfl, rfl, rfl⟩ := H
        go_enter Try.func17, Try.ntmps17
        go_wp2_with (first | ((with_reducible refine gate_dst (N := 4) rfl ?_); refine box_event ?hg (N := 4) ?hd (cs := #[.int .i64 0, .int .i64 0, .int .i64 0]) (t := 42) ?hr ?_; (case hd => rfl); (case hg => rfl); (case hr => first | (go_simp; done) | (go_simp; rfl)); intro gb101 hg w10 hbox hb; have n0_ := Aside0.mk (below_step (by repeat (first | (with_reducible first | exact HB.out | apply below_alloc | apply pw_below_drewN | apply below_drew1) | exact HB.out)) hb); have n1_ := Aside0.mk (hbox); have n2_ := Aside0.mk ((by rw [hg]; exact (below_size (by repeat (first | (with_reducible first | exact HB.out | apply below_alloc | apply pw_below_drewN | apply below_drew1) | exact HB.out))) : w.heap.size ≤ gb101)); have n3_ := Aside0.mk ((by rw [hg]; exact (below_size (by repeat (first | (with_reducible first | exact HB.out | apply below_alloc | apply pw_below_drewN | apply below_drew1) | exact HB.out))) : w.heap.size ≤ gb101)); clear HB; have HB := n0_; have BK101 := n1_; have GW101 := n2_; have GE101 := n3_; clear n0_ n1_ n2_ n3_; clear hb hbox hg; have hcz11_0 : w10.cell? ⟨gb101, 0, none⟩ = some (.int .i64 0) := (blk_cell BK101.out 0).trans rfl; have hcz11_1 : w10.cell? ⟨gb101, 1, none⟩ = some (.int .i64 0) := (blk_cell BK101.out 1).trans rfl; have hcz11_2 : w10.cell? ⟨gb101, 2, none⟩ = some (.int .i64 0) := (blk_cell BK101.out 2).trans rfl; have hfz11_0 := blk_frozen BK101.out 0; have hfz11_1 := blk_frozen BK101.out 1; have hfz11_2 := blk_frozen BK101.out 2))
        refine bodyPost_ret (results_ct rfl _ _ gb101 42 #[.int .i64 0, .int .i64 0, .int .i64 0] (0, 0) _ rfl (by (with_reducible repeat (first | refine blk_drewN ?_ _ | refine blk_drew ?_ | refine blk_alloc ?_ _)); refine blk_put (cs := #[.int .i64 0, .int .i64 0, .int .i64 0]) ?_ 2 _ rfl; (with_reducible repeat (first | refine blk_drewN ?_ _ | refine blk_drew ?_ | refine blk_alloc ?_ _)); refine blk_put (cs := #[.int .i64 0, .int .i64 0, .int .i64 0]) ?_ 1 _ rfl; (with_reducible repeat (first | refine blk_drewN ?_ _ | refine blk_drew ?_ | refine blk_alloc ?_ _)); refine blk_put (cs := #[.int .i64 0, .int .i64 0, .int .i64 0]) ?_ 0 _ rfl; (with_reducible repeat (first | refine blk_drewN ?_ _ | refine blk_drew ?_ | refine blk_alloc ?_ _)); exact BK101.out) Try.underlying42 rfl (by kernel_rfl)) rfl ?_
        exact ⟨by first | rfl | (simp [errW_none, errW_some] <;> rfl) | (simp [*, errW_none, errW_some] <;> rfl), by repeat (first | (with_reducible first | exact HB.out | apply below_alloc | apply pw_below_drewN | apply below_drew1 | refine below_set ?_ GE101.out) | exact HB.out)⟩
      · rw [if_neg c9] at H
        have c9b0 : decide (a1 < 1) = false := decide_eq_false c9
        clear c9
        by_cases c12 : a1 > 64
        · rw [if_pos c12] at H
          have c12b0 : decide (64 < a1) = true := decide_eq_true c12
          clear c12
          simp only [Option.some.injEq, Prod.mk.injEq] at H
          obtain ⟨rfl, rfl, rfl, rfl⟩ := H
          go_enter Try.func17, Try.ntmps17
          go_wp2_with (first | ((with_reducible refine gate_dst (N := 4) rfl ?_); refine box_event ?hg (N := 4) ?hd (cs := #[.int .i64 0, .int .i64 0, .int .i64 0]) (t := 42) ?hr ?_; (case hd => rfl); (case hg => rfl); (case hr => first | (go_simp; done) | (go_simp; rfl)); intro gb101 hg w13 hbox hb; have n0_ := Aside0.mk (below_step (by repeat (first | (with_reducible first | exact HB.out | apply below_alloc | apply pw_below_drewN | apply below_drew1) | exact HB.out)) hb); have n1_ := Aside0.mk (hbox); have n2_ := Aside0.mk ((by rw [hg]; exact (below_size (by repeat (first | (with_reducible first | exact HB.out | apply below_alloc | apply pw_below_drewN | apply below_drew1) | exact HB.out))) : w.heap.size ≤ gb101)); have n3_ := Aside0.mk ((by rw [hg]; exact (below_size (by repeat (first | (with_reducible first | exact HB.out | apply below_alloc | apply pw_below_drewN | apply below_drew1) | exact HB.out))) : w.heap.size ≤ gb101)); clear HB; have HB := n0_; have BK101 := n1_; have GW101 := n2_; have GE101 := n3_; clear n0_ n1_ n2_ n3_; clear hb hbox hg; have hcz14_0 : w13.cell? ⟨gb101, 0, none⟩ = some (.int .i64 0) := (blk_cell BK101.out 0).trans rfl; have hcz14_1 : w13.cell? ⟨gb101, 1, none⟩ = some (.int .i64 0) := (blk_cell BK101.out 1).trans rfl; have hcz14_2 : w13.cell? ⟨gb101, 2, none⟩ = some (.int .i64 0) := (blk_cell BK101.out 2).trans rfl; have hfz14_0 := blk_frozen BK101.out 0; have hfz14_1 := blk_frozen BK101.out 1; have hfz14_2 := blk_frozen BK101.out 2))
          refine bodyPost_ret (results_ct rfl _ _ gb101 42 #[.int .i64 0, .int .i64 0, .int .i64 0] (0, 0) _ rfl (by (with_reducible repeat (first | refine blk_drewN ?_ _ | refine blk_drew ?_ | refine blk_alloc ?_ _)); refine blk_put (cs := #[.int .i64 0, .int .i64 0, .int .i64 0]) ?_ 2 _ rfl; (with_reducible repeat (first | refine blk_drewN ?_ _ | refine blk_drew ?_ | refine blk_alloc ?_ _)); refine blk_put (cs := #[.int .i64 0, .int .i64 0, .int .i64 0]) ?_ 1 _ rfl; (with_reducible repeat (first | refine blk_drewN ?_ _ | refine blk_drew ?_ | refine blk_alloc ?_ _)); refine blk_put (cs := #[.int .i64 0, .int .i64 0, .int .i64 0]) ?_ 0 _ rfl; (with_reducible repeat (first | refine blk_drewN ?_ _ | refine blk_drew ?_ | refine blk_alloc ?_ _)); exact BK101.out) Try.underlying42 rfl (by kernel_rfl)) rfl ?_
          exact ⟨by first | rfl | (simp [errW_none, errW_some] <;> rfl) | (simp [*, errW_none, errW_some] <;> rfl), by repeat (first | (with_reducible first | exact HB.out | apply below_alloc | apply pw_below_drewN | apply below_drew1 | refine below_set ?_ GE101.out) | exact HB.out)⟩
        · rw [if_neg c12] at H
          have c12b0 : decide (64 < a1) = false := decide_eq_false c12
          clear c12
          by_cases c15 : a1 = 0
          · rw [if_pos c15] at H
            exact absurd H (by simp)
          · rw [if_neg c15] at H
            have c15b0 : (a1 == 0) = false := beq_eq_false_iff_ne.mpr c15
            have c15b1 : (a1 != 0) = true := bne_iff_ne.mpr c15
            simp only [Option.some.injEq, Prod.mk.injEq] at H
            obtain ⟨rfl, rfl, rfl, rfl⟩ := H
            go_enter Try.func17, Try.ntmps17
            go_wp2_with (first | ((with_reducible refine gate_dst (N := 4) rfl ?_); refine box_event ?hg (N := 4) ?hd (cs := #[.int .i64 0, .int .i64 0, .int .i64 0]) (t := 42) ?hr ?_; (case hd => rfl); (case hg => rfl); (case hr => first | (go_simp; done) | (go_simp; rfl)); intro gb101 hg w16 hbox hb; have n0_ := Aside0.mk (below_step (by repeat (first | (with_reducible first | exact HB.out | apply below_alloc | apply pw_below_drewN | apply below_drew1) | exact HB.out)) hb); have n1_ := Aside0.mk (hbox); have n2_ := Aside0.mk ((by rw [hg]; exact (below_size (by repeat (first | (with_reducible first | exact HB.out | apply below_alloc | apply pw_below_drewN | apply below_drew1) | exact HB.out))) : w.heap.size ≤ gb101)); have n3_ := Aside0.mk ((by rw [hg]; exact (below_size (by repeat (first | (with_reducible first | exact HB.out | apply below_alloc | apply pw_below_drewN | apply below_drew1) | exact HB.out))) : w.heap.size ≤ gb101)); clear HB; have HB := n0_; have BK101 := n1_; have GW101 := n2_; have GE101 := n3_; clear n0_ n1_ n2_ n3_; clear hb hbox hg; have hcz17_0 : w16.cell? ⟨gb101, 0, none⟩ = some (.int .i64 0) := (blk_cell BK101.out 0).trans rfl; have hcz17_1 : w16.cell? ⟨gb101, 1, none⟩ = some (.int .i64 0) := (blk_cell BK101.out 1).trans rfl; have hcz17_2 : w16.cell? ⟨gb101, 2, none⟩ = some (.int .i64 0) := (blk_cell BK101.out 2).trans rfl; have hfz17_0 := blk_frozen BK101.out 0; have hfz17_1 := blk_frozen BK101.out 1; have hfz17_2 := blk_frozen BK101.out 2))
            refine bodyPost_ret (results_ct rfl _ _ gb101 42 #[.int .i64 a0, .int .i64 a1, .int .i64 (wrap64 (Int.tdiv (wrap64 ((wrap64 (a0 + a1)) - 1)) a1))] (0, 0) _ rfl (by (with_reducible repeat (first | refine blk_drewN ?_ _ | refine blk_drew ?_ | refine blk_alloc ?_ _)); refine blk_put (cs := #[.int .i64 a0, .int .i64 a1, .int .i64 0]) ?_ 2 _ rfl; (with_reducible repeat (first | refine blk_drewN ?_ _ | refine blk_drew ?_ | refine blk_alloc ?_ _)); refine blk_put (cs := #[.int .i64 a0, .int .i64 0, .int .i64 0]) ?_ 1 _ rfl; (with_reducible repeat (first | refine blk_drewN ?_ _ | refine blk_drew ?_ | refine blk_alloc ?_ _)); refine blk_put (cs := #[.int .i64 0, .int .i64 0, .int .i64 0]) ?_ 0 _ rfl; (with_reducible repeat (first | refine blk_drewN ?_ _ | refine blk_drew ?_ | refine blk_alloc ?_ _)); exact BK101.out) Try.underlying42 rfl (by kernel_rfl)) rfl ?_
            exact ⟨by first | rfl | (simp [errW_none, errW_some] <;> rfl) | (simp [*, errW_none, errW_some] <;> rfl), by repeat (first | (with_reducible first | exact HB.out | apply below_alloc | apply pw_below_drewN | apply below_drew1 | refine below_set ?_ GE101.out) | exact HB.out)⟩

-- NOT PRINTED: function 18 (shuffle_table_each)

-- NOT PRINTED: function 11 (shuffle_Order)

-- NOT PRINTED: function 12 (shuttlelaw33_shuffles)

-- NOT PRINTED: function 13 (shuffle_Apart)


theorem each.mono_l {σ : Type} (d : σ → Int → Option σ) (n rows wide : Int) : ∀ k, (∀ s c, LeO (each.l0 d n rows wide k s c) (each.l0 d n rows wide (k + 1) s c)) ∧ (∀ s c r, LeO (each.l1 d n rows wide k s c r) (each.l1 d n rows wide (k + 1) s c r))
  | 0 => ⟨fun _ _ r h => by simp [each.l0] at h, fun _ _ _ r h => by simp [each.l1] at h⟩
  | k + 1 => by
    obtain ⟨ih0, ih1⟩ := each.mono_l d n rows wide k
    refine ⟨?_, ?_⟩
    · intro s c
      rw [each.l0, each.l0]
      exact LeO.ite (ih1 _ _ _) (LeO.refl _)
    · intro s c r
      rw [each.l1, each.l1]
      exact LeO.ite (LeO.ite (LeO.bind (LeO.refl _) (fun _ => ih1 _ _ _)) (ih1 _ _ _)) (ih0 _ _)
theorem InvO_start {w0 w : World} {gv : Nat} (h : w.heap[gv]? = some (Obj.cells #[.slice none 0 0] 31 (0, 0))) (hb : Below w0.heap.size w0 w) (hle : w0.heap.size ≤ gv) : InvO w0 gv [] w := ⟨_, h, Kd.R_nil _ _ _ _ _, hb, hle⟩
theorem InvO_below {w0 : World} {gv : Nat} : ∀ (xs : List Int) (w w1 : World), InvO w0 gv xs w → Below w.heap.size w w1 → InvO w0 gv xs w1 := by
  intro xs w w1 ⟨v, hv, hr, hb0, hle⟩ hb
  exact ⟨v, blk_below hv hb, Kd.R_below hr hb, below_step hb0 hb, hle⟩
def shuffle_Order.f (k : Nat) (a0 : Int) (a1 : Int) : Option (List Int × Int) := (shuffle_of.f a0 a1).bind fun b => if b.2.2.2 = 0 then ((each.l0 dO b.1 b.2.1 b.2.2.1 k [] 0).bind fun xs => some (xs, 0)) else some ([], b.2.2.2)
theorem shuffle_Order.mono : ∀ a0 a1 k, LeO (shuffle_Order.f k a0 a1) (shuffle_Order.f (k + 1) a0 a1) := fun a0 a1 k =>
  LeO.bind (LeO.refl _) (fun b => LeO.ite (LeO.bind ((each.mono_l dO _ _ _ k).1 _ _) (fun _ => LeO.refl _)) (LeO.refl _))
set_option maxHeartbeats 8000000 in
set_option maxRecDepth 100000 in
theorem shuffle_Order.calls (k : Nat) (a0 : Int) (a1 : Int) (r1 : List Int) (r2 : Int) (w : World) (h : shuffle_Order.f k a0 a1 = some (r1, r2)) :
    Calls Try.prog 11 #[.int .i64 a0, .int .i64 a1] w fun e w' => ∃ v0_ : Value, e = .returned (.tuple #[v0_, .int .i64 r2]) ∧ Kd.R (Kd.int .i64) 3 w' w.heap.size (fun _ => True) v0_ r1 ∧ Below w.heap.size w w' := by
  obtain ⟨⟨n, rows, wide, er⟩, hof, h⟩ := Option.bind_eq_some_iff.1 h
  simp only at h
  have HO := Aside0.mk hof
  have HB := Aside0.mk (Below.refl w.heap.size w)
  clear hof
  by_cases c : er = 0
  · rw [if_pos c] at h
    subst c
    obtain ⟨xs, hx, h⟩ := Option.bind_eq_some_iff.1 h
    simp only [Option.some.injEq, Prod.mk.injEq] at h
    obtain ⟨rfl, rfl⟩ := h
    have HX := Aside0.mk hx
    clear hx
    go_enter Try.func11, Try.ntmps11
    go_wp2_with (first | ((with_reducible refine gate_callee (f := 17) rfl ?_); refine goesL_ (some 12) rfl rfl Try.func17 (by kernel_rfl) rfl #[.int .i64 a0, .int .i64 a1] rfl (by (try simp only [List.map_toArray, List.map_cons, List.map_nil]); first | done | rfl) ?_; (with_reducible refine (shuffle_of.calls a0 a1 n rows wide 0 _ HO.out).mono ?_); rintro e w' ⟨rfl, hb1⟩; have HB1 := Aside0.mk hb1; clear hb1; refine ⟨_, rfl, ?_⟩) | ((with_reducible refine gate_dst (N := 6) rfl ?_); refine box_event ?hg (N := 6) ?hd (cs := #[.int .i64 0, .int .i64 0, .int .i64 0]) (t := 42) ?hr ?_; (case hd => rfl); (case hg => rfl); (case hr => first | (go_simp; done) | (go_simp; rfl)); intro g6 hg6 w6 hbox hbl; have G6 := Aside0.mk (show w.heap.size ≤ g6 by rw [hg6]; exact below_size HB1.out); have BK6 := Aside0.mk hbox; have HB6 := Aside0.mk hbl; have cA := blk_cell hbox 0; have cB := blk_cell hbox 1; have cC := blk_cell hbox 2; have fA := blk_frozen hbox 0; have fB := blk_frozen hbox 1; have fC := blk_frozen hbox 2; clear hbox hbl hg6) | ((with_reducible refine gate_dst (N := 8) rfl ?_); refine box_event ?hg8 (N := 8) ?hd8 (cs := #[.slice none 0 0]) (t := 31) ?hr8 ?_; (case hd8 => rfl); (case hg8 => rfl); (case hr8 => first | (go_simp; done) | (go_simp; rfl)); intro g8 hg8 w8 hbox8 hbl8; have BK8 := Aside0.mk hbox8; have BK9 := Aside0.mk (blk_below (blk_put (cs' := #[.int .i64 n, .int .i64 rows, .int .i64 wide]) (blk_put (cs' := #[.int .i64 n, .int .i64 rows, .int .i64 0]) (blk_put (cs' := #[.int .i64 n, .int .i64 0, .int .i64 0]) BK6.out 0 (.int .i64 n) rfl) 1 (.int .i64 rows) rfl) 2 (.int .i64 wide) rfl) hbl8); have HB7 := Aside0.mk (below_set (g := g6) (j := 2) (v := .int .i64 wide) (below_set (g := g6) (j := 1) (v := .int .i64 rows) (below_set (g := g6) (j := 0) (v := .int .i64 n) (below_step HB1.out HB6.out) G6.out) G6.out) G6.out); have HB8 := Aside0.mk (below_step HB7.out hbl8); have H8 := Aside0.mk (show w.heap.size ≤ g8 by rw [hg8]; exact below_size HB7.out); have dA := blk_cell BK9.out 0; have dB := blk_cell BK9.out 1; have dC := blk_cell BK9.out 2; clear hbox8 hbl8 hg8 cA cB cC fA fB fC) | (go_at_call 18; (with_reducible refine (each.calls dO (InvO w g8) 22 Try.f22 #[.pointer (some ⟨g8, 0, none⟩)] Try.func22 (by kernel_rfl) rfl InvO_below (fun xs i xs2 w2 hd hI => calls_of_args (by simp) (order_closure w g8 xs i xs2 w2 hd hI)) k [] xs n rows wide w8 (InvO_start BK8.out HB8.out H8.out) HX.out).mono ?_); rintro e w9 ⟨rfl, hinv⟩; obtain ⟨v9, hv9, hr9, hb9, hle9⟩ := hinv; obtain ⟨A9, c9, rfl⟩ := Kd.R_slice hr9; have HR9 := Aside0.mk hr9; have HB9 := Aside0.mk hb9; have cv9 := cell_of_one hv9; clear hv9 hr9 hb9 hle9 dA dB dC))
    go_ret2
    exact ⟨_, rfl, HR9.out, HB9.out⟩
  · rw [if_neg c] at h
    simp only [Option.some.injEq, Prod.mk.injEq] at h
    obtain ⟨rfl, rfl⟩ := h
    have cb : (er == 0) = false := beq_eq_false_iff_ne.mpr c
    have cn : (er != 0) = true := bne_iff_ne.mpr c
    clear c
    go_enter Try.func11, Try.ntmps11
    go_wp2_with (first | ((with_reducible refine gate_callee (f := 17) rfl ?_); refine goesL_ (some 12) rfl rfl Try.func17 (by kernel_rfl) rfl #[.int .i64 a0, .int .i64 a1] rfl (by (try simp only [List.map_toArray, List.map_cons, List.map_nil]); first | done | rfl) ?_; (with_reducible refine (shuffle_of.calls a0 a1 n rows wide er _ HO.out).mono ?_); rintro e w' ⟨rfl, hb1⟩; have HB1 := Aside0.mk hb1; clear hb1; refine ⟨_, rfl, ?_⟩) | ((with_reducible refine gate_dst (N := 6) rfl ?_); refine box_event ?hg (N := 6) ?hd (cs := #[.int .i64 0, .int .i64 0, .int .i64 0]) (t := 42) ?hr ?_; (case hd => rfl); (case hg => rfl); (case hr => first | (go_simp; done) | (go_simp; rfl)); intro g6 hg6 w6 hbox hbl; have G6 := Aside0.mk (show w.heap.size ≤ g6 by rw [hg6]; exact below_size HB1.out); have BK6 := Aside0.mk hbox; have HB6 := Aside0.mk hbl; have cA := blk_cell hbox 0; have cB := blk_cell hbox 1; have cC := blk_cell hbox 2; have fA := blk_frozen hbox 0; have fB := blk_frozen hbox 1; have fC := blk_frozen hbox 2; clear hbox hbl hg6))
    go_ret2
    refine ⟨_, rfl, Kd.R_nil _ _ _ _ _, ?_⟩
    exact below_set (g := g6) (j := 2) (v := .int .i64 wide) (below_set (g := g6) (j := 1) (v := .int .i64 rows) (below_set (g := g6) (j := 0) (v := .int .i64 n) (below_step HB1.out HB6.out) G6.out) G6.out) G6.out
/-! ### Put -/
def shuffle_Put.f (k : Nat) (l0 : List Int) (a1 : Int) : Option (List Int × Int) := (shuffle_of.f (l0.length : Int) a1).bind fun b => if b.2.2.2 = 0 then ((each.l0 (dP l0) b.1 b.2.1 b.2.2.1 k [] 0).bind fun xs => some (xs, 0)) else some ([], b.2.2.2)
theorem shuffle_Put.mono : ∀ a0 a1 k, LeO (shuffle_Put.f k a0 a1) (shuffle_Put.f (k + 1) a0 a1) := fun a0 a1 k =>
  LeO.bind (LeO.refl _) (fun b => LeO.ite (LeO.bind ((each.mono_l (dP a0) _ _ _ k).1 _ _) (fun _ => LeO.refl _)) (LeO.refl _))
theorem InvP_start {w0 w : World} {gv gl : Nat} {lv : Value} {l : List Int} (h : w.heap[gv]? = some (Obj.cells #[.slice none 0 0] 22 (0, 0))) (h2 : w.heap[gl]? = some (Obj.cells #[lv] 22 (0, 0))) (hb : Below w0.heap.size w0 w) (hle : w0.heap.size ≤ gv) (hle2 : w0.heap.size ≤ gl) (hne : gv ≠ gl) : InvP w0 gv gl lv l [] w := ⟨_, h, h2, Kd.R_nil _ _ _ _ _, hb, hle, hle2, hne⟩
theorem InvP_below {w0 : World} {gv gl : Nat} {lv : Value} {l : List Int} : ∀ (xs : List Int) (w w1 : World), InvP w0 gv gl lv l xs w → Below w.heap.size w w1 → InvP w0 gv gl lv l xs w1 := by
  intro xs w w1 ⟨v, hv, hl, hr, hb0, hle, hle2, hne⟩ hb
  exact ⟨v, blk_below hv hb, blk_below hl hb, Kd.R_below hr hb, below_step hb0 hb, hle, hle2, hne⟩
set_option maxHeartbeats 8000000 in
set_option maxRecDepth 100000 in
theorem shuffle_Put.calls (k : Nat) (A0 : Option Addr) (c0 : Nat) (l0 : List Int) (a1 : Int) (r1 : List Int) (r2 : Int) (w : World) (hr0 : Kd.C (Kd.int .u8) w A0 l0.length l0) (hc0 : l0.length ≤ c0) (h : shuffle_Put.f k l0 a1 = some (r1, r2)) :
    Calls Try.prog 8 #[.slice A0 l0.length c0, .int .i64 a1] w fun e w' => ∃ v0_ : Value, e = .returned (.tuple #[v0_, .int .i64 r2]) ∧ Kd.R (Kd.int .u8) 5 w' w.heap.size (fun _ => True) v0_ r1 ∧ Below w.heap.size w w' := by
  obtain ⟨⟨n, rows, wide, er⟩, hof, h⟩ := Option.bind_eq_some_iff.1 h
  simp only at h
  have HO := Aside0.mk hof
  have HC := Aside0.mk hr0
  have HL0 := Aside0.mk hc0
  clear hof hr0 hc0
  by_cases c : er = 0
  · rw [if_pos c] at h
    subst c
    obtain ⟨xs, hx, h⟩ := Option.bind_eq_some_iff.1 h
    simp only [Option.some.injEq, Prod.mk.injEq] at h
    obtain ⟨rfl, rfl⟩ := h
    have HX := Aside0.mk hx
    clear hx
    go_enter Try.func8, Try.ntmps8
    go_wp2_with (first | ((with_reducible refine gate_dst (N := 2) rfl ?_); refine box_event ?hgd2 (N := 2) ?hdd2 (cs := #[.slice A0 l0.length c0]) (t := 22) ?hrr2 ?_; (case hdd2 => rfl); (case hgd2 => rfl); (case hrr2 => first | (go_simp; done) | (go_simp; rfl)); intro g2 hg2 w2 hbox hbl; have E2 := Aside0.mk hbox; have HB2 := Aside0.mk hbl; have G2 := Aside0.mk (show w.heap.size ≤ g2 by rw [hg2]; exact Nat.le_refl _); have c2 := cell_of_one hbox; clear hbox hbl hg2) | ((with_reducible refine gate_callee (f := 17) rfl ?_); refine goesL_ (some 13) rfl rfl Try.func17 (by kernel_rfl) rfl #[.int .i64 (l0.length : Int), .int .i64 a1] rfl (by (try simp only [List.map_toArray, List.map_cons, List.map_nil]); first | done | rfl) ?_; (with_reducible refine (shuffle_of.calls (l0.length : Int) a1 n rows wide 0 _ HO.out).mono ?_); rintro e w1 ⟨rfl, hb1⟩; have HB1 := Aside0.mk (below_step HB2.out hb1); have E1 := Aside0.mk (blk_below E2.out hb1); clear hb1 c2; refine ⟨_, rfl, ?_⟩) | ((with_reducible refine gate_dst (N := 6) rfl ?_); refine box_event ?hgd6 (N := 6) ?hdd6 (cs := #[.int .i64 0, .int .i64 0, .int .i64 0]) (t := 42) ?hrr6 ?_; (case hdd6 => rfl); (case hgd6 => rfl); (case hrr6 => first | (go_simp; done) | (go_simp; rfl)); intro g6 hg6 w6 hbox hbl; have G6 := Aside0.mk (show w.heap.size ≤ g6 by rw [hg6]; exact below_size HB1.out); have BK6 := Aside0.mk hbox; have HB6 := Aside0.mk (below_step HB1.out hbl); have E6 := Aside0.mk (blk_below E1.out hbl); have N26 := Aside0.mk (show g2 ≠ g6 from blk_ne (blk_below E1.out hbl) hbox (by decide)); have cA := blk_cell hbox 0; have cB := blk_cell hbox 1; have cC := blk_cell hbox 2; have fA := blk_frozen hbox 0; have fB := blk_frozen hbox 1; have fC := blk_frozen hbox 2; clear hbox hbl hg6) | ((with_reducible refine gate_dst (N := 8) rfl ?_); refine box_event ?hgd8 (N := 8) ?hdd8 (cs := #[.slice none 0 0]) (t := 22) ?hrr8 ?_; (case hdd8 => rfl); (case hgd8 => rfl); (case hrr8 => first | (go_simp; done) | (go_simp; rfl)); intro g8 hg8 w8 hbox hbl; have BK7 := Aside0.mk (blk_put (cs' := #[.int .i64 n, .int .i64 rows, .int .i64 wide]) (blk_put (cs' := #[.int .i64 n, .int .i64 rows, .int .i64 0]) (blk_put (cs' := #[.int .i64 n, .int .i64 0, .int .i64 0]) BK6.out 0 (.int .i64 n) rfl) 1 (.int .i64 rows) rfl) 2 (.int .i64 wide) rfl); have E7 := Aside0.mk (blk_far (blk_far (blk_far E6.out (p := ⟨g6, 0, none⟩) N26.out (.int .i64 n)) (p := ⟨g6, 1, none⟩) N26.out (.int .i64 rows)) (p := ⟨g6, 2, none⟩) N26.out (.int .i64 wide)); have HB7 := Aside0.mk (below_set (g := g6) (j := 2) (v := .int .i64 wide) (below_set (g := g6) (j := 1) (v := .int .i64 rows) (below_set (g := g6) (j := 0) (v := .int .i64 n) HB6.out G6.out) G6.out) G6.out); have N28 := Aside0.mk (show g8 ≠ g2 by rw [hg8]; exact Nat.ne_of_gt (blk_lt E7.out)); have E8 := Aside0.mk (blk_below E7.out hbl); have BK8 := Aside0.mk hbox; have BK9 := Aside0.mk (blk_below BK7.out hbl); have HB8 := Aside0.mk (below_step HB7.out hbl); have H8 := Aside0.mk (show w.heap.size ≤ g8 by rw [hg8]; exact below_size HB7.out); have dA := blk_cell BK9.out 0; have dB := blk_cell BK9.out 1; have dC := blk_cell BK9.out 2; clear cA cB cC fA fB fC; clear hbox hbl hg8) | (go_at_call 18; (with_reducible refine (each.calls (dP l0) (InvP w g8 g2 (.slice A0 l0.length c0) l0) 19 Try.f19 #[.pointer (some ⟨g8, 0, none⟩), .pointer (some ⟨g2, 0, none⟩)] Try.func19 (by kernel_rfl) rfl InvP_below (fun xs i xs2 w2 hd hI => calls_of_args (by simp) (put_closure w g8 g2 A0 c0 l0 HC.out HL0.out xs i xs2 w2 hd hI)) k [] xs n rows wide w8 (InvP_start BK8.out E8.out HB8.out H8.out G2.out N28.out) HX.out).mono ?_); rintro e w9 ⟨rfl, hinv⟩; obtain ⟨v9, hv9, hl9, hr9, hb9, hle9, hle92, hne9⟩ := hinv; obtain ⟨A9, c9, rfl⟩ := Kd.R_slice hr9; have HR9 := Aside0.mk hr9; have HB9 := Aside0.mk hb9; have cv9 := cell_of_one hv9; clear hv9 hl9 hr9 hb9 hle9 hle92 hne9 dA dB dC))
    go_ret2
    exact ⟨_, rfl, HR9.out, HB9.out⟩
  · rw [if_neg c] at h
    simp only [Option.some.injEq, Prod.mk.injEq] at h
    obtain ⟨rfl, rfl⟩ := h
    have cb : (er == 0) = false := beq_eq_false_iff_ne.mpr c
    have cn : (er != 0) = true := bne_iff_ne.mpr c
    clear c
    go_enter Try.func8, Try.ntmps8
    go_wp2_with (first | ((with_reducible refine gate_dst (N := 2) rfl ?_); refine box_event ?hgd2 (N := 2) ?hdd2 (cs := #[.slice A0 l0.length c0]) (t := 22) ?hrr2 ?_; (case hdd2 => rfl); (case hgd2 => rfl); (case hrr2 => first | (go_simp; done) | (go_simp; rfl)); intro g2 hg2 w2 hbox hbl; have E2 := Aside0.mk hbox; have HB2 := Aside0.mk hbl; have G2 := Aside0.mk (show w.heap.size ≤ g2 by rw [hg2]; exact Nat.le_refl _); have c2 := cell_of_one hbox; clear hbox hbl hg2) | ((with_reducible refine gate_callee (f := 17) rfl ?_); refine goesL_ (some 13) rfl rfl Try.func17 (by kernel_rfl) rfl #[.int .i64 (l0.length : Int), .int .i64 a1] rfl (by (try simp only [List.map_toArray, List.map_cons, List.map_nil]); first | done | rfl) ?_; (with_reducible refine (shuffle_of.calls (l0.length : Int) a1 n rows wide er _ HO.out).mono ?_); rintro e w1 ⟨rfl, hb1⟩; have HB1 := Aside0.mk (below_step HB2.out hb1); have E1 := Aside0.mk (blk_below E2.out hb1); clear hb1 c2; refine ⟨_, rfl, ?_⟩) | ((with_reducible refine gate_dst (N := 6) rfl ?_); refine box_event ?hgd6 (N := 6) ?hdd6 (cs := #[.int .i64 0, .int .i64 0, .int .i64 0]) (t := 42) ?hrr6 ?_; (case hdd6 => rfl); (case hgd6 => rfl); (case hrr6 => first | (go_simp; done) | (go_simp; rfl)); intro g6 hg6 w6 hbox hbl; have G6 := Aside0.mk (show w.heap.size ≤ g6 by rw [hg6]; exact below_size HB1.out); have BK6 := Aside0.mk hbox; have HB6 := Aside0.mk (below_step HB1.out hbl); have E6 := Aside0.mk (blk_below E1.out hbl); have N26 := Aside0.mk (show g2 ≠ g6 from blk_ne (blk_below E1.out hbl) hbox (by decide)); have cA := blk_cell hbox 0; have cB := blk_cell hbox 1; have cC := blk_cell hbox 2; have fA := blk_frozen hbox 0; have fB := blk_frozen hbox 1; have fC := blk_frozen hbox 2; clear hbox hbl hg6))
    go_ret2
    refine ⟨_, rfl, Kd.R_nil _ _ _ _ _, ?_⟩
    exact below_set (g := g6) (j := 2) (v := .int .i64 wide) (below_set (g := g6) (j := 1) (v := .int .i64 rows) (below_set (g := g6) (j := 0) (v := .int .i64 n) HB6.out G6.out) G6.out) G6.out
def shuffle_Take.f (k : Nat) (l0 : List Int) (a1 : Int) : Option (List Int × Int) := (shuffle_of.f (l0.length : Int) a1).bind fun b => if b.2.2.2 = 0 then (if l0.length ≤ 281474976710656 then ((each.l0 (dT l0) b.1 b.2.1 b.2.2.1 k (List.replicate l0.length 0, 0) 0).bind fun xs => some (xs.1, 0)) else none) else some ([], b.2.2.2)
theorem shuffle_Take.mono : ∀ a0 a1 k, LeO (shuffle_Take.f k a0 a1) (shuffle_Take.f (k + 1) a0 a1) := fun a0 a1 k =>
  LeO.bind (LeO.refl _) (fun b => LeO.ite (LeO.ite (LeO.bind ((each.mono_l (dT a0) _ _ _ k).1 _ _) (fun _ => LeO.refl _)) (LeO.refl _)) (LeO.refl _))
theorem InvT_start {w0 w : World} {gl gk go : Nat} {lv v : Value} {xs : List Int} (h : w.heap[go]? = some (Obj.cells #[v] 22 (0, 0))) (h2 : w.heap[gl]? = some (Obj.cells #[lv] 22 (0, 0))) (h3 : w.heap[gk]? = some (Obj.cells #[.int .i64 0] 3 (0, 0))) (hr : Kd.R (Kd.int .u8) 5 w w0.heap.size (fun _ => True) v xs) (hb : Below w0.heap.size w0 w) (hle : w0.heap.size ≤ gk) : InvT w0 gl gk go lv (xs, 0) w := ⟨_, h, h2, h3, hr, hb, hle⟩
theorem InvT_below {w0 : World} {gl gk go : Nat} {lv : Value} : ∀ (xs : List Int × Int) (w w1 : World), InvT w0 gl gk go lv xs w → Below w.heap.size w w1 → InvT w0 gl gk go lv xs w1 := by
  intro xs w w1 ⟨v, hv, hl, hk, hr, hb0, hle⟩ hb
  exact ⟨v, blk_below hv hb, blk_below hl hb, blk_below hk hb, Kd.R_below hr hb, below_step hb0 hb, hle⟩
set_option maxHeartbeats 8000000 in
set_option maxRecDepth 100000 in
theorem shuffle_Take.calls (k : Nat) (A0 : Option Addr) (c0 : Nat) (l0 : List Int) (a1 : Int) (r1 : List Int) (r2 : Int) (w : World) (hr0 : Kd.C (Kd.int .u8) w A0 l0.length l0) (hc0 : l0.length ≤ c0) (h : shuffle_Take.f k l0 a1 = some (r1, r2)) :
    Calls Try.prog 10 #[.slice A0 l0.length c0, .int .i64 a1] w fun e w' => ∃ v0_ : Value, e = .returned (.tuple #[v0_, .int .i64 r2]) ∧ Kd.R (Kd.int .u8) 5 w' w.heap.size (fun _ => True) v0_ r1 ∧ Below w.heap.size w w' := by
  obtain ⟨⟨n, rows, wide, er⟩, hof, h⟩ := Option.bind_eq_some_iff.1 h
  simp only at h
  have HO := Aside0.mk hof
  have HC := Aside0.mk hr0
  have HL0 := Aside0.mk hc0
  clear hof hr0 hc0
  by_cases c : er = 0
  · rw [if_pos c] at h
    subst c
    by_cases lm : l0.length ≤ 281474976710656
    · rw [if_pos lm] at h
      have LM := Aside0.mk lm
      clear lm
      obtain ⟨xs, hx, h⟩ := Option.bind_eq_some_iff.1 h
      simp only [Option.some.injEq, Prod.mk.injEq] at h
      obtain ⟨rfl, rfl⟩ := h
      have HX := Aside0.mk hx
      clear hx
      go_enter Try.func10, Try.ntmps10
      go_wp2_with (first | ((with_reducible refine gate_dst (N := 2) rfl ?_); refine box_event ?hgd2 (N := 2) ?hdd2 (cs := #[.slice A0 l0.length c0]) (t := 22) ?hrr2 ?_; (case hdd2 => rfl); (case hgd2 => rfl); (case hrr2 => first | (go_simp; done) | (go_simp; rfl)); intro g2 hg2 w2 hbox hbl; have E2 := Aside0.mk hbox; have HB2 := Aside0.mk hbl; have G2 := Aside0.mk (show w.heap.size ≤ g2 by rw [hg2]; exact Nat.le_refl _); have c2 := cell_of_one hbox; clear hbox hbl hg2) | ((with_reducible refine gate_callee (f := 17) rfl ?_); refine goesL_ (some 14) rfl rfl Try.func17 (by kernel_rfl) rfl #[.int .i64 (l0.length : Int), .int .i64 a1] rfl (by (try simp only [List.map_toArray, List.map_cons, List.map_nil]); first | done | rfl) ?_; (with_reducible refine (shuffle_of.calls (l0.length : Int) a1 n rows wide 0 _ HO.out).mono ?_); rintro e w1 ⟨rfl, hb1⟩; have HB1 := Aside0.mk (below_step HB2.out hb1); have E1 := Aside0.mk (blk_below E2.out hb1); clear hb1 c2; refine ⟨_, rfl, ?_⟩) | ((with_reducible refine gate_dst (N := 6) rfl ?_); refine box_event ?hgd6 (N := 6) ?hdd6 (cs := #[.int .i64 0, .int .i64 0, .int .i64 0]) (t := 42) ?hrr6 ?_; (case hdd6 => rfl); (case hgd6 => rfl); (case hrr6 => first | (go_simp; done) | (go_simp; rfl)); intro g6 hg6 w6 hbox hbl; have G6 := Aside0.mk (show w.heap.size ≤ g6 by rw [hg6]; exact below_size HB1.out); have BK6 := Aside0.mk hbox; have HB6 := Aside0.mk (below_step HB1.out hbl); have E6 := Aside0.mk (blk_below E1.out hbl); have N26 := Aside0.mk (show g2 ≠ g6 from blk_ne (blk_below E1.out hbl) hbox (by decide)); have cA := blk_cell hbox 0; have cB := blk_cell hbox 1; have cC := blk_cell hbox 2; have fA := blk_frozen hbox 0; have fB := blk_frozen hbox 1; have fC := blk_frozen hbox 2; have cE := cell_of_one (blk_far (blk_far (blk_far E6.out (p := ⟨g6, 0, none⟩) N26.out (.int .i64 n)) (p := ⟨g6, 1, none⟩) N26.out (.int .i64 rows)) (p := ⟨g6, 2, none⟩) N26.out (.int .i64 wide)); clear hbox hbl hg6) | ((with_reducible refine gate_dst (N := 22) rfl ?_); refine Kd.R_make (Kd.int .u8) _ 5 rfl (N := 22) rfl 22 _ _ rfl (l0.length : Int) rfl rfl Try.underlying22 (.int .u8 0) 1 inf5 rfl (by decide) (by decide) 0 (ok := fun _ => True) (okp := fun _ => True) rfl (fun _ hk => hk) trivial (Int.natCast_nonneg _) (by have := LM.out; simp; omega) (Below.refl _ _) (Nat.le_refl _) ?_; intro v22 w22 ho hb hg hnew; have BK7 := Aside0.mk (blk_put (cs' := #[.int .i64 n, .int .i64 rows, .int .i64 wide]) (blk_put (cs' := #[.int .i64 n, .int .i64 rows, .int .i64 0]) (blk_put (cs' := #[.int .i64 n, .int .i64 0, .int .i64 0]) BK6.out 0 (.int .i64 n) rfl) 1 (.int .i64 rows) rfl) 2 (.int .i64 wide) rfl); have E7 := Aside0.mk (blk_far (blk_far (blk_far E6.out (p := ⟨g6, 0, none⟩) N26.out (.int .i64 n)) (p := ⟨g6, 1, none⟩) N26.out (.int .i64 rows)) (p := ⟨g6, 2, none⟩) N26.out (.int .i64 wide)); have HB7 := Aside0.mk (below_set (g := g6) (j := 2) (v := .int .i64 wide) (below_set (g := g6) (j := 1) (v := .int .i64 rows) (below_set (g := g6) (j := 0) (v := .int .i64 n) HB6.out G6.out) G6.out) G6.out); rw [Int.toNat_natCast] at ho; have HR22 := Aside0.mk (Kd.R_lower ho (below_size HB7.out)); have HB22 := Aside0.mk (below_step HB7.out hb); have BK22 := Aside0.mk (blk_below BK7.out hb); have E22 := Aside0.mk (blk_below E7.out hb); clear ho hb hg hnew cE cA cB cC fA fB fC; obtain ⟨A22, c22, e22⟩ := Kd.R_slice HR22.out; rw [List.length_replicate] at e22; subst e22) | ((with_reducible refine gate_dst (N := 8) rfl ?_); refine box_event ?hgd8 (N := 8) ?hdd8 (cs := #[.slice none 0 0]) (t := 22) ?hrr8 ?_; (case hdd8 => rfl); (case hgd8 => rfl); (case hrr8 => first | (go_simp; done) | (go_simp; rfl)); intro g8 hg8 w8 hbox hbl; have N28 := Aside0.mk (show g2 ≠ g8 by rw [hg8]; exact Nat.ne_of_lt (blk_lt E22.out)); have E8 := Aside0.mk (blk_below E22.out hbl); have BK8 := Aside0.mk hbox; have BT8 := Aside0.mk (blk_below BK22.out hbl); have HB8 := Aside0.mk (below_step HB22.out hbl); have HR8 := Aside0.mk (Kd.R_below HR22.out hbl); have H8 := Aside0.mk (show w.heap.size ≤ g8 by rw [hg8]; exact below_size HB22.out); have fz8 := blk_frozen hbox 0; have cz8 := cell_of_one hbox; clear hbox hbl hg8) | ((with_reducible refine gate_dst (N := 9) rfl ?_); refine box_event ?hgd9 (N := 9) ?hdd9 (cs := #[.int .i64 0]) (t := 3) ?hrr9 ?_; (case hdd9 => rfl); (case hgd9 => rfl); (case hrr9 => first | (go_simp; done) | (go_simp; rfl)); intro g9 hg9 w9 hbox hbl; have E9 := Aside0.mk (blk_below (blk_far E8.out (p := ⟨g8, 0, none⟩) N28.out (.slice A22 l0.length c22)) hbl); have BO9 := Aside0.mk (blk_below (one_setCell (u := .slice A22 l0.length c22) BK8.out) hbl); have BT9 := Aside0.mk (blk_below (blk_far BT8.out (p := ⟨g8, 0, none⟩) (blk_ne BT8.out BK8.out (by decide)) (.slice A22 l0.length c22)) hbl); have HB9 := Aside0.mk (below_step (HB8.out.setCell (p := ⟨g8, 0, none⟩) H8.out (.slice A22 l0.length c22)) hbl); have HR9 := Aside0.mk (Kd.R_below (Kd.R_set HR8.out BK8.out (by decide) 0 (.slice A22 l0.length c22)) hbl); have BK9 := Aside0.mk hbox; have H9 := Aside0.mk (show w.heap.size ≤ g9 by rw [hg9]; exact below_size (HB8.out.setCell (p := ⟨g8, 0, none⟩) H8.out (.slice A22 l0.length c22))); have fz9 := blk_frozen hbox 0; have cz9 := cell_of_one hbox; clear fz8 cz8; have dA := blk_cell (blk_far BT9.out (p := ⟨g9, 0, none⟩) (blk_ne BT9.out hbox (by decide)) (.int .i64 0)) 0; have dB := blk_cell (blk_far BT9.out (p := ⟨g9, 0, none⟩) (blk_ne BT9.out hbox (by decide)) (.int .i64 0)) 1; have dC := blk_cell (blk_far BT9.out (p := ⟨g9, 0, none⟩) (blk_ne BT9.out hbox (by decide)) (.int .i64 0)) 2; clear hbox hbl hg9) | (go_at_call 18; (with_reducible refine (each.calls (dT l0) (InvT w g2 g9 g8 (.slice A0 l0.length c0)) 21 Try.f21 #[.pointer (some ⟨g2, 0, none⟩), .pointer (some ⟨g9, 0, none⟩), .pointer (some ⟨g8, 0, none⟩)] Try.func21 (by kernel_rfl) rfl InvT_below (fun xs i xs2 w2 hd hI => calls_of_args (by simp) (take_closure w g2 g9 g8 A0 c0 l0 HC.out HL0.out xs i xs2 w2 hd hI)) k (List.replicate l0.length 0, 0) xs n rows wide (w9.setCell ⟨g9, 0, none⟩ (.int .i64 0)) (InvT_start (blk_far BO9.out (p := ⟨g9, 0, none⟩) (blk_ne BO9.out BK9.out (by decide)) (.int .i64 0)) (blk_far E9.out (p := ⟨g9, 0, none⟩) (blk_ne E9.out BK9.out (by decide)) (.int .i64 0)) (one_setCell BK9.out) (Kd.R_set HR9.out BK9.out (by decide) 0 (.int .i64 0)) (HB9.out.setCell (p := ⟨g9, 0, none⟩) H9.out _) H9.out) HX.out).mono ?_); rintro e w10 ⟨rfl, hinv⟩; obtain ⟨v10, hv10, hl10, hk10, hr10, hb10, hle10⟩ := hinv; obtain ⟨A10, c10, rfl⟩ := Kd.R_slice hr10; have HR10 := Aside0.mk hr10; have HB10 := Aside0.mk hb10; have cv10 := cell_of_one hv10; clear hv10 hl10 hk10 hr10 hb10 hle10 dA dB dC fz9 cz9))
      go_ret2
      exact ⟨_, rfl, HR10.out, HB10.out⟩
    · rw [if_neg lm] at h
      cases h
  · rw [if_neg c] at h
    simp only [Option.some.injEq, Prod.mk.injEq] at h
    obtain ⟨rfl, rfl⟩ := h
    have cb : (er == 0) = false := beq_eq_false_iff_ne.mpr c
    have cn : (er != 0) = true := bne_iff_ne.mpr c
    clear c
    go_enter Try.func10, Try.ntmps10
    go_wp2_with (first | ((with_reducible refine gate_dst (N := 2) rfl ?_); refine box_event ?hgd2 (N := 2) ?hdd2 (cs := #[.slice A0 l0.length c0]) (t := 22) ?hrr2 ?_; (case hdd2 => rfl); (case hgd2 => rfl); (case hrr2 => first | (go_simp; done) | (go_simp; rfl)); intro g2 hg2 w2 hbox hbl; have E2 := Aside0.mk hbox; have HB2 := Aside0.mk hbl; have G2 := Aside0.mk (show w.heap.size ≤ g2 by rw [hg2]; exact Nat.le_refl _); have c2 := cell_of_one hbox; clear hbox hbl hg2) | ((with_reducible refine gate_callee (f := 17) rfl ?_); refine goesL_ (some 14) rfl rfl Try.func17 (by kernel_rfl) rfl #[.int .i64 (l0.length : Int), .int .i64 a1] rfl (by (try simp only [List.map_toArray, List.map_cons, List.map_nil]); first | done | rfl) ?_; (with_reducible refine (shuffle_of.calls (l0.length : Int) a1 n rows wide er _ HO.out).mono ?_); rintro e w1 ⟨rfl, hb1⟩; have HB1 := Aside0.mk (below_step HB2.out hb1); have E1 := Aside0.mk (blk_below E2.out hb1); clear hb1 c2; refine ⟨_, rfl, ?_⟩) | ((with_reducible refine gate_dst (N := 6) rfl ?_); refine box_event ?hgd6 (N := 6) ?hdd6 (cs := #[.int .i64 0, .int .i64 0, .int .i64 0]) (t := 42) ?hrr6 ?_; (case hdd6 => rfl); (case hgd6 => rfl); (case hrr6 => first | (go_simp; done) | (go_simp; rfl)); intro g6 hg6 w6 hbox hbl; have G6 := Aside0.mk (show w.heap.size ≤ g6 by rw [hg6]; exact below_size HB1.out); have BK6 := Aside0.mk hbox; have HB6 := Aside0.mk (below_step HB1.out hbl); have E6 := Aside0.mk (blk_below E1.out hbl); have N26 := Aside0.mk (show g2 ≠ g6 from blk_ne (blk_below E1.out hbl) hbox (by decide)); have cA := blk_cell hbox 0; have cB := blk_cell hbox 1; have cC := blk_cell hbox 2; have fA := blk_frozen hbox 0; have fB := blk_frozen hbox 1; have fC := blk_frozen hbox 2; clear hbox hbl hg6))
    go_ret2
    refine ⟨_, rfl, Kd.R_nil _ _ _ _ _, ?_⟩
    exact below_set (g := g6) (j := 2) (v := .int .i64 wide) (below_set (g := g6) (j := 1) (v := .int .i64 rows) (below_set (g := g6) (j := 0) (v := .int .i64 n) HB6.out G6.out) G6.out) G6.out
end Go.Proofs.Ytdakfabdegiboaa.Q
