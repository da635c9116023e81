-- PRINTED BY print.sh 35421559b90ae4d0a3588c463048766b98c2df88dd9212a6774a882060cdf62d: not written by this session
import Derived.Test.YtheklcdaanojaaaPRateTellsx0
import Derived.Test.YtheklcdaanojaaaPRateTellsx1
import Derived.Test.YtheklcdaanojaaaPRateTellsx2
namespace Go.Proofs.Ytheklcdaanojaaa.PRateTells
open Go.RowKit Go.Proofs.YtheklcdaanojaaaW.PrintWords Go.Proofs.YtheklcdaanojaaaW.PrintLast Go.Proofs.YtheklcdaanojaaaW.PrintMore
attribute [local go_sem] max2_int min2_int max_two min_two max_three min_three max_four min_four   -- for this text's walks alone
set_option linter.unusedVariables false
set_option linter.unusedSimpArgs false

attribute [local go_sem high] eqA23
/-! ### shuttlelaw21_RateTells: function 3 -/
def shuttlelaw21_RateTells.j0 : Nat → Int → Int → Int → Int → Int → Int → Bool → Bool → Int → Int → Int → Int → Option (Bool)
  | 0, _, _, _, _, _, _, _, _, _, _, _, _ => none
  | k + 1, x0, x1, x2, x8, x9, x11, x12, x56, x116000, x116001, x122000, x122001 => if x56 = true then (some false) else (if x12 = true then (if 0 ≤ x0 then (if x8 = (shl .i64 1 x0) then (if x2 < 1 then (if x11 = 1 then (some (x122000 == 0 && (x122001 == 0))) else (some false)) else ((shuttleref21_Done.f k x0 x1 x2).bind fun bt126 => (if (x122000 == bt126.1 && (x122001 == bt126.2)) = true then ((rate_Check.f x122000 x122001).bind fun t128 => (some (t128 == 0))) else (some false)))) else (some false)) else (none)) else (if x9 = 1 then (if x8 = 0 then (if (x122000 == 0 && (x122001 == 0)) = true then ((rate_Check.f x116000 x116001).bind fun t125 => (some (t125 == 1))) else (some false)) else (some false)) else (some false)))
def shuttlelaw21_RateTells.f (k : Nat) (a0 : Int) (a1 : Int) (a2 : Int) : Option (Bool) := (rate_Burst.f a0 a1).bind fun bt116 => ((rate_Done.f k a0 a1 a2).bind fun bt118 => ((shuttleref21_Right.f a0 a1).bind fun t122 => ((shuttlelaw21_rates.f k).bind fun t123 => (if t123 = true then ((rate_Check.f a0 a1).bind fun t124 => (if ((t124 == 0) != t122) = true then (shuttlelaw21_RateTells.j0 k a0 a1 a2 bt116.1 bt116.2 bt118.2.2 t122 true a0 a1 bt118.1 bt118.2.1) else (if ((bt116.2 == 0) != t122) = true then (shuttlelaw21_RateTells.j0 k a0 a1 a2 bt116.1 bt116.2 bt118.2.2 t122 true a0 a1 bt118.1 bt118.2.1) else (if t122 = true then (shuttlelaw21_RateTells.j0 k a0 a1 a2 bt116.1 bt116.2 bt118.2.2 t122 ((bt118.2.2 == 0) != (decide (a2 ≥ 1))) a0 a1 bt118.1 bt118.2.1) else (shuttlelaw21_RateTells.j0 k a0 a1 a2 bt116.1 bt116.2 bt118.2.2 t122 ((bt118.2.2 == 0) != false) a0 a1 bt118.1 bt118.2.1))))) else (shuttlelaw21_RateTells.j0 k a0 a1 a2 bt116.1 bt116.2 bt118.2.2 t122 true a0 a1 bt118.1 bt118.2.1)))))
theorem shuttlelaw21_RateTells.mono_l : ∀ k, (∀ y0 y1 y2 y3 y4 y5 y6 y7 y8 y9 y10 y11, LeO (shuttlelaw21_RateTells.j0 k y0 y1 y2 y3 y4 y5 y6 y7 y8 y9 y10 y11) (shuttlelaw21_RateTells.j0 (k + 1) y0 y1 y2 y3 y4 y5 y6 y7 y8 y9 y10 y11))
  | 0 => fun _ _ _ _ _ _ _ _ _ _ _ _ r h => by simp [shuttlelaw21_RateTells.j0] at h
  | k + 1 => by
    have ih0 := shuttlelaw21_RateTells.mono_l k
    · intro y0 y1 y2 y3 y4 y5 y6 y7 y8 y9 y10 y11
      unfold shuttlelaw21_RateTells.j0
      repeat' first
      | (with_reducible exact ih0 _ _ _ _ _ _ _ _ _ _ _ _)
      | (with_reducible exact rate_Done.mono _ _ _ _)
      | (with_reducible exact shuttlelaw21_rates.mono _)
      | (with_reducible exact shuttleref21_Done.mono _ _ _ _)
      | (with_reducible exact LeO.refl _)
      | (with_reducible exact LeO.none _)
      | (with_reducible refine LeO.ite ?_ ?_)
      | (with_reducible refine LeO.bind ?_ (fun _ => ?_))
      | exact ih0 _ _ _ _ _ _ _ _ _ _ _ _
      | exact rate_Done.mono _ _ _ _
      | exact shuttlelaw21_rates.mono _
      | exact shuttleref21_Done.mono _ _ _ _
      | exact LeO.none _
      | refine LeO.ite ?_ ?_
      | refine LeO.bind ?_ (fun _ => ?_)
theorem shuttlelaw21_RateTells.mono : ∀ a0 a1 a2 k, LeO (shuttlelaw21_RateTells.f k a0 a1 a2) (shuttlelaw21_RateTells.f (k + 1) a0 a1 a2) := by
  intro a0 a1 a2 k
  have ih0 := shuttlelaw21_RateTells.mono_l k
  unfold shuttlelaw21_RateTells.f
  repeat' first
      | (with_reducible exact ih0 _ _ _ _ _ _ _ _ _ _ _ _)
      | (with_reducible exact rate_Done.mono _ _ _ _)
      | (with_reducible exact shuttlelaw21_rates.mono _)
      | (with_reducible exact shuttleref21_Done.mono _ _ _ _)
      | (with_reducible exact LeO.refl _)
      | (with_reducible exact LeO.none _)
      | (with_reducible refine LeO.ite ?_ ?_)
      | (with_reducible refine LeO.bind ?_ (fun _ => ?_))
      | exact ih0 _ _ _ _ _ _ _ _ _ _ _ _
      | exact rate_Done.mono _ _ _ _
      | exact shuttlelaw21_rates.mono _
      | exact shuttleref21_Done.mono _ _ _ _
      | exact LeO.none _
      | refine LeO.ite ?_ ?_
      | refine LeO.bind ?_ (fun _ => ?_)
set_option maxHeartbeats 8000000 in
set_option maxRecDepth 100000 in
theorem shuttlelaw21_RateTells.calls (k : Nat) (a0 : Int) (a1 : Int) (a2 : Int) (r : Bool) (w : World) (h : shuttlelaw21_RateTells.f k a0 a1 a2 = some r) :
    Calls Try.prog 3 #[.int .i64 a0, .int .i64 a1, .int .i64 a2] w fun e w' => e = .returned (.bool r) ∧ Below w.heap.size w w' := by
  have hu23 := Try.underlying23
  have HB := Aside0.mk (Below.refl w.heap.size w)
  have H : ((rate_Burst.f a0 a1).bind fun bt116 => ((rate_Done.f k a0 a1 a2).bind fun bt118 => ((shuttleref21_Right.f a0 a1).bind fun t122 => ((shuttlelaw21_rates.f k).bind fun t123 => (if t123 = true then ((rate_Check.f a0 a1).bind fun t124 => (if ((t124 == 0) != t122) = true then (shuttlelaw21_RateTells.j0 k a0 a1 a2 bt116.1 bt116.2 bt118.2.2 t122 true a0 a1 bt118.1 bt118.2.1) else (if ((bt116.2 == 0) != t122) = true then (shuttlelaw21_RateTells.j0 k a0 a1 a2 bt116.1 bt116.2 bt118.2.2 t122 true a0 a1 bt118.1 bt118.2.1) else (if t122 = true then (shuttlelaw21_RateTells.j0 k a0 a1 a2 bt116.1 bt116.2 bt118.2.2 t122 ((bt118.2.2 == 0) != (decide (a2 ≥ 1))) a0 a1 bt118.1 bt118.2.1) else (shuttlelaw21_RateTells.j0 k a0 a1 a2 bt116.1 bt116.2 bt118.2.2 t122 ((bt118.2.2 == 0) != false) a0 a1 bt118.1 bt118.2.1))))) else (shuttlelaw21_RateTells.j0 k a0 a1 a2 bt116.1 bt116.2 bt118.2.2 t122 true a0 a1 bt118.1 bt118.2.1)))))) = some r := h
  clear h
  replace H := Option.bind_eq_some_iff.mp H
  obtain ⟨⟨t116, t117⟩, A40, H⟩ := H
  replace H : ((rate_Done.f k a0 a1 a2).bind fun bt118 => ((shuttleref21_Right.f a0 a1).bind fun t122 => ((shuttlelaw21_rates.f k).bind fun t123 => (if t123 = true then ((rate_Check.f a0 a1).bind fun t124 => (if ((t124 == 0) != t122) = true then (shuttlelaw21_RateTells.j0 k a0 a1 a2 t116 t117 bt118.2.2 t122 true a0 a1 bt118.1 bt118.2.1) else (if ((t117 == 0) != t122) = true then (shuttlelaw21_RateTells.j0 k a0 a1 a2 t116 t117 bt118.2.2 t122 true a0 a1 bt118.1 bt118.2.1) else (if t122 = true then (shuttlelaw21_RateTells.j0 k a0 a1 a2 t116 t117 bt118.2.2 t122 ((bt118.2.2 == 0) != (decide (a2 ≥ 1))) a0 a1 bt118.1 bt118.2.1) else (shuttlelaw21_RateTells.j0 k a0 a1 a2 t116 t117 bt118.2.2 t122 ((bt118.2.2 == 0) != false) a0 a1 bt118.1 bt118.2.1))))) else (shuttlelaw21_RateTells.j0 k a0 a1 a2 t116 t117 bt118.2.2 t122 true a0 a1 bt118.1 bt118.2.1))))) = some r := H
  have A4 := Aside0.mk A40
  clear A40
  replace H := Option.bind_eq_some_iff.mp H
  obtain ⟨⟨t118, t119, t120⟩, A50, H⟩ := H
  replace H : ((shuttleref21_Right.f a0 a1).bind fun t122 => ((shuttlelaw21_rates.f k).bind fun t123 => (if t123 = true then ((rate_Check.f a0 a1).bind fun t124 => (if ((t124 == 0) != t122) = true then (shuttlelaw21_RateTells.j0 k a0 a1 a2 t116 t117 t120 t122 true a0 a1 t118 t119) else (if ((t117 == 0) != t122) = true then (shuttlelaw21_RateTells.j0 k a0 a1 a2 t116 t117 t120 t122 true a0 a1 t118 t119) else (if t122 = true then (shuttlelaw21_RateTells.j0 k a0 a1 a2 t116 t117 t120 t122 ((t120 == 0) != (decide (a2 ≥ 1))) a0 a1 t118 t119) else (shuttlelaw21_RateTells.j0 k a0 a1 a2 t116 t117 t120 t122 ((t120 == 0) != false) a0 a1 t118 t119))))) else (shuttlelaw21_RateTells.j0 k a0 a1 a2 t116 t117 t120 t122 true a0 a1 t118 t119)))) = some r := H
  have A5 := Aside0.mk A50
  clear A50
  replace H := Option.bind_eq_some_iff.mp H
  obtain ⟨t122, A60, H⟩ := H
  replace H : ((shuttlelaw21_rates.f k).bind fun t123 => (if t123 = true then ((rate_Check.f a0 a1).bind fun t124 => (if ((t124 == 0) != t122) = true then (shuttlelaw21_RateTells.j0 k a0 a1 a2 t116 t117 t120 t122 true a0 a1 t118 t119) else (if ((t117 == 0) != t122) = true then (shuttlelaw21_RateTells.j0 k a0 a1 a2 t116 t117 t120 t122 true a0 a1 t118 t119) else (if t122 = true then (shuttlelaw21_RateTells.j0 k a0 a1 a2 t116 t117 t120 t122 ((t120 == 0) != (decide (a2 ≥ 1))) a0 a1 t118 t119) else (shuttlelaw21_RateTells.j0 k a0 a1 a2 t116 t117 t120 t122 ((t120 == 0) != false) a0 a1 t118 t119))))) else (shuttlelaw21_RateTells.j0 k a0 a1 a2 t116 t117 t120 t122 true a0 a1 t118 t119))) = some r := H
  have A6 := Aside0.mk A60
  clear A60
  have HC7 := Aside0.mk H
  clear H
  go_enter Try.func3, Try.ntmps3
  go_upto_region 5 with (first | ((with_reducible refine gate_dst (N := 7) rfl ?_); refine box_event ?hg (N := 7) ?hd (cs := #[.int .i64 0, .int .i64 0]) (t := 23) ?hr ?_; (case hd => rfl); (case hg => rfl); (case hr => first | (go_simp; done) | (go_simp; rfl)); intro gb115 hg w8 hbox hb; have n0_ := Aside0.mk (below_step (by repeat (first | (with_reducible first | exact HB.out | apply below_alloc | apply pw_below_drewN | apply below_drew1) | exact HB.out)) hb); have n1_ := Aside0.mk (hbox); have n2_ := Aside0.mk ((by rw [hg]; exact (below_size (by repeat (first | (with_reducible first | exact HB.out | apply below_alloc | apply pw_below_drewN | apply below_drew1) | exact HB.out))) : w.heap.size ≤ gb115)); have n3_ := Aside0.mk ((by rw [hg]; exact (below_size (by repeat (first | (with_reducible first | exact HB.out | apply below_alloc | apply pw_below_drewN | apply below_drew1) | exact HB.out))) : w.heap.size ≤ gb115)); clear HB; have HB := n0_; have BK115 := n1_; have GW115 := n2_; have GE115 := n3_; clear n0_ n1_ n2_ n3_; clear hb hbox hg; have hcz9_0 : w8.cell? ⟨gb115, 0, none⟩ = some (.int .i64 0) := (blk_cell BK115.out 0).trans rfl; have hcz9_1 : w8.cell? ⟨gb115, 1, none⟩ = some (.int .i64 0) := (blk_cell BK115.out 1).trans rfl; have hfz9_0 := blk_frozen BK115.out 0; have hfz9_1 := blk_frozen BK115.out 1) | ((with_reducible refine gate_callee (f := 8) rfl ?_); refine goesL_ (some 20) rfl rfl Try.func8 (by kernel_rfl) rfl #[.agg #[.int .i64 a0, .int .i64 a1]] rfl (by (try simp only [List.map_toArray, List.map_cons, List.map_nil]); first | done | rfl | (simp only [List.length_drop, List.length_take]; rfl)) ?_; (with_reducible refine (rate_Burst.calls a0 a1 t116 t117 _ A4.out).mono ?_); rintro e w10 ⟨rfl, hb⟩; refine ⟨_, rfl, ?_⟩; have n0_ := Aside0.mk (blk_below (g := gb115) (o := .cells #[.int .i64 a0, .int .i64 a1] 23 (0, 0)) (by (with_reducible repeat (first | refine blk_drewN ?_ _ | refine blk_drew ?_ | refine blk_alloc ?_ _)); refine blk_put (cs := #[.int .i64 a0, .int .i64 0]) ?_ 1 _ rfl; (with_reducible repeat (first | refine blk_drewN ?_ _ | refine blk_drew ?_ | refine blk_alloc ?_ _)); refine blk_put (cs := #[.int .i64 0, .int .i64 0]) ?_ 0 _ rfl; (with_reducible repeat (first | refine blk_drewN ?_ _ | refine blk_drew ?_ | refine blk_alloc ?_ _)); exact BK115.out) hb); have n1_ := Aside0.mk (below_step (by repeat (first | (with_reducible first | exact HB.out | apply below_alloc | apply pw_below_drewN | apply below_drew1 | refine below_set ?_ GE115.out) | exact HB.out)) hb); clear BK115; clear HB; have BK115 := n0_; have HB := n1_; clear n0_ n1_; (try clear hb); (try clear hb2); (try clear hk); (try clear hi); have hcz11_0 : w10.cell? ⟨gb115, 0, none⟩ = some (.int .i64 a0) := (blk_cell BK115.out 0).trans rfl; have hcz11_1 : w10.cell? ⟨gb115, 1, none⟩ = some (.int .i64 a1) := (blk_cell BK115.out 1).trans rfl; have hfz11_0 := blk_frozen BK115.out 0; have hfz11_1 := blk_frozen BK115.out 1) | ((with_reducible refine gate_callee (f := 9) rfl ?_); refine goesL_ (some 26) rfl rfl Try.func9 (by kernel_rfl) rfl #[.agg #[.int .i64 a0, .int .i64 a1], .int .i64 a2] rfl (by (try simp only [List.map_toArray, List.map_cons, List.map_nil]); first | done | rfl | (simp only [List.length_drop, List.length_take]; rfl)) ?_; (with_reducible refine (rate_Done.calls k a0 a1 a2 t118 t119 t120 _ A5.out).mono ?_); rintro e w12 ⟨rfl, hb⟩; refine ⟨_, rfl, ?_⟩; have n0_ := Aside0.mk (blk_below (g := gb115) (o := .cells #[.int .i64 a0, .int .i64 a1] 23 (0, 0)) (by (with_reducible repeat (first | refine blk_drewN ?_ _ | refine blk_drew ?_ | refine blk_alloc ?_ _)); exact BK115.out) hb); have n1_ := Aside0.mk (below_step (by repeat (first | (with_reducible first | exact HB.out | apply below_alloc | apply pw_below_drewN | apply below_drew1 | refine below_set ?_ GE115.out) | exact HB.out)) hb); clear BK115; clear HB; have BK115 := n0_; have HB := n1_; clear n0_ n1_; (try clear hb); (try clear hb2); (try clear hk); (try clear hi)) | ((with_reducible refine gate_dst (N := 10) rfl ?_); refine box_event ?hg (N := 10) ?hd (cs := #[.int .i64 0, .int .i64 0]) (t := 23) ?hr ?_; (case hd => rfl); (case hg => rfl); (case hr => first | (go_simp; done) | (go_simp; rfl)); intro gb121 hg w13 hbox hb; have n0_ := Aside0.mk (blk_below (g := gb115) (o := .cells #[.int .i64 a0, .int .i64 a1] 23 (0, 0)) (by (with_reducible repeat (first | refine blk_drewN ?_ _ | refine blk_drew ?_ | refine blk_alloc ?_ _)); exact BK115.out) hb); have n1_ := Aside0.mk (below_step (by repeat (first | (with_reducible first | exact HB.out | apply below_alloc | apply pw_below_drewN | apply below_drew1 | refine below_set ?_ GE115.out) | exact HB.out)) hb); have n2_ := Aside0.mk (hbox); have n3_ := Aside0.mk ((by rw [hg]; exact (below_size (by repeat (first | (with_reducible first | exact HB.out | apply below_alloc | apply pw_below_drewN | apply below_drew1 | refine below_set ?_ GE115.out) | exact HB.out))) : w.heap.size ≤ gb121)); have n4_ := Aside0.mk ((by rw [hg]; exact (below_size (by repeat (first | (with_reducible first | exact HB.out | apply below_alloc | apply pw_below_drewN | apply below_drew1 | refine below_set ?_ GE115.out) | exact HB.out))) : w.heap.size ≤ gb121)); have n5_ := Aside0.mk ((by rw [hg]; exact Nat.ne_of_lt (blk_lt (g := gb115) (o := .cells #[.int .i64 a0, .int .i64 a1] 23 (0, 0)) (by (with_reducible repeat (first | refine blk_drewN ?_ _ | refine blk_drew ?_ | refine blk_alloc ?_ _)); exact BK115.out)) : gb115 ≠ gb121)); have n6_ := Aside0.mk ((by rw [hg]; exact Nat.ne_of_gt (blk_lt (g := gb115) (o := .cells #[.int .i64 a0, .int .i64 a1] 23 (0, 0)) (by (with_reducible repeat (first | refine blk_drewN ?_ _ | refine blk_drew ?_ | refine blk_alloc ?_ _)); exact BK115.out)) : gb121 ≠ gb115)); clear BK115; clear HB; have BK115 := n0_; have HB := n1_; have BK121 := n2_; have GW121 := n3_; have GE121 := n4_; have NB115_121 := n5_; have NB121_115 := n6_; clear n0_ n1_ n2_ n3_ n4_ n5_ n6_; clear hb hbox hg; have hnb14 := NB121_115.out; have hnc14 := NB115_121.out; have hcz15_0 : w13.cell? ⟨gb121, 0, none⟩ = some (.int .i64 0) := (blk_cell BK121.out 0).trans rfl; have hcz15_1 : w13.cell? ⟨gb121, 1, none⟩ = some (.int .i64 0) := (blk_cell BK121.out 1).trans rfl; have hfz15_0 := blk_frozen BK121.out 0; have hfz15_1 := blk_frozen BK121.out 1) | ((with_reducible refine gate_callee (f := 10) rfl ?_); refine goesL_ (some 31) rfl rfl Try.func10 (by kernel_rfl) rfl #[.int .i64 a0, .int .i64 a1] rfl (by (try simp only [List.map_toArray, List.map_cons, List.map_nil]); first | done | rfl | (simp only [List.length_drop, List.length_take]; rfl)) ?_; (with_reducible refine (shuttleref21_Right.calls a0 a1 t122 _ A6.out).mono ?_); rintro e w' ⟨rfl, ⟨nd, rfl⟩⟩; refine ⟨_, rfl, ?_⟩))
  (try simp only [Act.put, List.setIfInBounds_toArray, List.set_cons_zero, List.set_cons_succ])
  go_cut [56] (fun v56 wc => ∃ (kq : Nat) (x56_6 : Bool), v56 = .bool x56_6 ∧ Aside0 (shuttlelaw21_RateTells.j0 kq a0 a1 a2 t116 t117 t120 t122 x56_6 a0 a1 t118 t119 = some r) ∧ Aside0 (kq ≤ k) ∧ Aside0 (wc.heap[gb115]? = some (.cells #[.int .i64 a0, .int .i64 a1] 23 (0, 0))) ∧ Aside0 (wc.heap[gb121]? = some (.cells #[.int .i64 t118, .int .i64 t119] 23 (0, 0))) ∧ Aside0 (Below w.heap.size w wc))
  case first =>
    have H := HC7.out
    clear HC7
    replace H := Option.bind_eq_some_iff.mp H
    obtain ⟨t123, A160, H⟩ := H
    replace H : (if t123 = true then ((rate_Check.f a0 a1).bind fun t124 => (if ((t124 == 0) != t122) = true then (shuttlelaw21_RateTells.j0 k a0 a1 a2 t116 t117 t120 t122 true a0 a1 t118 t119) else (if ((t117 == 0) != t122) = true then (shuttlelaw21_RateTells.j0 k a0 a1 a2 t116 t117 t120 t122 true a0 a1 t118 t119) else (if t122 = true then (shuttlelaw21_RateTells.j0 k a0 a1 a2 t116 t117 t120 t122 ((t120 == 0) != (decide (a2 ≥ 1))) a0 a1 t118 t119) else (shuttlelaw21_RateTells.j0 k a0 a1 a2 t116 t117 t120 t122 ((t120 == 0) != false) a0 a1 t118 t119))))) else (shuttlelaw21_RateTells.j0 k a0 a1 a2 t116 t117 t120 t122 true a0 a1 t118 t119)) = some r := H
    have A16 := Aside0.mk A160
    clear A160
    by_cases c17 : t123 = true
    · subst c17
      have H1 : ((rate_Check.f a0 a1).bind fun t124 => (if ((t124 == 0) != t122) = true then (shuttlelaw21_RateTells.j0 k a0 a1 a2 t116 t117 t120 t122 true a0 a1 t118 t119) else (if ((t117 == 0) != t122) = true then (shuttlelaw21_RateTells.j0 k a0 a1 a2 t116 t117 t120 t122 true a0 a1 t118 t119) else (if t122 = true then (shuttlelaw21_RateTells.j0 k a0 a1 a2 t116 t117 t120 t122 ((t120 == 0) != (decide (a2 ≥ 1))) a0 a1 t118 t119) else (shuttlelaw21_RateTells.j0 k a0 a1 a2 t116 t117 t120 t122 ((t120 == 0) != false) a0 a1 t118 t119))))) = some r := by rw [if_pos rfl] at H; exact H
      clear H
      have H := H1
      clear H1
      replace H := Option.bind_eq_some_iff.mp H
      obtain ⟨t124, A180, H⟩ := H
      replace H : (if ((t124 == 0) != t122) = true then (shuttlelaw21_RateTells.j0 k a0 a1 a2 t116 t117 t120 t122 true a0 a1 t118 t119) else (if ((t117 == 0) != t122) = true then (shuttlelaw21_RateTells.j0 k a0 a1 a2 t116 t117 t120 t122 true a0 a1 t118 t119) else (if t122 = true then (shuttlelaw21_RateTells.j0 k a0 a1 a2 t116 t117 t120 t122 ((t120 == 0) != (decide (a2 ≥ 1))) a0 a1 t118 t119) else (shuttlelaw21_RateTells.j0 k a0 a1 a2 t116 t117 t120 t122 ((t120 == 0) != false) a0 a1 t118 t119)))) = some r := H
      have A18 := Aside0.mk A180
      clear A180
      by_cases c19 : ((t124 == 0) != t122) = true
      · rw [if_pos c19] at H
        have c19b0 : ((t124 == 0) != t122) = true := c19
        (try (have c19b1 : decide ((t124 == 0) = t122) = false := by simpa using c19))
        (try (have c19b2 : ((t124 == 0) == t122) = false := by simpa using c19))
        (try (have c19b3 : ¬ ((t124 == 0) = t122) := by simpa using c19))
        clear c19
        (first | rw [c19b0] | (simp only [i64_w, i32_w]; rw [c19b0]) | skip)
        have H' := Aside0.mk H
        clear H
        go_wp2_with (first | ((with_reducible refine gate_callee (f := 11) rfl ?_); refine goesL_ (some 32) rfl rfl Try.func11 (by kernel_rfl) rfl #[] rfl (by (try simp only [List.map_toArray, List.map_cons, List.map_nil]); first | done | rfl | (simp only [List.length_drop, List.length_take]; rfl)) ?_; (with_reducible refine (shuttlelaw21_rates.calls k  true _ A16.out).mono ?_); rintro e w20 ⟨rfl, hb⟩; refine ⟨_, rfl, ?_⟩; have n0_ := Aside0.mk (blk_below (g := gb115) (o := .cells #[.int .i64 a0, .int .i64 a1] 23 (0, 0)) (by (with_reducible repeat (first | refine blk_drewN ?_ _ | refine blk_drew ?_ | refine blk_alloc ?_ _)); refine blk_far ?_ NB115_121.out _; (with_reducible repeat (first | refine blk_drewN ?_ _ | refine blk_drew ?_ | refine blk_alloc ?_ _)); refine blk_far ?_ NB115_121.out _; (with_reducible repeat (first | refine blk_drewN ?_ _ | refine blk_drew ?_ | refine blk_alloc ?_ _)); exact BK115.out) hb); have n1_ := Aside0.mk (blk_below (g := gb121) (o := .cells #[.int .i64 t118, .int .i64 t119] 23 (0, 0)) (by (with_reducible repeat (first | refine blk_drewN ?_ _ | refine blk_drew ?_ | refine blk_alloc ?_ _)); refine blk_put (cs := #[.int .i64 t118, .int .i64 0]) ?_ 1 _ rfl; (with_reducible repeat (first | refine blk_drewN ?_ _ | refine blk_drew ?_ | refine blk_alloc ?_ _)); refine blk_put (cs := #[.int .i64 0, .int .i64 0]) ?_ 0 _ rfl; (with_reducible repeat (first | refine blk_drewN ?_ _ | refine blk_drew ?_ | refine blk_alloc ?_ _)); exact BK121.out) hb); have n2_ := Aside0.mk (below_step (by repeat (first | (with_reducible first | exact HB.out | apply below_alloc | apply pw_below_drewN | apply below_drew1 | refine below_set ?_ GE115.out | refine below_set ?_ GE121.out) | exact HB.out)) hb); clear BK115; clear BK121; clear HB; have BK115 := n0_; have BK121 := n1_; have HB := n2_; clear n0_ n1_ n2_; (try clear hb); (try clear hb2); (try clear hk); (try clear hi); have hnb21 := NB115_121.out; have hnc21 := NB121_115.out; have hcz22_0 : w20.cell? ⟨gb115, 0, none⟩ = some (.int .i64 a0) := (blk_cell BK115.out 0).trans rfl; have hcz22_1 : w20.cell? ⟨gb115, 1, none⟩ = some (.int .i64 a1) := (blk_cell BK115.out 1).trans rfl; have hfz22_0 := blk_frozen BK115.out 0; have hfz22_1 := blk_frozen BK115.out 1) | (go_at_call 12; (with_reducible refine (rate_Check.calls a0 a1 t124 _ A18.out).mono ?_); rintro e w23 ⟨rfl, hb⟩; have n0_ := Aside0.mk (blk_below (g := gb115) (o := .cells #[.int .i64 a0, .int .i64 a1] 23 (0, 0)) (by (with_reducible repeat (first | refine blk_drewN ?_ _ | refine blk_drew ?_ | refine blk_alloc ?_ _)); exact BK115.out) hb); have n1_ := Aside0.mk (blk_below (g := gb121) (o := .cells #[.int .i64 t118, .int .i64 t119] 23 (0, 0)) (by (with_reducible repeat (first | refine blk_drewN ?_ _ | refine blk_drew ?_ | refine blk_alloc ?_ _)); exact BK121.out) hb); have n2_ := Aside0.mk (below_step (by repeat (first | (with_reducible first | exact HB.out | apply below_alloc | apply pw_below_drewN | apply below_drew1 | refine below_set ?_ GE115.out | refine below_set ?_ GE121.out) | exact HB.out)) hb); clear BK115; clear BK121; clear HB; have BK115 := n0_; have BK121 := n1_; have HB := n2_; clear n0_ n1_ n2_; (try clear hb); (try clear hb2); (try clear hk); (try clear hi)))
        go_meet
        case rel => exact ⟨_, (true), (by first | rfl | (simp; done) | (simp [*]; done)), H', ⟨by first | omega | exact Nat.le_refl _⟩, ⟨by (with_reducible repeat (first | refine blk_drewN ?_ _ | refine blk_drew ?_ | refine blk_alloc ?_ _)); exact BK115.out⟩, ⟨by (with_reducible repeat (first | refine blk_drewN ?_ _ | refine blk_drew ?_ | refine blk_alloc ?_ _)); exact BK121.out⟩, ⟨by repeat (first | (with_reducible first | exact HB.out | apply below_alloc | apply pw_below_drewN | apply below_drew1 | refine below_set ?_ GE115.out | refine below_set ?_ GE121.out) | exact HB.out)⟩⟩
      · rw [if_neg c19] at H
        have c19b0 : ((t124 == 0) != t122) = false := by simpa using c19
        (try (have c19b1 : decide ((t124 == 0) = t122) = true := by simpa using c19))
        (try (have c19b2 : ((t124 == 0) == t122) = true := by simpa using c19))
        clear c19
        (first | rw [c19b0] | (simp only [i64_w, i32_w]; rw [c19b0]) | skip)
        by_cases c24 : ((t117 == 0) != t122) = true
        · rw [if_pos c24] at H
          have c24b0 : ((t117 == 0) != t122) = true := c24
          (try (have c24b1 : decide ((t117 == 0) = t122) = false := by simpa using c24))
          (try (have c24b2 : ((t117 == 0) == t122) = false := by simpa using c24))
          (try (have c24b3 : ¬ ((t117 == 0) = t122) := by simpa using c24))
          clear c24
          have H' := Aside0.mk H
          clear H
          go_wp2_with (first | ((with_reducible refine gate_callee (f := 11) rfl ?_); refine goesL_ (some 32) rfl rfl Try.func11 (by kernel_rfl) rfl #[] rfl (by (try simp only [List.map_toArray, List.map_cons, List.map_nil]); first | done | rfl | (simp only [List.length_drop, List.length_take]; rfl)) ?_; (with_reducible refine (shuttlelaw21_rates.calls k  true _ A16.out).mono ?_); rintro e w25 ⟨rfl, hb⟩; refine ⟨_, rfl, ?_⟩; have n0_ := Aside0.mk (blk_below (g := gb115) (o := .cells #[.int .i64 a0, .int .i64 a1] 23 (0, 0)) (by (with_reducible repeat (first | refine blk_drewN ?_ _ | refine blk_drew ?_ | refine blk_alloc ?_ _)); refine blk_far ?_ NB115_121.out _; (with_reducible repeat (first | refine blk_drewN ?_ _ | refine blk_drew ?_ | refine blk_alloc ?_ _)); refine blk_far ?_ NB115_121.out _; (with_reducible repeat (first | refine blk_drewN ?_ _ | refine blk_drew ?_ | refine blk_alloc ?_ _)); exact BK115.out) hb); have n1_ := Aside0.mk (blk_below (g := gb121) (o := .cells #[.int .i64 t118, .int .i64 t119] 23 (0, 0)) (by (with_reducible repeat (first | refine blk_drewN ?_ _ | refine blk_drew ?_ | refine blk_alloc ?_ _)); refine blk_put (cs := #[.int .i64 t118, .int .i64 0]) ?_ 1 _ rfl; (with_reducible repeat (first | refine blk_drewN ?_ _ | refine blk_drew ?_ | refine blk_alloc ?_ _)); refine blk_put (cs := #[.int .i64 0, .int .i64 0]) ?_ 0 _ rfl; (with_reducible repeat (first | refine blk_drewN ?_ _ | refine blk_drew ?_ | refine blk_alloc ?_ _)); exact BK121.out) hb); have n2_ := Aside0.mk (below_step (by repeat (first | (with_reducible first | exact HB.out | apply below_alloc | apply pw_below_drewN | apply below_drew1 | refine below_set ?_ GE115.out | refine below_set ?_ GE121.out) | exact HB.out)) hb); clear BK115; clear BK121; clear HB; have BK115 := n0_; have BK121 := n1_; have HB := n2_; clear n0_ n1_ n2_; (try clear hb); (try clear hb2); (try clear hk); (try clear hi); have hnb26 := NB115_121.out; have hnc26 := NB121_115.out; have hcz27_0 : w25.cell? ⟨gb115, 0, none⟩ = some (.int .i64 a0) := (blk_cell BK115.out 0).trans rfl; have hcz27_1 : w25.cell? ⟨gb115, 1, none⟩ = some (.int .i64 a1) := (blk_cell BK115.out 1).trans rfl; have hfz27_0 := blk_frozen BK115.out 0; have hfz27_1 := blk_frozen BK115.out 1) | (go_at_call 12; (with_reducible refine (rate_Check.calls a0 a1 t124 _ A18.out).mono ?_); rintro e w28 ⟨rfl, hb⟩; have n0_ := Aside0.mk (blk_below (g := gb115) (o := .cells #[.int .i64 a0, .int .i64 a1] 23 (0, 0)) (by (with_reducible repeat (first | refine blk_drewN ?_ _ | refine blk_drew ?_ | refine blk_alloc ?_ _)); exact BK115.out) hb); have n1_ := Aside0.mk (blk_below (g := gb121) (o := .cells #[.int .i64 t118, .int .i64 t119] 23 (0, 0)) (by (with_reducible repeat (first | refine blk_drewN ?_ _ | refine blk_drew ?_ | refine blk_alloc ?_ _)); exact BK121.out) hb); have n2_ := Aside0.mk (below_step (by repeat (first | (with_reducible first | exact HB.out | apply below_alloc | apply pw_below_drewN | apply below_drew1 | refine below_set ?_ GE115.out | refine below_set ?_ GE121.out) | exact HB.out)) hb); clear BK115; clear BK121; clear HB; have BK115 := n0_; have BK121 := n1_; have HB := n2_; clear n0_ n1_ n2_; (try clear hb); (try clear hb2); (try clear hk); (try clear hi)))
          go_meet
          case rel => exact ⟨_, (true), (by first | rfl | (simp; done) | (simp [*]; done)), H', ⟨by first | omega | exact Nat.le_refl _⟩, ⟨by (with_reducible repeat (first | refine blk_drewN ?_ _ | refine blk_drew ?_ | refine blk_alloc ?_ _)); exact BK115.out⟩, ⟨by (with_reducible repeat (first | refine blk_drewN ?_ _ | refine blk_drew ?_ | refine blk_alloc ?_ _)); exact BK121.out⟩, ⟨by repeat (first | (with_reducible first | exact HB.out | apply below_alloc | apply pw_below_drewN | apply below_drew1 | refine below_set ?_ GE115.out | refine below_set ?_ GE121.out) | exact HB.out)⟩⟩
        · rw [if_neg c24] at H
          have c24b0 : ((t117 == 0) != t122) = false := by simpa using c24
          (try (have c24b1 : decide ((t117 == 0) = t122) = true := by simpa using c24))
          (try (have c24b2 : ((t117 == 0) == t122) = true := by simpa using c24))
          clear c24
          by_cases c29 : t122 = true
          · subst c29
            have H1 : (shuttlelaw21_RateTells.j0 k a0 a1 a2 t116 t117 t120 true ((t120 == 0) != (decide (a2 ≥ 1))) a0 a1 t118 t119) = some r := by rw [if_pos rfl] at H; exact H
            clear H
            have H := H1
            clear H1
            have H' := Aside0.mk H
            clear H
            go_wp2_with (first | ((with_reducible refine gate_callee (f := 11) rfl ?_); refine goesL_ (some 32) rfl rfl Try.func11 (by kernel_rfl) rfl #[] rfl (by (try simp only [List.map_toArray, List.map_cons, List.map_nil]); first | done | rfl | (simp only [List.length_drop, List.length_take]; rfl)) ?_; (with_reducible refine (shuttlelaw21_rates.calls k  true _ A16.out).mono ?_); rintro e w30 ⟨rfl, hb⟩; refine ⟨_, rfl, ?_⟩; have n0_ := Aside0.mk (blk_below (g := gb115) (o := .cells #[.int .i64 a0, .int .i64 a1] 23 (0, 0)) (by (with_reducible repeat (first | refine blk_drewN ?_ _ | refine blk_drew ?_ | refine blk_alloc ?_ _)); refine blk_far ?_ NB115_121.out _; (with_reducible repeat (first | refine blk_drewN ?_ _ | refine blk_drew ?_ | refine blk_alloc ?_ _)); refine blk_far ?_ NB115_121.out _; (with_reducible repeat (first | refine blk_drewN ?_ _ | refine blk_drew ?_ | refine blk_alloc ?_ _)); exact BK115.out) hb); have n1_ := Aside0.mk (blk_below (g := gb121) (o := .cells #[.int .i64 t118, .int .i64 t119] 23 (0, 0)) (by (with_reducible repeat (first | refine blk_drewN ?_ _ | refine blk_drew ?_ | refine blk_alloc ?_ _)); refine blk_put (cs := #[.int .i64 t118, .int .i64 0]) ?_ 1 _ rfl; (with_reducible repeat (first | refine blk_drewN ?_ _ | refine blk_drew ?_ | refine blk_alloc ?_ _)); refine blk_put (cs := #[.int .i64 0, .int .i64 0]) ?_ 0 _ rfl; (with_reducible repeat (first | refine blk_drewN ?_ _ | refine blk_drew ?_ | refine blk_alloc ?_ _)); exact BK121.out) hb); have n2_ := Aside0.mk (below_step (by repeat (first | (with_reducible first | exact HB.out | apply below_alloc | apply pw_below_drewN | apply below_drew1 | refine below_set ?_ GE115.out | refine below_set ?_ GE121.out) | exact HB.out)) hb); clear BK115; clear BK121; clear HB; have BK115 := n0_; have BK121 := n1_; have HB := n2_; clear n0_ n1_ n2_; (try clear hb); (try clear hb2); (try clear hk); (try clear hi); have hnb31 := NB115_121.out; have hnc31 := NB121_115.out; have hcz32_0 : w30.cell? ⟨gb115, 0, none⟩ = some (.int .i64 a0) := (blk_cell BK115.out 0).trans rfl; have hcz32_1 : w30.cell? ⟨gb115, 1, none⟩ = some (.int .i64 a1) := (blk_cell BK115.out 1).trans rfl; have hfz32_0 := blk_frozen BK115.out 0; have hfz32_1 := blk_frozen BK115.out 1) | (go_at_call 12; (with_reducible refine (rate_Check.calls a0 a1 t124 _ A18.out).mono ?_); rintro e w33 ⟨rfl, hb⟩; have n0_ := Aside0.mk (blk_below (g := gb115) (o := .cells #[.int .i64 a0, .int .i64 a1] 23 (0, 0)) (by (with_reducible repeat (first | refine blk_drewN ?_ _ | refine blk_drew ?_ | refine blk_alloc ?_ _)); exact BK115.out) hb); have n1_ := Aside0.mk (blk_below (g := gb121) (o := .cells #[.int .i64 t118, .int .i64 t119] 23 (0, 0)) (by (with_reducible repeat (first | refine blk_drewN ?_ _ | refine blk_drew ?_ | refine blk_alloc ?_ _)); exact BK121.out) hb); have n2_ := Aside0.mk (below_step (by repeat (first | (with_reducible first | exact HB.out | apply below_alloc | apply pw_below_drewN | apply below_drew1 | refine below_set ?_ GE115.out | refine below_set ?_ GE121.out) | exact HB.out)) hb); clear BK115; clear BK121; clear HB; have BK115 := n0_; have BK121 := n1_; have HB := n2_; clear n0_ n1_ n2_; (try clear hb); (try clear hb2); (try clear hk); (try clear hi)))
            go_meet
            case rel => exact ⟨_, (((t120 == 0) != (decide (a2 ≥ 1)))), (by first | rfl | (simp; done) | (simp [*]; done)), H', ⟨by first | omega | exact Nat.le_refl _⟩, ⟨by (with_reducible repeat (first | refine blk_drewN ?_ _ | refine blk_drew ?_ | refine blk_alloc ?_ _)); exact BK115.out⟩, ⟨by (with_reducible repeat (first | refine blk_drewN ?_ _ | refine blk_drew ?_ | refine blk_alloc ?_ _)); exact BK121.out⟩, ⟨by repeat (first | (with_reducible first | exact HB.out | apply below_alloc | apply pw_below_drewN | apply below_drew1 | refine below_set ?_ GE115.out | refine below_set ?_ GE121.out) | exact HB.out)⟩⟩
          · replace c29 := Bool.eq_false_iff.mpr c29
            subst c29
            have H1 : (shuttlelaw21_RateTells.j0 k a0 a1 a2 t116 t117 t120 false ((t120 == 0) != false) a0 a1 t118 t119) = some r := by rw [if_neg (show ¬ (false = true) by decide)] at H; exact H
            clear H
            have H := H1
            clear H1
            have H' := Aside0.mk H
            clear H
            go_wp2_with (first | ((with_reducible refine gate_callee (f := 11) rfl ?_); refine goesL_ (some 32) rfl rfl Try.func11 (by kernel_rfl) rfl #[] rfl (by (try simp only [List.map_toArray, List.map_cons, List.map_nil]); first | done | rfl | (simp only [List.length_drop, List.length_take]; rfl)) ?_; (with_reducible refine (shuttlelaw21_rates.calls k  true _ A16.out).mono ?_); rintro e w34 ⟨rfl, hb⟩; refine ⟨_, rfl, ?_⟩; have n0_ := Aside0.mk (blk_below (g := gb115) (o := .cells #[.int .i64 a0, .int .i64 a1] 23 (0, 0)) (by (with_reducible repeat (first | refine blk_drewN ?_ _ | refine blk_drew ?_ | refine blk_alloc ?_ _)); refine blk_far ?_ NB115_121.out _; (with_reducible repeat (first | refine blk_drewN ?_ _ | refine blk_drew ?_ | refine blk_alloc ?_ _)); refine blk_far ?_ NB115_121.out _; (with_reducible repeat (first | refine blk_drewN ?_ _ | refine blk_drew ?_ | refine blk_alloc ?_ _)); exact BK115.out) hb); have n1_ := Aside0.mk (blk_below (g := gb121) (o := .cells #[.int .i64 t118, .int .i64 t119] 23 (0, 0)) (by (with_reducible repeat (first | refine blk_drewN ?_ _ | refine blk_drew ?_ | refine blk_alloc ?_ _)); refine blk_put (cs := #[.int .i64 t118, .int .i64 0]) ?_ 1 _ rfl; (with_reducible repeat (first | refine blk_drewN ?_ _ | refine blk_drew ?_ | refine blk_alloc ?_ _)); refine blk_put (cs := #[.int .i64 0, .int .i64 0]) ?_ 0 _ rfl; (with_reducible repeat (first | refine blk_drewN ?_ _ | refine blk_drew ?_ | refine blk_alloc ?_ _)); exact BK121.out) hb); have n2_ := Aside0.mk (below_step (by repeat (first | (with_reducible first | exact HB.out | apply below_alloc | apply pw_below_drewN | apply below_drew1 | refine below_set ?_ GE115.out | refine below_set ?_ GE121.out) | exact HB.out)) hb); clear BK115; clear BK121; clear HB; have BK115 := n0_; have BK121 := n1_; have HB := n2_; clear n0_ n1_ n2_; (try clear hb); (try clear hb2); (try clear hk); (try clear hi); have hnb35 := NB115_121.out; have hnc35 := NB121_115.out; have hcz36_0 : w34.cell? ⟨gb115, 0, none⟩ = some (.int .i64 a0) := (blk_cell BK115.out 0).trans rfl; have hcz36_1 : w34.cell? ⟨gb115, 1, none⟩ = some (.int .i64 a1) := (blk_cell BK115.out 1).trans rfl; have hfz36_0 := blk_frozen BK115.out 0; have hfz36_1 := blk_frozen BK115.out 1) | (go_at_call 12; (with_reducible refine (rate_Check.calls a0 a1 t124 _ A18.out).mono ?_); rintro e w37 ⟨rfl, hb⟩; have n0_ := Aside0.mk (blk_below (g := gb115) (o := .cells #[.int .i64 a0, .int .i64 a1] 23 (0, 0)) (by (with_reducible repeat (first | refine blk_drewN ?_ _ | refine blk_drew ?_ | refine blk_alloc ?_ _)); exact BK115.out) hb); have n1_ := Aside0.mk (blk_below (g := gb121) (o := .cells #[.int .i64 t118, .int .i64 t119] 23 (0, 0)) (by (with_reducible repeat (first | refine blk_drewN ?_ _ | refine blk_drew ?_ | refine blk_alloc ?_ _)); exact BK121.out) hb); have n2_ := Aside0.mk (below_step (by repeat (first | (with_reducible first | exact HB.out | apply below_alloc | apply pw_below_drewN | apply below_drew1 | refine below_set ?_ GE115.out | refine below_set ?_ GE121.out) | exact HB.out)) hb); clear BK115; clear BK121; clear HB; have BK115 := n0_; have BK121 := n1_; have HB := n2_; clear n0_ n1_ n2_; (try clear hb); (try clear hb2); (try clear hk); (try clear hi)))
            go_meet
            case rel => exact ⟨_, (((t120 == 0) != false)), (by first | rfl | (simp; done) | (simp [*]; done)), H', ⟨by first | omega | exact Nat.le_refl _⟩, ⟨by (with_reducible repeat (first | refine blk_drewN ?_ _ | refine blk_drew ?_ | refine blk_alloc ?_ _)); exact BK115.out⟩, ⟨by (with_reducible repeat (first | refine blk_drewN ?_ _ | refine blk_drew ?_ | refine blk_alloc ?_ _)); exact BK121.out⟩, ⟨by repeat (first | (with_reducible first | exact HB.out | apply below_alloc | apply pw_below_drewN | apply below_drew1 | refine below_set ?_ GE115.out | refine below_set ?_ GE121.out) | exact HB.out)⟩⟩
    · replace c17 := Bool.eq_false_iff.mpr c17
      subst c17
      have H1 : (shuttlelaw21_RateTells.j0 k a0 a1 a2 t116 t117 t120 t122 true a0 a1 t118 t119) = some r := by rw [if_neg (show ¬ (false = true) by decide)] at H; exact H
      clear H
      have H := H1
      clear H1
      have H' := Aside0.mk H
      clear H
      go_wp2_with (first | ((with_reducible refine gate_callee (f := 11) rfl ?_); refine goesL_ (some 32) rfl rfl Try.func11 (by kernel_rfl) rfl #[] rfl (by (try simp only [List.map_toArray, List.map_cons, List.map_nil]); first | done | rfl | (simp only [List.length_drop, List.length_take]; rfl)) ?_; (with_reducible refine (shuttlelaw21_rates.calls k  false _ A16.out).mono ?_); rintro e w38 ⟨rfl, hb⟩; refine ⟨_, rfl, ?_⟩; have n0_ := Aside0.mk (blk_below (g := gb115) (o := .cells #[.int .i64 a0, .int .i64 a1] 23 (0, 0)) (by (with_reducible repeat (first | refine blk_drewN ?_ _ | refine blk_drew ?_ | refine blk_alloc ?_ _)); refine blk_far ?_ NB115_121.out _; (with_reducible repeat (first | refine blk_drewN ?_ _ | refine blk_drew ?_ | refine blk_alloc ?_ _)); refine blk_far ?_ NB115_121.out _; (with_reducible repeat (first | refine blk_drewN ?_ _ | refine blk_drew ?_ | refine blk_alloc ?_ _)); exact BK115.out) hb); have n1_ := Aside0.mk (blk_below (g := gb121) (o := .cells #[.int .i64 t118, .int .i64 t119] 23 (0, 0)) (by (with_reducible repeat (first | refine blk_drewN ?_ _ | refine blk_drew ?_ | refine blk_alloc ?_ _)); refine blk_put (cs := #[.int .i64 t118, .int .i64 0]) ?_ 1 _ rfl; (with_reducible repeat (first | refine blk_drewN ?_ _ | refine blk_drew ?_ | refine blk_alloc ?_ _)); refine blk_put (cs := #[.int .i64 0, .int .i64 0]) ?_ 0 _ rfl; (with_reducible repeat (first | refine blk_drewN ?_ _ | refine blk_drew ?_ | refine blk_alloc ?_ _)); exact BK121.out) hb); have n2_ := Aside0.mk (below_step (by repeat (first | (with_reducible first | exact HB.out | apply below_alloc | apply pw_below_drewN | apply below_drew1 | refine below_set ?_ GE115.out | refine below_set ?_ GE121.out) | exact HB.out)) hb); clear BK115; clear BK121; clear HB; have BK115 := n0_; have BK121 := n1_; have HB := n2_; clear n0_ n1_ n2_; (try clear hb); (try clear hb2); (try clear hk); (try clear hi)))
      go_meet
      case rel => exact ⟨_, (true), (by first | rfl | (simp; done) | (simp [*]; done)), H', ⟨by first | omega | exact Nat.le_refl _⟩, ⟨by (with_reducible repeat (first | refine blk_drewN ?_ _ | refine blk_drew ?_ | refine blk_alloc ?_ _)); exact BK115.out⟩, ⟨by (with_reducible repeat (first | refine blk_drewN ?_ _ | refine blk_drew ?_ | refine blk_alloc ?_ _)); exact BK121.out⟩, ⟨by repeat (first | (with_reducible first | exact HB.out | apply below_alloc | apply pw_below_drewN | apply below_drew1 | refine below_set ?_ GE115.out | refine below_set ?_ GE121.out) | exact HB.out)⟩⟩
  case rest =>
    clear HC7
    try clear c1
    try clear c2
    try clear p2
    try clear c3
    try clear c8
    try clear c9
    try clear c10
    try clear c11
    try clear c14
    try clear c17
    try clear c19
    try clear c19b0
    try clear c19b1
    try clear c19b2
    try clear c21
    try clear c24
    try clear c24b0
    try clear c24b1
    try clear c24b2
    try clear c26
    try clear c29
    try clear c31
    try clear c35
    try clear hcz11_0
    try clear hcz11_1
    try clear hcz15_0
    try clear hcz15_1
    try clear hcz22_0
    try clear hcz22_1
    try clear hcz27_0
    try clear hcz27_1
    try clear hcz32_0
    try clear hcz32_1
    try clear hcz36_0
    try clear hcz36_1
    try clear hcz9_0
    try clear hcz9_1
    try clear hfz11_0
    try clear hfz11_1
    try clear hfz15_0
    try clear hfz15_1
    try clear hfz22_0
    try clear hfz22_1
    try clear hfz27_0
    try clear hfz27_1
    try clear hfz32_0
    try clear hfz32_1
    try clear hfz36_0
    try clear hfz36_1
    try clear hfz9_0
    try clear hfz9_1
    obtain ⟨kq, x56_6, rfl, HA, HJ6, BK115, BK121, HB⟩ := hcut
    cases kq with
    | zero => exact absurd HA.out (by simp [shuttlelaw21_RateTells.j0])
    | succ kj6 =>
      have H := HA.out
      clear HA
      simp only [shuttlelaw21_RateTells.j0] at H
      by_cases c39 : x56_6 = true
      · subst c39
        have H1 : (some false) = some r := by rw [if_pos rfl] at H; exact H
        clear H
        have H := H1
        clear H1
        obtain rfl := Option.some.inj H
        go_wp2
        go_ret
        exact ⟨by first | rfl | (simp [errW_none, errW_some] <;> rfl) | (simp [*, errW_none, errW_some] <;> rfl), by repeat (first | (with_reducible first | exact HB.out | apply below_alloc | apply pw_below_drewN | apply below_drew1 | refine below_set ?_ GE115.out | refine below_set ?_ GE121.out) | exact HB.out)⟩
      · replace c39 := Bool.eq_false_iff.mpr c39
        subst c39
        have H1 : (if t122 = true then (if 0 ≤ a0 then (if t116 = (shl .i64 1 a0) then (if a2 < 1 then (if t120 = 1 then (some (t118 == 0 && (t119 == 0))) else (some false)) else ((shuttleref21_Done.f kj6 a0 a1 a2).bind fun bt126 => (if (t118 == bt126.1 && (t119 == bt126.2)) = true then ((rate_Check.f t118 t119).bind fun t128 => (some (t128 == 0))) else (some false)))) else (some false)) else (none)) else (if t117 = 1 then (if t116 = 0 then (if (t118 == 0 && (t119 == 0)) = true then ((rate_Check.f a0 a1).bind fun t125 => (some (t125 == 1))) else (some false)) else (some false)) else (some false))) = some r := by rw [if_neg (show ¬ (false = true) by decide)] at H; exact H
        clear H
        have H := H1
        clear H1
        by_cases c40 : t122 = true
        · subst c40
          have H1 : (if 0 ≤ a0 then (if t116 = (shl .i64 1 a0) then (if a2 < 1 then (if t120 = 1 then (some (t118 == 0 && (t119 == 0))) else (some false)) else ((shuttleref21_Done.f kj6 a0 a1 a2).bind fun bt126 => (if (t118 == bt126.1 && (t119 == bt126.2)) = true then ((rate_Check.f t118 t119).bind fun t128 => (some (t128 == 0))) else (some false)))) else (some false)) else (none)) = some r := by rw [if_pos rfl] at H; exact H
          clear H
          have H := H1
          clear H1
          by_cases c41 : 0 ≤ a0
          · rw [if_pos c41] at H
            have c41b0 := eq_true c41
            have c41b1 : decide (0 ≤ a0) = true := decide_eq_true c41
            clear c41
            obtain ⟨ji42, hji42⟩ : ∃ j_ : Int, (shl .i64 1 a0) = j_ := ⟨_, rfl⟩
            replace H : (if t116 = (ji42) then (if a2 < 1 then (if t120 = 1 then (some (t118 == 0 && (t119 == 0))) else (some false)) else ((shuttleref21_Done.f kj6 a0 a1 a2).bind fun bt126 => (if (t118 == bt126.1 && (t119 == bt126.2)) = true then ((rate_Check.f t118 t119).bind fun t128 => (some (t128 == 0))) else (some false)))) else (some false)) = some r := by first | (rw [hji42] at H; exact H) | (simp only [hji42] at H ⊢; exact H)
            have hji42_ : (IntKind.i64.wrap (1 * 2 ^ min a0.toNat 64)) = ji42 := hji42
            have hji42z : a0 ≤ 64 → (IntKind.i64.wrap (1 * 2 ^ a0.toNat)) = ji42 := shl_small hji42
            have hji42u : (IntKind.i64.wrap (2 ^ min a0.toNat 64)) = ji42 := by have h_ := hji42_; rw [Int.one_mul] at h_; exact h_
            have hji42v : a0 ≤ 64 → (IntKind.i64.wrap (2 ^ a0.toNat)) = ji42 := fun hle_ => by have h_ := hji42z hle_; rw [Int.one_mul] at h_; exact h_
            have hji42y : (wrap64 (1 * 2 ^ min a0.toNat 64)) = ji42 := (i64_w _).symm.trans hji42_
            have hji42x : a0 ≤ 64 → (wrap64 (1 * 2 ^ a0.toNat)) = ji42 := fun h_ => (i64_w _).symm.trans (hji42z h_)
            by_cases c43 : t116 = (ji42)
            · rw [if_pos c43] at H
              have c43b0 : (t116 == (ji42)) = true := beq_iff_eq.mpr c43
              have c43b1 : (t116 != (ji42)) = false := bne_eq_false_iff_eq.mpr c43
              clear c43
              by_cases c44 : a2 < 1
              · rw [if_pos c44] at H
                have c44b0 : decide (a2 < 1) = true := decide_eq_true c44
                clear c44
                by_cases c45 : t120 = 1
                · rw [if_pos c45] at H
                  have c45b0 : (t120 == 1) = true := beq_iff_eq.mpr c45
                  have c45b1 : (t120 != 1) = false := bne_eq_false_iff_eq.mpr c45
                  clear c45
                  obtain rfl := Option.some.inj H
                  have hnb46 := NB121_115.out
                  have hnc46 := NB115_121.out
                  have hcz47_0 : wc.cell? ⟨gb121, 0, none⟩ = some (.int .i64 t118) := (blk_cell BK121.out 0).trans rfl
                  have hcz47_1 : wc.cell? ⟨gb121, 1, none⟩ = some (.int .i64 t119) := (blk_cell BK121.out 1).trans rfl
                  have hfz47_0 := blk_frozen BK121.out 0
                  have hfz47_1 := blk_frozen BK121.out 1
                  go_wp2
                  go_ret
                  exact ⟨by first | rfl | (simp [errW_none, errW_some] <;> rfl) | (simp only [← hji42]; first | rfl | (simp [errW_none, errW_some] <;> rfl)) | (simp [*, errW_none, errW_some] <;> rfl), by repeat (first | (with_reducible first | exact HB.out | apply below_alloc | apply pw_below_drewN | apply below_drew1 | refine below_set ?_ GE115.out | refine below_set ?_ GE121.out) | exact HB.out)⟩
                · rw [if_neg c45] at H
                  have c45b0 : (t120 == 1) = false := beq_eq_false_iff_ne.mpr c45
                  have c45b1 : (t120 != 1) = true := bne_iff_ne.mpr c45
                  obtain rfl := Option.some.inj H
                  go_wp2
                  go_ret
                  exact ⟨by first | rfl | (simp [errW_none, errW_some] <;> rfl) | (simp only [← hji42]; first | rfl | (simp [errW_none, errW_some] <;> rfl)) | (simp [*, errW_none, errW_some] <;> rfl), by repeat (first | (with_reducible first | exact HB.out | apply below_alloc | apply pw_below_drewN | apply below_drew1 | refine below_set ?_ GE115.out | refine below_set ?_ GE121.out) | exact HB.out)⟩
              · rw [if_neg c44] at H
                have c44b0 : decide (a2 < 1) = false := decide_eq_false c44
                clear c44
                replace H := Option.bind_eq_some_iff.mp H
                obtain ⟨⟨t126, t127⟩, A480, H⟩ := H
                replace H : (if (t118 == t126 && (t119 == t127)) = true then ((rate_Check.f t118 t119).bind fun t128 => (some (t128 == 0))) else (some false)) = some r := H
                have A48 := Aside0.mk A480
                clear A480
                by_cases c49 : (t118 == t126 && (t119 == t127)) = true
                · rw [if_pos c49] at H
                  have c49b0 : (t118 == t126 && (t119 == t127)) = true := c49
                  (try (have c49b1 : decide (t118 = t126 && (t119 == t127)) = true := by simpa using c49))
                  (try (have c49b2 : (t118 == t126 && (t119 == t127)) = true := by simpa using c49))
                  clear c49
                  replace H := Option.bind_eq_some_iff.mp H
                  obtain ⟨t128, A500, H⟩ := H
                  replace H : (some (t128 == 0)) = some r := H
                  have A50 := Aside0.mk A500
                  clear A500
                  obtain rfl := Option.some.inj H
                  go_wp2_with (first | ((with_reducible refine gate_callee (f := 13) rfl ?_); refine goesL_ (some 92) rfl rfl Try.func13 (by kernel_rfl) rfl #[.int .i64 a0, .int .i64 a1, .int .i64 a2] rfl (by (try simp only [List.map_toArray, List.map_cons, List.map_nil]); first | done | rfl | (simp only [List.length_drop, List.length_take]; rfl)) ?_; (with_reducible refine (shuttleref21_Done.calls kj6 a0 a1 a2 t126 t127 _ A48.out).mono ?_); rintro e w51 ⟨rfl, hb⟩; refine ⟨_, rfl, ?_⟩; have n0_ := Aside0.mk (blk_below (g := gb115) (o := .cells #[.int .i64 a0, .int .i64 a1] 23 (0, 0)) (by (with_reducible repeat (first | refine blk_drewN ?_ _ | refine blk_drew ?_ | refine blk_alloc ?_ _)); exact BK115.out) hb); have n1_ := Aside0.mk (blk_below (g := gb121) (o := .cells #[.int .i64 t118, .int .i64 t119] 23 (0, 0)) (by (with_reducible repeat (first | refine blk_drewN ?_ _ | refine blk_drew ?_ | refine blk_alloc ?_ _)); exact BK121.out) hb); have n2_ := Aside0.mk (below_step (by repeat (first | (with_reducible first | exact HB.out | apply below_alloc | apply pw_below_drewN | apply below_drew1 | refine below_set ?_ GE115.out | refine below_set ?_ GE121.out) | exact HB.out)) hb); clear BK115; clear BK121; clear HB; have BK115 := n0_; have BK121 := n1_; have HB := n2_; clear n0_ n1_ n2_; (try clear hb); (try clear hb2); (try clear hk); (try clear hi); have hnb52 := NB121_115.out; have hnc52 := NB115_121.out; have hcz53_0 : w51.cell? ⟨gb121, 0, none⟩ = some (.int .i64 t118) := (blk_cell BK121.out 0).trans rfl; have hcz53_1 : w51.cell? ⟨gb121, 1, none⟩ = some (.int .i64 t119) := (blk_cell BK121.out 1).trans rfl; have hfz53_0 := blk_frozen BK121.out 0; have hfz53_1 := blk_frozen BK121.out 1) | (go_at_call 12; (with_reducible refine (rate_Check.calls t118 t119 t128 _ A50.out).mono ?_); rintro e w54 ⟨rfl, hb⟩; have n0_ := Aside0.mk (blk_below (g := gb115) (o := .cells #[.int .i64 a0, .int .i64 a1] 23 (0, 0)) (by (with_reducible repeat (first | refine blk_drewN ?_ _ | refine blk_drew ?_ | refine blk_alloc ?_ _)); exact BK115.out) hb); have n1_ := Aside0.mk (blk_below (g := gb121) (o := .cells #[.int .i64 t118, .int .i64 t119] 23 (0, 0)) (by (with_reducible repeat (first | refine blk_drewN ?_ _ | refine blk_drew ?_ | refine blk_alloc ?_ _)); exact BK121.out) hb); have n2_ := Aside0.mk (below_step (by repeat (first | (with_reducible first | exact HB.out | apply below_alloc | apply pw_below_drewN | apply below_drew1 | refine below_set ?_ GE115.out | refine below_set ?_ GE121.out) | exact HB.out)) hb); clear BK115; clear BK121; clear HB; have BK115 := n0_; have BK121 := n1_; have HB := n2_; clear n0_ n1_ n2_; (try clear hb); (try clear hb2); (try clear hk); (try clear hi)))
                  go_ret
                  exact ⟨by first | rfl | (simp [errW_none, errW_some] <;> rfl) | (simp only [← hji42]; first | rfl | (simp [errW_none, errW_some] <;> rfl)) | (simp [*, errW_none, errW_some] <;> rfl), by repeat (first | (with_reducible first | exact HB.out | apply below_alloc | apply pw_below_drewN | apply below_drew1 | refine below_set ?_ GE115.out | refine below_set ?_ GE121.out) | exact HB.out)⟩
                · rw [if_neg c49] at H
                  have c49b0 : (t118 == t126 && (t119 == t127)) = false := by simpa using c49
                  (try (have c49b1 : decide (t118 = t126 && (t119 == t127)) = false := by simpa using c49))
                  (try (have c49b2 : (t118 == t126 && (t119 == t127)) = false := by simpa using c49))
                  (try (have c49b3 : ¬ (t118 = t126 && (t119 == t127)) := by simpa using c49))
                  clear c49
                  obtain rfl := Option.some.inj H
                  go_wp2_with (first | ((with_reducible refine gate_callee (f := 13) rfl ?_); refine goesL_ (some 92) rfl rfl Try.func13 (by kernel_rfl) rfl #[.int .i64 a0, .int .i64 a1, .int .i64 a2] rfl (by (try simp only [List.map_toArray, List.map_cons, List.map_nil]); first | done | rfl | (simp only [List.length_drop, List.length_take]; rfl)) ?_; (with_reducible refine (shuttleref21_Done.calls kj6 a0 a1 a2 t126 t127 _ A48.out).mono ?_); rintro e w55 ⟨rfl, hb⟩; refine ⟨_, rfl, ?_⟩; have n0_ := Aside0.mk (blk_below (g := gb115) (o := .cells #[.int .i64 a0, .int .i64 a1] 23 (0, 0)) (by (with_reducible repeat (first | refine blk_drewN ?_ _ | refine blk_drew ?_ | refine blk_alloc ?_ _)); exact BK115.out) hb); have n1_ := Aside0.mk (blk_below (g := gb121) (o := .cells #[.int .i64 t118, .int .i64 t119] 23 (0, 0)) (by (with_reducible repeat (first | refine blk_drewN ?_ _ | refine blk_drew ?_ | refine blk_alloc ?_ _)); exact BK121.out) hb); have n2_ := Aside0.mk (below_step (by repeat (first | (with_reducible first | exact HB.out | apply below_alloc | apply pw_below_drewN | apply below_drew1 | refine below_set ?_ GE115.out | refine below_set ?_ GE121.out) | exact HB.out)) hb); clear BK115; clear BK121; clear HB; have BK115 := n0_; have BK121 := n1_; have HB := n2_; clear n0_ n1_ n2_; (try clear hb); (try clear hb2); (try clear hk); (try clear hi); have hnb56 := NB121_115.out; have hnc56 := NB115_121.out; have hcz57_0 : w55.cell? ⟨gb121, 0, none⟩ = some (.int .i64 t118) := (blk_cell BK121.out 0).trans rfl; have hcz57_1 : w55.cell? ⟨gb121, 1, none⟩ = some (.int .i64 t119) := (blk_cell BK121.out 1).trans rfl; have hfz57_0 := blk_frozen BK121.out 0; have hfz57_1 := blk_frozen BK121.out 1))
                  go_ret
                  exact ⟨by first | rfl | (simp [errW_none, errW_some] <;> rfl) | (simp only [← hji42]; first | rfl | (simp [errW_none, errW_some] <;> rfl)) | (simp [*, errW_none, errW_some] <;> rfl), by repeat (first | (with_reducible first | exact HB.out | apply below_alloc | apply pw_below_drewN | apply below_drew1 | refine below_set ?_ GE115.out | refine below_set ?_ GE121.out) | exact HB.out)⟩
            · rw [if_neg c43] at H
              have c43b0 : (t116 == (ji42)) = false := beq_eq_false_iff_ne.mpr c43
              have c43b1 : (t116 != (ji42)) = true := bne_iff_ne.mpr c43
              obtain rfl := Option.some.inj H
              go_wp2
              go_ret
              exact ⟨by first | rfl | (simp [errW_none, errW_some] <;> rfl) | (simp only [← hji42]; first | rfl | (simp [errW_none, errW_some] <;> rfl)) | (simp [*, errW_none, errW_some] <;> rfl), by repeat (first | (with_reducible first | exact HB.out | apply below_alloc | apply pw_below_drewN | apply below_drew1 | refine below_set ?_ GE115.out | refine below_set ?_ GE121.out) | exact HB.out)⟩
          · rw [if_neg c41] at H
            exact absurd H (by simp)
        · replace c40 := Bool.eq_false_iff.mpr c40
          subst c40
          have H1 : (if t117 = 1 then (if t116 = 0 then (if (t118 == 0 && (t119 == 0)) = true then ((rate_Check.f a0 a1).bind fun t125 => (some (t125 == 1))) else (some false)) else (some false)) else (some false)) = some r := by rw [if_neg (show ¬ (false = true) by decide)] at H; exact H
          clear H
          have H := H1
          clear H1
          by_cases c58 : t117 = 1
          · rw [if_pos c58] at H
            have c58b0 : (t117 == 1) = true := beq_iff_eq.mpr c58
            have c58b1 : (t117 != 1) = false := bne_eq_false_iff_eq.mpr c58
            clear c58
            by_cases c59 : t116 = 0
            · rw [if_pos c59] at H
              have c59b0 : (t116 == 0) = true := beq_iff_eq.mpr c59
              have c59b1 : (t116 != 0) = false := bne_eq_false_iff_eq.mpr c59
              clear c59
              by_cases c60 : (t118 == 0 && (t119 == 0)) = true
              · rw [if_pos c60] at H
                have c60b0 : (t118 == 0 && (t119 == 0)) = true := c60
                (try (have c60b1 : decide (t118 = 0 && (t119 == 0)) = true := by simpa using c60))
                (try (have c60b2 : (t118 == 0 && (t119 == 0)) = true := by simpa using c60))
                clear c60
                replace H := Option.bind_eq_some_iff.mp H
                obtain ⟨t125, A610, H⟩ := H
                replace H : (some (t125 == 1)) = some r := H
                have A61 := Aside0.mk A610
                clear A610
                obtain rfl := Option.some.inj H
                have hnb62 := NB121_115.out
                have hnc62 := NB115_121.out
                have hcz63_0 : wc.cell? ⟨gb121, 0, none⟩ = some (.int .i64 t118) := (blk_cell BK121.out 0).trans rfl
                have hcz63_1 : wc.cell? ⟨gb121, 1, none⟩ = some (.int .i64 t119) := (blk_cell BK121.out 1).trans rfl
                have hfz63_0 := blk_frozen BK121.out 0
                have hfz63_1 := blk_frozen BK121.out 1
                have hcz64_0 : wc.cell? ⟨gb115, 0, none⟩ = some (.int .i64 a0) := (blk_cell BK115.out 0).trans rfl
                have hcz64_1 : wc.cell? ⟨gb115, 1, none⟩ = some (.int .i64 a1) := (blk_cell BK115.out 1).trans rfl
                have hfz64_0 := blk_frozen BK115.out 0
                have hfz64_1 := blk_frozen BK115.out 1
                go_wp2_with (first | (go_at_call 12; (with_reducible refine (rate_Check.calls a0 a1 t125 _ A61.out).mono ?_); rintro e w65 ⟨rfl, hb⟩; have n0_ := Aside0.mk (blk_below (g := gb115) (o := .cells #[.int .i64 a0, .int .i64 a1] 23 (0, 0)) (by (with_reducible repeat (first | refine blk_drewN ?_ _ | refine blk_drew ?_ | refine blk_alloc ?_ _)); exact BK115.out) hb); have n1_ := Aside0.mk (blk_below (g := gb121) (o := .cells #[.int .i64 t118, .int .i64 t119] 23 (0, 0)) (by (with_reducible repeat (first | refine blk_drewN ?_ _ | refine blk_drew ?_ | refine blk_alloc ?_ _)); exact BK121.out) hb); have n2_ := Aside0.mk (below_step (by repeat (first | (with_reducible first | exact HB.out | apply below_alloc | apply pw_below_drewN | apply below_drew1 | refine below_set ?_ GE115.out | refine below_set ?_ GE121.out) | exact HB.out)) hb); clear BK115; clear BK121; clear HB; have BK115 := n0_; have BK121 := n1_; have HB := n2_; clear n0_ n1_ n2_; (try clear hb); (try clear hb2); (try clear hk); (try clear hi)))
                go_ret
                exact ⟨by first | rfl | (simp [errW_none, errW_some] <;> rfl) | (simp [*, errW_none, errW_some] <;> rfl), by repeat (first | (with_reducible first | exact HB.out | apply below_alloc | apply pw_below_drewN | apply below_drew1 | refine below_set ?_ GE115.out | refine below_set ?_ GE121.out) | exact HB.out)⟩
              · rw [if_neg c60] at H
                have c60b0 : (t118 == 0 && (t119 == 0)) = false := by simpa using c60
                (try (have c60b1 : decide (t118 = 0 && (t119 == 0)) = false := by simpa using c60))
                (try (have c60b2 : (t118 == 0 && (t119 == 0)) = false := by simpa using c60))
                (try (have c60b3 : ¬ (t118 = 0 && (t119 == 0)) := by simpa using c60))
                clear c60
                obtain rfl := Option.some.inj H
                have hnb66 := NB121_115.out
                have hnc66 := NB115_121.out
                have hcz67_0 : wc.cell? ⟨gb121, 0, none⟩ = some (.int .i64 t118) := (blk_cell BK121.out 0).trans rfl
                have hcz67_1 : wc.cell? ⟨gb121, 1, none⟩ = some (.int .i64 t119) := (blk_cell BK121.out 1).trans rfl
                have hfz67_0 := blk_frozen BK121.out 0
                have hfz67_1 := blk_frozen BK121.out 1
                go_wp2
                go_ret
                exact ⟨by first | rfl | (simp [errW_none, errW_some] <;> rfl) | (simp [*, errW_none, errW_some] <;> rfl), by repeat (first | (with_reducible first | exact HB.out | apply below_alloc | apply pw_below_drewN | apply below_drew1 | refine below_set ?_ GE115.out | refine below_set ?_ GE121.out) | exact HB.out)⟩
            · rw [if_neg c59] at H
              have c59b0 : (t116 == 0) = false := beq_eq_false_iff_ne.mpr c59
              have c59b1 : (t116 != 0) = true := bne_iff_ne.mpr c59
              obtain rfl := Option.some.inj H
              go_wp2
              go_ret
              exact ⟨by first | rfl | (simp [errW_none, errW_some] <;> rfl) | (simp [*, errW_none, errW_some] <;> rfl), by repeat (first | (with_reducible first | exact HB.out | apply below_alloc | apply pw_below_drewN | apply below_drew1 | refine below_set ?_ GE115.out | refine below_set ?_ GE121.out) | exact HB.out)⟩
          · rw [if_neg c58] at H
            have c58b0 : (t117 == 1) = false := beq_eq_false_iff_ne.mpr c58
            have c58b1 : (t117 != 1) = true := bne_iff_ne.mpr c58
            obtain rfl := Option.some.inj H
            go_wp2
            go_ret
            exact ⟨by first | rfl | (simp [errW_none, errW_some] <;> rfl) | (simp [*, errW_none, errW_some] <;> rfl), by repeat (first | (with_reducible first | exact HB.out | apply below_alloc | apply pw_below_drewN | apply below_drew1 | refine below_set ?_ GE115.out | refine below_set ?_ GE121.out) | exact HB.out)⟩

/-- THE ONE PURE STATEMENT of shuttlelaw21_RateTells: yours. -/
def shuttlelaw21_RateTells.Pure : Prop := ∀ (a0 : Int) (a1 : Int) (a2 : Int), (Lit.int .i64 a0).wf = true → (Lit.int .i64 a1).wf = true → (Lit.int .i64 a2).wf = true → ∃ k, shuttlelaw21_RateTells.f k a0 a1 a2 = some true
theorem shuttlelaw21_RateTells.walk (P : shuttlelaw21_RateTells.Pure) (a0 : Int) (a1 : Int) (a2 : Int) (w : World) (w0 : (Lit.int .i64 a0).wf = true) (w1 : (Lit.int .i64 a1).wf = true) (w2 : (Lit.int .i64 a2).wf = true) :
    Calls Try.prog 3 #[.int .i64 a0, .int .i64 a1, .int .i64 a2] w fun e w' => e = .returned (.bool true) ∧ Below w.heap.size w w' := by
  obtain ⟨k, h⟩ := P a0 a1 a2 w0 w1 w2
  refine (shuttlelaw21_RateTells.calls k a0 a1 a2 true w h).mono ?_
  rintro e w' ⟨rfl, hd⟩
  exact ⟨rfl, hd⟩

end Go.Proofs.Ytheklcdaanojaaa.PRateTells
