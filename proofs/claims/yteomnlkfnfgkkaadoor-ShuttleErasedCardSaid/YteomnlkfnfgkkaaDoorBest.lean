/- The walk of viterbi.best: the greater of what one edge or two give. No condition of our own. -/
import Derived.Test.YteomnlkfnfgkkaaDoorGain
namespace Go.Proofs.YteomnlkfnfgkkaaDoor.Q
open Go.RowKit Go.Proofs.YteomnlkfnfgkkaaDoorW.PrintWords Go.Proofs.YteomnlkfnfgkkaaDoorW.PrintLast Go.Proofs.YteomnlkfnfgkkaaDoorW.PrintMore
attribute [local go_sem] max2_int min2_int max_two min_two max_three min_three max_four min_four   -- for this text's walks alone
set_option linter.unusedVariables false
set_option linter.unusedSimpArgs false
/-- Nothing. -/
def NO : Int := -1099511627776
def mx2 (a b : Int) : Int := if a < b then b else a
def bstep (top y c : Int) : Int := if c = NO then top else mx2 top (wrap64 (y + c))
theorem bstep_no {p y c : Int} (h : c = NO) : p = bstep p y c := by rw [bstep, if_pos h]
theorem bstep_hi {p y c : Int} (hn : ¬ c = NO) (h : p < wrap64 (y + c)) : wrap64 (y + c) = bstep p y c := by rw [bstep, if_neg hn, mx2, if_pos h]
theorem bstep_lo {p y c : Int} (hn : ¬ c = NO) (h : wrap64 (y + c) ≤ p) : p = bstep p y c := by rw [bstep, if_neg hn, mx2, if_neg (by omega)]
def bestP (y0 c0 y1 c1 : Int) : Nat → Int
  | 0 => NO
  | 1 => bstep NO y0 c0
  | _ => bstep (bstep NO y0 c0) y1 c1
set_option maxHeartbeats 8000000 in
set_option maxRecDepth 100000 in
theorem best_calls (w : World) (g off n c ge eo m ce gb bo : Nat) (v0 v1 v2 v3 : Int) (f0 b0 p00 p01 p02 p03 : Int) (t0 : Nat) (f1 b1 p10 p11 p12 p13 : Int) (t1 : Nat) (y0 y1 c0 c1 : Int) (hn : 4 ≤ n) (hm : 1 ≤ m ∧ m ≤ 2) (hv0 : w.cell? ⟨g, off, none⟩ = some (.int .i64 v0)) (hv1 : w.cell? ⟨g, off + 1, none⟩ = some (.int .i64 v1)) (hv2 : w.cell? ⟨g, off + 2, none⟩ = some (.int .i64 v2)) (hv3 : w.cell? ⟨g, off + 3, none⟩ = some (.int .i64 v3))
    (he0 : w.rangeAt ge eo [.int .i64 f0, .int .i64 (t0 : Int), .int .u8 b0, .int .u8 p00, .int .u8 p01, .int .u8 p02, .int .u8 p03]) (he1 : w.rangeAt ge (eo + 7) [.int .i64 f1, .int .i64 (t1 : Int), .int .u8 b1, .int .u8 p10, .int .u8 p11, .int .u8 p12, .int .u8 p13]) (ht0 : t0 < 64) (ht1 : t1 < 64) (hc0 : w.cell? ⟨gb, bo + t0, none⟩ = some (.int .i64 c0)) (hc1 : w.cell? ⟨gb, bo + t1, none⟩ = some (.int .i64 c1))
    (hy0 : gainV v0 v1 v2 v3 p00 p01 p02 p03 = y0) (hy1 : gainV v0 v1 v2 v3 p10 p11 p12 p13 = y1) :
    Calls Tryd.prog 32 #[.slice (some ⟨g, off, none⟩) n c, .slice (some ⟨ge, eo, none⟩) m ce, .pointer (some ⟨gb, bo, none⟩)] w fun e w' => e = .returned (.int .i64 (bestP y0 c0 y1 c1 m)) ∧ Below w.heap.size w w' := by
  have HB := Aside0.mk (Below.refl w.heap.size w)
  have HN := Aside0.mk hn
  have HM := Aside0.mk hm
  have V0 := Aside0.mk hv0
  have V1 := Aside0.mk hv1
  have V2 := Aside0.mk hv2
  have V3 := Aside0.mk hv3
  have E0 := Aside0.mk he0
  have E1 := Aside0.mk he1
  have T0 := Aside0.mk ht0
  have T1 := Aside0.mk ht1
  have C0 := Aside0.mk hc0
  have C1 := Aside0.mk hc1
  have Y0 := Aside0.mk hy0
  have Y1 := Aside0.mk hy1
  clear hn hm hv0 hv1 hv2 hv3 he0 he1 ht0 ht1 hc0 hc1 hy0 hy1
  go_enter Tryd.func32, Tryd.ntmps32
  go_wp2
  go_loopg [7, 9, 10, 13] (m + 1) (fun kq v7 v9 v10 v13 w' => ∃ (i : Nat), v13 = .int .i64 (i : Int) ∧ v7 = .int .i64 (bestP y0 c0 y1 c1 i) ∧ Aside0 (i + kq = m + 1 ∧ i ≤ m) ∧ Aside0 (Below w.heap.size w w'))
  case atStart => exact ⟨0, rfl, rfl, ⟨by omega⟩, HB⟩
  case round =>
    clear HB
    obtain ⟨i, rfl, rfl, HI, HB⟩ := hrel
    cases gk with
    | zero => exact absurd HI.out (by omega)
    | succ k1 =>
      by_cases cl : (i : Int) < (m : Int)
      · have c5 : decide ((i : Int) < (m : Int)) = true := decide_eq_true cl
        rcases (show i = 0 ∨ i = 1 by have := HM.out; omega) with rfl | rfl
        · have q0 : (((0 : Nat) : Int) < (m : Int)) = True := eq_true cl
          have q1 : ((0 : Int) < (m : Int)) = True := eq_true cl
          have q2 : (0 < m) = True := eq_true (by omega)
          have q3 : decide ((0 : Int) < (m : Int)) = true := decide_eq_true cl
          have r0 : (t0 < 64) = True := eq_true T0.out
          have r1 : ((t0 : Int) < 64) = True := eq_true (by have := T0.out; omega)
          obtain ⟨p, hp⟩ : ∃ p, bestP y0 c0 y1 c1 0 = p := ⟨_, rfl⟩
          rw [hp]
          have HP := Aside0.mk hp
          have CL := Aside0.mk cl
          clear hp cl
          go_upto_region 5 with (first | ((with_reducible refine gate_dst (N := 16) rfl ?_); refine wpList_load_mid rfl 44 (.tmp 15) rfl ge (eo) rfl [.int .i64 f0, .int .i64 (t0 : Int), .int .u8 b0, .int .u8 p00, .int .u8 p01, .int .u8 p02, .int .u8 p03] _ (fun j v hv => (HB.out.cell (p := ⟨ge, eo + j, none⟩) (by have := E0.out j v hv; exact World.block_lt_of_cell? _ _ this)).trans (E0.out j v hv)) Tryd.underlying44 rfl (by kernel_rfl) ?_) | ((with_reducible refine gate_dst (N := 9) rfl ?_); refine box_event ?hg (N := 9) ?hd (cs := zero7) (t := 44) ?hr ?_; (case hd => rfl); (case hg => rfl); (case hr => first | (go_simp; done) | (go_simp; rfl)); intro g9 hg w9 hbox hb; have n1_ := Aside0.mk (below_step HB.out hb); have GE9 := Aside0.mk ((by rw [hg]; exact (below_size HB.out)) : w.heap.size ≤ g9); have B9 := Aside0.mk hbox; clear HB hb hbox hg; have HB := n1_; clear n1_) | ((with_reducible refine gate_store (t := 44) (p := 9) rfl ?_); refine wpList_store_row rfl 44 (.tmp 9) (.tmp 16) rfl g9 #[.int .i64 f0, .int .i64 (t0 : Int), .int .u8 b0, .int .u8 p00, .int .u8 p01, .int .u8 p02, .int .u8 p03] rfl rfl 44 zero7 B9.out (by kernel_rfl) rfl (by simp [Value.oneCell']) ?_; have kb_ := Aside0.mk (setRow_heap _ g9 zero7 #[.int .i64 f0, .int .i64 (t0 : Int), .int .u8 b0, .int .u8 p00, .int .u8 p01, .int .u8 p02, .int .u8 p03] 44 (0, 0) B9.out); have n1_ := Aside0.mk (below_row (g := g9) (cs := #[.int .i64 f0, .int .i64 (t0 : Int), .int .u8 b0, .int .u8 p00, .int .u8 p01, .int .u8 p02, .int .u8 p03]) HB.out GE9.out); clear HB B9 ; have HB := n1_; have B9 := kb_; clear n1_ kb_ ))
          have hcc : ∀ W : World, Below w.heap.size w W → W.cell? ⟨gb, bo + t0, none⟩ = some (.int .i64 c0) := fun W hb => (hb.cell (p := ⟨gb, bo + t0, none⟩) (World.block_lt_of_cell? _ _ C0.out)).trans C0.out
          have hcc := hcc _ HB.out
          have hct := (blk_cell B9.out 1)
          replace hct := hct.trans (show _ = some (Value.int .i64 (t0 : Int)) from rfl)
          by_cases hno : c0 = NO
          · have hn1 : (c0 != -1099511627776) = false := by rw [hno]; rfl
            have HNO := Aside0.mk hno
            clear hno
            go_wp2
            repeat (go_quiet (fail); try go_wp2)
            go_roundg k1
            case measure => omega
            case rel => exact ⟨1, rfl, congrArg (Value.int .i64) (show p = bstep (bestP y0 c0 y1 c1 0) y0 c0 from by rw [HP.out]; exact bstep_no HNO.out), ⟨by have := HI.out; have := HM.out; have := CL.out; omega⟩, ⟨by first | exact HB.out | exact pw_below_drewN HB.out _⟩⟩
          · have hn1 : (c0 != -1099511627776) = true := bne_iff_ne.mpr hno
            have HNO := Aside0.mk hno
            clear hno
            go_wp2
            go_quiet (fail)
            have n0_ := Aside0.mk (pw_below_drewN HB.out nq)
            have n1_ := Aside0.mk (blk_drewN B9.out nq)
            clear HB B9 hcc hct
            have HB := n0_
            have B9 := n1_
            clear n0_ n1_
            go_wp2_with (first | ((with_reducible refine gate_dst (N := 27) rfl ?_); refine wpList_load_row rfl 44 (.tmp 9) rfl g9 rfl 44 #[.int .i64 f0, .int .i64 (t0 : Int), .int .u8 b0, .int .u8 p00, .int .u8 p01, .int .u8 p02, .int .u8 p03] (0, 0) _ B9.out Tryd.underlying44 rfl (by kernel_rfl) ?_) | ((with_reducible refine gate_callee (f := 38) rfl ?_); refine goesL_ (some 28) rfl rfl Tryd.func38 (by kernel_rfl) rfl #[.slice (some ⟨g, off, none⟩) n c, .agg #[.int .i64 f0, .int .i64 (t0 : Int), .int .u8 b0, .int .u8 p00, .int .u8 p01, .int .u8 p02, .int .u8 p03]] rfl (by (try simp only [List.map_toArray, List.map_cons, List.map_nil]); first | done | rfl) ?_; (with_reducible refine (gain_calls _ g off n c f0 (t0 : Int) b0 p00 p01 p02 p03 v0 v1 v2 v3 HN.out ((HB.out.cell (p := ⟨g, off, none⟩) (World.block_lt_of_cell? _ _ V0.out)).trans V0.out) ((HB.out.cell (p := ⟨g, off + 1, none⟩) (World.block_lt_of_cell? _ _ V1.out)).trans V1.out) ((HB.out.cell (p := ⟨g, off + 2, none⟩) (World.block_lt_of_cell? _ _ V2.out)).trans V2.out) ((HB.out.cell (p := ⟨g, off + 3, none⟩) (World.block_lt_of_cell? _ _ V3.out)).trans V3.out)).mono ?_); rintro e wq ⟨rfl, hb⟩; rw [Y0.out]; refine ⟨_, rfl, ?_⟩; have n1_ := Aside0.mk (below_step HB.out hb); clear HB B9 hb; have HB := n1_; clear n1_))
            all_goals
              go_roundg k1
              case measure => omega
              case rel => exact ⟨1, rfl, congrArg (Value.int .i64) (show _ = bstep (bestP y0 c0 y1 c1 0) y0 c0 from by rw [HP.out]; first | exact bstep_hi HNO.out h | exact bstep_lo HNO.out h), ⟨by have := HI.out; have := HM.out; have := CL.out; omega⟩, HB⟩
        · have q0 : (((1 : Nat) : Int) < (m : Int)) = True := eq_true cl
          have q1 : ((1 : Int) < (m : Int)) = True := eq_true cl
          have q2 : (1 < m) = True := eq_true (by omega)
          have q3 : decide ((1 : Int) < (m : Int)) = true := decide_eq_true cl
          have r0 : (t1 < 64) = True := eq_true T1.out
          have r1 : ((t1 : Int) < 64) = True := eq_true (by have := T1.out; omega)
          obtain ⟨p, hp⟩ : ∃ p, bestP y0 c0 y1 c1 1 = p := ⟨_, rfl⟩
          rw [hp]
          have HP := Aside0.mk hp
          have CL := Aside0.mk cl
          clear hp cl
          go_upto_region 5 with (first | ((with_reducible refine gate_dst (N := 16) rfl ?_); refine wpList_load_mid rfl 44 (.tmp 15) rfl ge (eo + 7) rfl [.int .i64 f1, .int .i64 (t1 : Int), .int .u8 b1, .int .u8 p10, .int .u8 p11, .int .u8 p12, .int .u8 p13] _ (fun j v hv => (HB.out.cell (p := ⟨ge, eo + 7 + j, none⟩) (by have := E1.out j v hv; exact World.block_lt_of_cell? _ _ this)).trans (E1.out j v hv)) Tryd.underlying44 rfl (by kernel_rfl) ?_) | ((with_reducible refine gate_dst (N := 9) rfl ?_); refine box_event ?hg (N := 9) ?hd (cs := zero7) (t := 44) ?hr ?_; (case hd => rfl); (case hg => rfl); (case hr => first | (go_simp; done) | (go_simp; rfl)); intro g9 hg w9 hbox hb; have n1_ := Aside0.mk (below_step HB.out hb); have GE9 := Aside0.mk ((by rw [hg]; exact (below_size HB.out)) : w.heap.size ≤ g9); have B9 := Aside0.mk hbox; clear HB hb hbox hg; have HB := n1_; clear n1_) | ((with_reducible refine gate_store (t := 44) (p := 9) rfl ?_); refine wpList_store_row rfl 44 (.tmp 9) (.tmp 16) rfl g9 #[.int .i64 f1, .int .i64 (t1 : Int), .int .u8 b1, .int .u8 p10, .int .u8 p11, .int .u8 p12, .int .u8 p13] rfl rfl 44 zero7 B9.out (by kernel_rfl) rfl (by simp [Value.oneCell']) ?_; have kb_ := Aside0.mk (setRow_heap _ g9 zero7 #[.int .i64 f1, .int .i64 (t1 : Int), .int .u8 b1, .int .u8 p10, .int .u8 p11, .int .u8 p12, .int .u8 p13] 44 (0, 0) B9.out); have n1_ := Aside0.mk (below_row (g := g9) (cs := #[.int .i64 f1, .int .i64 (t1 : Int), .int .u8 b1, .int .u8 p10, .int .u8 p11, .int .u8 p12, .int .u8 p13]) HB.out GE9.out); clear HB B9 ; have HB := n1_; have B9 := kb_; clear n1_ kb_ ))
          have hcc : ∀ W : World, Below w.heap.size w W → W.cell? ⟨gb, bo + t1, none⟩ = some (.int .i64 c1) := fun W hb => (hb.cell (p := ⟨gb, bo + t1, none⟩) (World.block_lt_of_cell? _ _ C1.out)).trans C1.out
          have hcc := hcc _ HB.out
          have hct := (blk_cell B9.out 1)
          replace hct := hct.trans (show _ = some (Value.int .i64 (t1 : Int)) from rfl)
          by_cases hno : c1 = NO
          · have hn1 : (c1 != -1099511627776) = false := by rw [hno]; rfl
            have HNO := Aside0.mk hno
            clear hno
            go_wp2
            repeat (go_quiet (fail); try go_wp2)
            go_roundg k1
            case measure => omega
            case rel => exact ⟨2, rfl, congrArg (Value.int .i64) (show p = bstep (bestP y0 c0 y1 c1 1) y1 c1 from by rw [HP.out]; exact bstep_no HNO.out), ⟨by have := HI.out; have := HM.out; have := CL.out; omega⟩, ⟨by first | exact HB.out | exact pw_below_drewN HB.out _⟩⟩
          · have hn1 : (c1 != -1099511627776) = true := bne_iff_ne.mpr hno
            have HNO := Aside0.mk hno
            clear hno
            go_wp2
            go_quiet (fail)
            have n0_ := Aside0.mk (pw_below_drewN HB.out nq)
            have n1_ := Aside0.mk (blk_drewN B9.out nq)
            clear HB B9 hcc hct
            have HB := n0_
            have B9 := n1_
            clear n0_ n1_
            go_wp2_with (first | ((with_reducible refine gate_dst (N := 27) rfl ?_); refine wpList_load_row rfl 44 (.tmp 9) rfl g9 rfl 44 #[.int .i64 f1, .int .i64 (t1 : Int), .int .u8 b1, .int .u8 p10, .int .u8 p11, .int .u8 p12, .int .u8 p13] (0, 0) _ B9.out Tryd.underlying44 rfl (by kernel_rfl) ?_) | ((with_reducible refine gate_callee (f := 38) rfl ?_); refine goesL_ (some 28) rfl rfl Tryd.func38 (by kernel_rfl) rfl #[.slice (some ⟨g, off, none⟩) n c, .agg #[.int .i64 f1, .int .i64 (t1 : Int), .int .u8 b1, .int .u8 p10, .int .u8 p11, .int .u8 p12, .int .u8 p13]] rfl (by (try simp only [List.map_toArray, List.map_cons, List.map_nil]); first | done | rfl) ?_; (with_reducible refine (gain_calls _ g off n c f1 (t1 : Int) b1 p10 p11 p12 p13 v0 v1 v2 v3 HN.out ((HB.out.cell (p := ⟨g, off, none⟩) (World.block_lt_of_cell? _ _ V0.out)).trans V0.out) ((HB.out.cell (p := ⟨g, off + 1, none⟩) (World.block_lt_of_cell? _ _ V1.out)).trans V1.out) ((HB.out.cell (p := ⟨g, off + 2, none⟩) (World.block_lt_of_cell? _ _ V2.out)).trans V2.out) ((HB.out.cell (p := ⟨g, off + 3, none⟩) (World.block_lt_of_cell? _ _ V3.out)).trans V3.out)).mono ?_); rintro e wq ⟨rfl, hb⟩; rw [Y1.out]; refine ⟨_, rfl, ?_⟩; have n1_ := Aside0.mk (below_step HB.out hb); clear HB B9 hb; have HB := n1_; clear n1_))
            all_goals
              go_roundg k1
              case measure => omega
              case rel => exact ⟨2, rfl, congrArg (Value.int .i64) (show _ = bstep (bestP y0 c0 y1 c1 1) y1 c1 from by rw [HP.out]; first | exact bstep_hi HNO.out h | exact bstep_lo HNO.out h), ⟨by have := HI.out; have := HM.out; have := CL.out; omega⟩, HB⟩
      · have c5 : decide ((i : Int) < (m : Int)) = false := decide_eq_false cl
        obtain rfl : i = m := by have := HI.out; omega
        clear cl
        go_wp2
        go_ret
        exact ⟨rfl, HB.out⟩
end Go.Proofs.YteomnlkfnfgkkaaDoor.Q
