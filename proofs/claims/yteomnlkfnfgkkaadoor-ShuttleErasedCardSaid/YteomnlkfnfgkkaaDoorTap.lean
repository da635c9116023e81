/- The walk of conv.out: what a word of seven bits gives out. Condition: the taps lie as their initialiser lays them. -/
import Derived.Test.YteomnlkfnfgkkaaDoorQ1
namespace Go.Proofs.YteomnlkfnfgkkaaDoor.Q
open Go.RowKit Go.Proofs.YteomnlkfnfgkkaaDoorW.PrintWords Go.Proofs.YteomnlkfnfgkkaaDoorW.PrintLast Go.Proofs.YteomnlkfnfgkkaaDoorW.PrintMore
attribute [local go_sem] max2_int min2_int max_two min_two max_three min_three max_four min_four   -- for this text's walks alone
set_option linter.unusedVariables false
set_option linter.unusedSimpArgs false
def tapL : List Int := [79, 87, 109, 121]
def TapOk (w : World) : Prop := ∀ j, j < 4 → w.cell? ⟨0, j, none⟩ = some (.int .u64 (tapL.getD j 0))
theorem TapA.below {w W : World} (hT : Aside0 (TapOk w)) (hB : Below w.heap.size w W) : Aside0 (TapOk W) :=
  ⟨fun j hj => (hB.cell (p := ⟨0, j, none⟩) (World.block_lt_of_cell? _ _ (hT.out j hj))).trans (hT.out j hj)⟩
/-- What a word gives out on stream i. -/
def ob (x i : Nat) : Int := match bits_OnesCount.f (Go.bits .and .u64 (x : Int) (tapL.getD i 0)) with | some p => IntKind.u8.wrap (Go.bits .and .i64 p 1) | none => 7
def checkO : Bool := (List.range 128).all fun x => (List.range 4).all fun i => decide (0 ≤ ob x i ∧ ob x i ≤ 1) && (x < 64 → decide (ob (x + 64) i = 1 - ob x i))
theorem checkO_true : checkO = true := by decide +kernel
theorem ob_in (x i : Nat) (hx : x < 128) (hi : i < 4) : 0 ≤ ob x i ∧ ob x i ≤ 1 := by
  have h := List.all_eq_true.mp (List.all_eq_true.mp checkO_true x (List.mem_range.mpr hx)) i (List.mem_range.mpr hi)
  rw [Bool.and_eq_true] at h
  exact of_decide_eq_true h.1
theorem ob_turn (x i : Nat) (hx : x < 64) (hi : i < 4) : ob (x + 64) i = 1 - ob x i := by
  have h := List.all_eq_true.mp (List.all_eq_true.mp checkO_true x (List.mem_range.mpr (by omega))) i (List.mem_range.mpr hi)
  rw [Bool.and_eq_true] at h
  have h2 := h.2
  simpa [hx] using h2
theorem ob_spec (x i : Nat) (hx : x < 128) (hi : i < 4) : ∃ p, bits_OnesCount.f (Go.bits .and .u64 (x : Int) (tapL.getD i 0)) = some p ∧ IntKind.u8.wrap (Go.bits .and .i64 p 1) = ob x i := by
  have h := ob_in x i hx hi
  unfold ob at h ⊢
  cases e : bits_OnesCount.f (Go.bits .and .u64 (x : Int) (tapL.getD i 0)) with
  | some p => exact ⟨p, rfl, rfl⟩
  | none => rw [e] at h; simp at h
def zero4 : Array Value := #[.int .u8 0, .int .u8 0, .int .u8 0, .int .u8 0]
def obC (x : Nat) : Array Value := #[.int .u8 (ob x 0), .int .u8 (ob x 1), .int .u8 (ob x 2), .int .u8 (ob x 3)]
def obP (x : Nat) : Nat → Array Value
  | 0 => zero4
  | i + 1 => (obP x i).setIfInBounds i (.int .u8 (ob x i))
theorem obP4 (x : Nat) : obP x 4 = obC x := rfl
theorem results_cell {P : Program} {fn : Func} {p : Tmp} {ty : TypeId} (h : fn.results = #[.cell p ty]) (tmps : Array Value) (w : World) (g : Nat) (t : TypeId) (cs : Array Value) (fr : Nat × Nat) (d : TypeDesc)
    (hp : tmps.getD p undef = .pointer (some ⟨g, 0, none⟩)) (hg : w.heap[g]? = some (.cells cs t fr))
    (hu : P.underlying ty = some d) (hd : (match d with | .struct _ | .array _ _ => true | _ => false) = true) (hi : (P.info? ty).map (·.size) = some cs.size) :
    (results fn tmps).run P w = .ok (.agg cs) w := results_one h tmps w g t cs fr d hp hg hu hd hi
theorem run_ix0 (v0 v1 v2 v3 : Value) (w : World) : (Instr.index 65 (.agg #[v0, v1, v2, v3]) (.int .i64 0)).run Tryd.prog w = .ok v0 w := by
  simp [Instr.index, run_underlying Tryd.underlying65, asIntOf, go_sem]
theorem run_ix1 (v0 v1 v2 v3 : Value) (w : World) : (Instr.index 65 (.agg #[v0, v1, v2, v3]) (.int .i64 1)).run Tryd.prog w = .ok v1 w := by
  simp [Instr.index, run_underlying Tryd.underlying65, asIntOf, go_sem]
theorem run_ix2 (v0 v1 v2 v3 : Value) (w : World) : (Instr.index 65 (.agg #[v0, v1, v2, v3]) (.int .i64 2)).run Tryd.prog w = .ok v2 w := by
  simp [Instr.index, run_underlying Tryd.underlying65, asIntOf, go_sem]
theorem run_ix3 (v0 v1 v2 v3 : Value) (w : World) : (Instr.index 65 (.agg #[v0, v1, v2, v3]) (.int .i64 3)).run Tryd.prog w = .ok v3 w := by
  simp [Instr.index, run_underlying Tryd.underlying65, asIntOf, go_sem]
set_option maxHeartbeats 8000000 in
set_option maxRecDepth 100000 in
theorem out_calls (w : World) (x : Nat) (hx : x < 128) (hT : Aside0 (TapOk w)) : Calls Tryd.prog 14 #[.int .u64 (x : Int)] w fun e w' => e = .returned (.agg (obC x)) ∧ Below w.heap.size w w' := by
  have HB := Aside0.mk (Below.refl w.heap.size w)
  have HX := Aside0.mk hx
  clear hx
  go_enter Tryd.func14, Tryd.ntmps14
  go_upto_region 2 with (first | ((with_reducible refine gate_dst (N := 2) rfl ?_); refine box_event ?hg (N := 2) ?hd (cs := zero4) (t := 41) ?hr ?_; (case hd => rfl); (case hg => rfl); (case hr => first | (go_simp; done) | (go_simp; rfl)); intro g2 hg w2 hbox hb; have n1_ := Aside0.mk (below_step HB.out hb); have GE2 := Aside0.mk ((by rw [hg]; exact (below_size HB.out)) : w.heap.size ≤ g2); have B2 := Aside0.mk hbox; clear HB hb hbox hg; have HB := n1_; clear n1_) | ((with_reducible refine gate_dst (N := 3) rfl ?_); refine box_event ?hg (N := 3) ?hd (cs := zero4) (t := 41) ?hr ?_; (case hd => rfl); (case hg => rfl); (case hr => first | (go_simp; done) | (go_simp; rfl)); intro g3 hg w3 hbox hb; have NE : Aside0 (g2 ≠ g3) := ⟨by rw [hg]; exact Nat.ne_of_lt (blk_lt B2.out)⟩; have n0_ := Aside0.mk (blk_below B2.out hb); clear B2; have B2 := n0_; clear n0_; have n1_ := Aside0.mk (below_step HB.out hb); have GE3 := Aside0.mk ((by rw [hg]; exact (below_size HB.out)) : w.heap.size ≤ g3); have B3 := Aside0.mk hbox; clear HB hb hbox hg; have HB := n1_; clear n1_))
  have ht0 : w3.cell? ⟨0, 0, none⟩ = some (.int .u64 79) := (TapA.below hT HB.out).out 0 (by decide)
  have ht1 : w3.cell? ⟨0, 1, none⟩ = some (.int .u64 87) := (TapA.below hT HB.out).out 1 (by decide)
  have ht2 : w3.cell? ⟨0, 2, none⟩ = some (.int .u64 109) := (TapA.below hT HB.out).out 2 (by decide)
  have ht3 : w3.cell? ⟨0, 3, none⟩ = some (.int .u64 121) := (TapA.below hT HB.out).out 3 (by decide)
  go_wp2
  clear ht0 ht1 ht2 ht3
  go_loopg [4, 5, 7] 5 (fun kq v4 v5 v7 w' => ∃ (i : Nat), v7 = .int .i64 (i : Int) ∧ Aside0 (i + kq = 5 ∧ i ≤ 4) ∧ Aside0 (w'.heap[g2]? = some (.cells zero4 41 (0, 0))) ∧ Aside0 (w'.heap[g3]? = some (.cells (obP x i) 41 (0, 0))) ∧ Aside0 (Below w.heap.size w w'))
  case atStart => exact ⟨0, rfl, ⟨by omega⟩, B2, B3, HB⟩
  case round =>
    clear B2 B3 HB
    obtain ⟨i, rfl, HI, B2, B3, HB⟩ := hrel
    cases gk with
    | zero => exact absurd HI.out (by omega)
    | succ k1 =>
      rcases (show i = 0 ∨ i = 1 ∨ i = 2 ∨ i = 3 ∨ i = 4 by have := HI.out; omega) with rfl | rfl | rfl | rfl | rfl
      · obtain ⟨p, hp, hq⟩ := ob_spec x 0 HX.out (by decide)
        replace hp : bits_OnesCount.f (Go.bits .and .u64 (x : Int) 79) = some p := hp
        have HP := Aside0.mk hp
        clear hp
        have hc := blk_cell B3.out 0
        replace hc : wr.cell? ⟨g3, 0, none⟩ = some (.int .u8 0) := hc.trans rfl
        have hf := blk_frozen B3.out 0
        obtain ⟨y, hy⟩ : ∃ y_, Go.bits .and .u64 (x : Int) 79 = y_ := ⟨_, rfl⟩
        rw [hy] at HP
        obtain ⟨q, hq2⟩ : ∃ q_, Go.bits .and .i64 p 1 = q_ := ⟨_, rfl⟩
        rw [hq2] at hq
        have hix := run_ix0 (.int .u64 79) (.int .u64 87) (.int .u64 109) (.int .u64 121)
        go_wp2_with (first | ((with_reducible refine gate_callee (f := 26) rfl ?_); refine goesL_ (some 15) rfl rfl Tryd.func26 (by kernel_rfl) rfl #[.int .u64 y] rfl (by (try simp only [List.map_toArray, List.map_cons, List.map_nil]); first | done | rfl) ?_; (with_reducible refine (bits_OnesCount.calls y p _ HP.out).mono ?_); rintro e w5 ⟨rfl, hd⟩; obtain ⟨dn_, hd⟩ := hd; subst hd; refine ⟨_, rfl, ?_⟩))
        go_roundg k1
        case measure => omega
        case rel => exact ⟨1, rfl, ⟨by have := HI.out; omega⟩, ⟨blk_far (p := ⟨g3, 0, none⟩) B2.out NE.out _⟩, ⟨blk_put B3.out 0 _ rfl⟩, ⟨below_set (pw_below_drewN HB.out _) GE3.out⟩⟩
      · obtain ⟨p, hp, hq⟩ := ob_spec x 1 HX.out (by decide)
        replace hp : bits_OnesCount.f (Go.bits .and .u64 (x : Int) 87) = some p := hp
        have HP := Aside0.mk hp
        clear hp
        have hc := blk_cell B3.out 1
        replace hc : wr.cell? ⟨g3, 1, none⟩ = some (.int .u8 0) := hc.trans rfl
        have hf := blk_frozen B3.out 1
        obtain ⟨y, hy⟩ : ∃ y_, Go.bits .and .u64 (x : Int) 87 = y_ := ⟨_, rfl⟩
        rw [hy] at HP
        obtain ⟨q, hq2⟩ : ∃ q_, Go.bits .and .i64 p 1 = q_ := ⟨_, rfl⟩
        rw [hq2] at hq
        have hix := run_ix1 (.int .u64 79) (.int .u64 87) (.int .u64 109) (.int .u64 121)
        go_wp2_with (first | ((with_reducible refine gate_callee (f := 26) rfl ?_); refine goesL_ (some 15) rfl rfl Tryd.func26 (by kernel_rfl) rfl #[.int .u64 y] rfl (by (try simp only [List.map_toArray, List.map_cons, List.map_nil]); first | done | rfl) ?_; (with_reducible refine (bits_OnesCount.calls y p _ HP.out).mono ?_); rintro e w5 ⟨rfl, hd⟩; obtain ⟨dn_, hd⟩ := hd; subst hd; refine ⟨_, rfl, ?_⟩))
        go_roundg k1
        case measure => omega
        case rel => exact ⟨2, rfl, ⟨by have := HI.out; omega⟩, ⟨blk_far (p := ⟨g3, 1, none⟩) B2.out NE.out _⟩, ⟨blk_put B3.out 1 _ rfl⟩, ⟨below_set (pw_below_drewN HB.out _) GE3.out⟩⟩
      · obtain ⟨p, hp, hq⟩ := ob_spec x 2 HX.out (by decide)
        replace hp : bits_OnesCount.f (Go.bits .and .u64 (x : Int) 109) = some p := hp
        have HP := Aside0.mk hp
        clear hp
        have hc := blk_cell B3.out 2
        replace hc : wr.cell? ⟨g3, 2, none⟩ = some (.int .u8 0) := hc.trans rfl
        have hf := blk_frozen B3.out 2
        obtain ⟨y, hy⟩ : ∃ y_, Go.bits .and .u64 (x : Int) 109 = y_ := ⟨_, rfl⟩
        rw [hy] at HP
        obtain ⟨q, hq2⟩ : ∃ q_, Go.bits .and .i64 p 1 = q_ := ⟨_, rfl⟩
        rw [hq2] at hq
        have hix := run_ix2 (.int .u64 79) (.int .u64 87) (.int .u64 109) (.int .u64 121)
        go_wp2_with (first | ((with_reducible refine gate_callee (f := 26) rfl ?_); refine goesL_ (some 15) rfl rfl Tryd.func26 (by kernel_rfl) rfl #[.int .u64 y] rfl (by (try simp only [List.map_toArray, List.map_cons, List.map_nil]); first | done | rfl) ?_; (with_reducible refine (bits_OnesCount.calls y p _ HP.out).mono ?_); rintro e w5 ⟨rfl, hd⟩; obtain ⟨dn_, hd⟩ := hd; subst hd; refine ⟨_, rfl, ?_⟩))
        go_roundg k1
        case measure => omega
        case rel => exact ⟨3, rfl, ⟨by have := HI.out; omega⟩, ⟨blk_far (p := ⟨g3, 2, none⟩) B2.out NE.out _⟩, ⟨blk_put B3.out 2 _ rfl⟩, ⟨below_set (pw_below_drewN HB.out _) GE3.out⟩⟩
      · obtain ⟨p, hp, hq⟩ := ob_spec x 3 HX.out (by decide)
        replace hp : bits_OnesCount.f (Go.bits .and .u64 (x : Int) 121) = some p := hp
        have HP := Aside0.mk hp
        clear hp
        have hc := blk_cell B3.out 3
        replace hc : wr.cell? ⟨g3, 3, none⟩ = some (.int .u8 0) := hc.trans rfl
        have hf := blk_frozen B3.out 3
        obtain ⟨y, hy⟩ : ∃ y_, Go.bits .and .u64 (x : Int) 121 = y_ := ⟨_, rfl⟩
        rw [hy] at HP
        obtain ⟨q, hq2⟩ : ∃ q_, Go.bits .and .i64 p 1 = q_ := ⟨_, rfl⟩
        rw [hq2] at hq
        have hix := run_ix3 (.int .u64 79) (.int .u64 87) (.int .u64 109) (.int .u64 121)
        go_wp2_with (first | ((with_reducible refine gate_callee (f := 26) rfl ?_); refine goesL_ (some 15) rfl rfl Tryd.func26 (by kernel_rfl) rfl #[.int .u64 y] rfl (by (try simp only [List.map_toArray, List.map_cons, List.map_nil]); first | done | rfl) ?_; (with_reducible refine (bits_OnesCount.calls y p _ HP.out).mono ?_); rintro e w5 ⟨rfl, hd⟩; obtain ⟨dn_, hd⟩ := hd; subst hd; refine ⟨_, rfl, ?_⟩))
        go_roundg k1
        case measure => omega
        case rel => exact ⟨4, rfl, ⟨by have := HI.out; omega⟩, ⟨blk_far (p := ⟨g3, 3, none⟩) B2.out NE.out _⟩, ⟨blk_put B3.out 3 _ rfl⟩, ⟨below_set (pw_below_drewN HB.out _) GE3.out⟩⟩
      · rw [obP4] at B3
        have hz0 : wr.cell? ⟨g3, 0, none⟩ = some (.int .u8 (ob x 0)) := (blk_cell B3.out 0).trans rfl
        have hy0 : wr.cell? ⟨g2, 0, none⟩ = some (.int .u8 0) := (blk_cell B2.out 0).trans rfl
        have hf0 := blk_frozen B2.out 0
        have hz1 : wr.cell? ⟨g3, 1, none⟩ = some (.int .u8 (ob x 1)) := (blk_cell B3.out 1).trans rfl
        have hy1 : wr.cell? ⟨g2, 1, none⟩ = some (.int .u8 0) := (blk_cell B2.out 1).trans rfl
        have hf1 := blk_frozen B2.out 1
        have hz2 : wr.cell? ⟨g3, 2, none⟩ = some (.int .u8 (ob x 2)) := (blk_cell B3.out 2).trans rfl
        have hy2 : wr.cell? ⟨g2, 2, none⟩ = some (.int .u8 0) := (blk_cell B2.out 2).trans rfl
        have hf2 := blk_frozen B2.out 2
        have hz3 : wr.cell? ⟨g3, 3, none⟩ = some (.int .u8 (ob x 3)) := (blk_cell B3.out 3).trans rfl
        have hy3 : wr.cell? ⟨g2, 3, none⟩ = some (.int .u8 0) := (blk_cell B2.out 3).trans rfl
        have hf3 := blk_frozen B2.out 3
        go_wp2
        have hfin := (blk_put (cs' := obC x) (blk_put (cs' := #[.int .u8 (ob x 0), .int .u8 (ob x 1), .int .u8 (ob x 2), .int .u8 0]) (blk_put (cs' := #[.int .u8 (ob x 0), .int .u8 (ob x 1), .int .u8 0, .int .u8 0]) (blk_put (cs' := #[.int .u8 (ob x 0), .int .u8 0, .int .u8 0, .int .u8 0]) B2.out 0 (.int .u8 (ob x 0)) rfl) 1 (.int .u8 (ob x 1)) rfl) 2 (.int .u8 (ob x 2)) rfl) 3 (.int .u8 (ob x 3)) rfl)
        refine bodyPost_ret (results_cell rfl _ _ g2 41 _ (0, 0) _ rfl hfin Tryd.underlying41 rfl (by kernel_rfl)) rfl ?_
        exact ⟨rfl, below_set (below_set (below_set (below_set HB.out GE2.out) GE2.out) GE2.out) GE2.out⟩
end Go.Proofs.YteomnlkfnfgkkaaDoor.Q
