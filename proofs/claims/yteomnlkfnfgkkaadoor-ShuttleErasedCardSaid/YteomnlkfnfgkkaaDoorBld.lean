/- The walk of viterbi.build: the graph, two edges to each state. Condition: the taps lie as their initialiser lays them. -/
import Derived.Test.YteomnlkfnfgkkaaDoorEdg
namespace Go.Proofs.YteomnlkfnfgkkaaDoor.Q
open Go.RowKit Go.Proofs.YteomnlkfnfgkkaaDoorW.PrintWords Go.Proofs.YteomnlkfnfgkkaaDoorW.PrintLast Go.Proofs.YteomnlkfnfgkkaaDoorW.PrintMore
attribute [local go_sem] max2_int min2_int max_two min_two max_three min_three max_four min_four   -- for this text's walks alone
set_option linter.unusedVariables false
set_option linter.unusedSimpArgs false
def twoL (s : Nat) : List Value := [.int .i64 (s : Int), .int .i64 ((wd s 0 / 2 : Nat) : Int), .int .u8 0, .int .u8 (ob (wd s 0) 0), .int .u8 (ob (wd s 0) 1), .int .u8 (ob (wd s 0) 2), .int .u8 (ob (wd s 0) 3), .int .i64 (s : Int), .int .i64 ((wd s 1 / 2 : Nat) : Int), .int .u8 1, .int .u8 (ob (wd s 1) 0), .int .u8 (ob (wd s 1) 1), .int .u8 (ob (wd s 1) 2), .int .u8 (ob (wd s 1) 3)]
def zL : List Value := [.int .i64 0, .int .i64 0, .int .u8 0, .int .u8 0, .int .u8 0, .int .u8 0, .int .u8 0, .int .i64 0, .int .i64 0, .int .u8 0, .int .u8 0, .int .u8 0, .int .u8 0, .int .u8 0]
def rowsL : Nat → List Value
  | 0 => []
  | m + 1 => rowsL m ++ twoL m
def zrows : Nat → List Value
  | 0 => []
  | m + 1 => zL ++ zrows m
theorem rowsL_len : ∀ m, (rowsL m).length = 14 * m
  | 0 => rfl
  | m + 1 => by rw [rowsL, List.length_append, rowsL_len m]; show 14 * m + 14 = _; omega
theorem zrows_len : ∀ m, (zrows m).length = 14 * m
  | 0 => rfl
  | m + 1 => by rw [zrows, List.length_append, zrows_len m]; show 14 + 14 * m = _; omega
/-- The graph with its first m states filled. -/
def grL (m : Nat) : List Value := rowsL m ++ zrows (64 - m)
theorem grL_len (m : Nat) (h : m ≤ 64) : (grL m).length = 896 := by rw [grL, List.length_append, rowsL_len, zrows_len]; omega
theorem grL_step (m : Nat) (h : m < 64) : (grL m).take (14 * m) ++ twoL m ++ (grL m).drop (14 * m + 14) = grL (m + 1) := by
  have e1 : (grL m).take (14 * m) = rowsL m := by rw [grL, List.take_left' (rowsL_len m)]
  have e2 : (grL m).drop (14 * m + 14) = zrows (64 - (m + 1)) := by
    rw [grL, ← List.drop_drop, List.drop_left' (rowsL_len m), show 64 - m = (64 - (m + 1)) + 1 by omega, zrows]
    exact List.drop_left' rfl
  rw [e1, e2, grL, rowsL]
def grA (m : Nat) : Array Value := (grL m).toArray
theorem twoL_one (s : Nat) : ∀ v ∈ twoL s, v.oneCell' = true := by
  intro v hv
  simp only [twoL, List.mem_cons, List.not_mem_nil, or_false] at hv
  rcases hv with h | h | h | h | h | h | h | h | h | h | h | h | h | h <;> (subst h; rfl)
theorem zL_one : ∀ v ∈ zL, v.oneCell' = true := by
  intro v hv
  simp only [zL, List.mem_cons, List.not_mem_nil, or_false] at hv
  rcases hv with h | h | h | h | h | h | h | h | h | h | h | h | h | h <;> (subst h; rfl)
theorem rowsL_one : ∀ m, ∀ v ∈ rowsL m, v.oneCell' = true
  | 0, v, h => by cases h
  | m + 1, v, h => by
    rcases List.mem_append.mp h with h | h
    · exact rowsL_one m v h
    · exact twoL_one m v h
theorem zrows_one : ∀ m, ∀ v ∈ zrows m, v.oneCell' = true
  | 0, v, h => by cases h
  | m + 1, v, h => by
    rcases List.mem_append.mp h with h | h
    · exact zL_one v h
    · exact zrows_one m v h
theorem grL_one (m : Nat) : ∀ v ∈ grL m, v.oneCell' = true := fun v h => (List.mem_append.mp h).elim (rowsL_one m v) (zrows_one _ v)
theorem there_blk {W : World} {g o n : Nat} {t : TypeId} {cs : Array Value} (h : W.heap[g]? = some (.cells cs t (0, 0))) (hn : o + n ≤ cs.size) : W.there g o n := fun j hj =>
  ⟨by rw [blk_cell h, Array.getElem?_eq_getElem (by omega)]; rfl, blk_frozen h _⟩
theorem below_setCells {w W : World} {g : Nat} (vs : List Value) (o : Nat) (h : Below w.heap.size w W) (hg : w.heap.size ≤ g) : Below w.heap.size w (W.setCells g o vs) := by
  obtain ⟨h1, h2, h3, h4⟩ := setCells_same g vs o W
  exact ⟨h1.trans h.os, h2.trans h.tape, h3.trans h.output, by rw [h4]; exact h.size, fun k hk => (setCells_far vs o k (by omega)).trans (h.block k hk)⟩
theorem gr_store {W : World} {g m : Nat} (h : W.heap[g]? = some (.cells (grA m) 54 (0, 0))) (hm : m < 64) : (W.setCells g (14 * m) (twoL m)).heap[g]? = some (.cells (grA (m + 1)) 54 (0, 0)) := by
  obtain ⟨cur, h1, _, h3⟩ := setCells_row (twoL m) (14 * m) W (grA m) h (by show 14 * m + 14 ≤ (grA m).size; rw [grA, List.size_toArray, grL_len m (by omega)]; omega)
  have e : cur = grA (m + 1) := Array.ext' (by rw [h3, grA, List.toList_toArray]; exact grL_step m hm)
  rw [h1, e]
set_option maxHeartbeats 8000000 in
set_option maxRecDepth 100000 in
theorem build_g (w : World) (hT : Aside0 (TapOk w)) : Calls Tryd.prog 21 #[] w fun e w' => e = .returned (.tuple #[.agg (grA 64), .int .i64 0]) ∧ Below w.heap.size w w' := by
  have HB := Aside0.mk (Below.refl w.heap.size w)
  go_enter Tryd.func21, Tryd.ntmps21
  go_upto_region 2 with (first | ((with_reducible refine gate_dst (N := 0) rfl ?_); refine box_event ?hg (N := 0) ?hd (cs := grA 0) (t := 54) ?hr ?_; (case hd => rfl); (case hg => rfl); (case hr => first | (go_simp; done) | (go_simp; rfl)); intro g0 hg w0 hbox hb; have n1_ := Aside0.mk (below_step HB.out hb); have GE0 := Aside0.mk ((by rw [hg]; exact (below_size HB.out)) : w.heap.size ≤ g0); have B0 := Aside0.mk hbox; clear HB hb hbox hg; have HB := n1_; clear n1_) | ((with_reducible refine gate_dst (N := 2) rfl ?_); refine box_event ?hg (N := 2) ?hd (cs := grA 0) (t := 54) ?hr ?_; (case hd => rfl); (case hg => rfl); (case hr => first | (go_simp; done) | (go_simp; rfl)); intro g2 hg w2 hbox hb; have NE : Aside0 (g0 ≠ g2) := ⟨by rw [hg]; exact Nat.ne_of_lt (blk_lt B0.out)⟩; have k0_ := Aside0.mk (blk_below B0.out hb); clear B0; have B0 := k0_; clear k0_; have n1_ := Aside0.mk (below_step HB.out hb); have GE2 := Aside0.mk ((by rw [hg]; exact (below_size HB.out)) : w.heap.size ≤ g2); have B2 := Aside0.mk hbox; clear HB hb hbox hg; have HB := n1_; clear n1_))
  go_wp2
  go_loopg [3, 4, 5, 6] 65 (fun kq v3 v4 v5 v6 w' => ∃ (s : Nat), v6 = .int .i64 (s : Int) ∧ Aside0 (s + kq = 65 ∧ s ≤ 64) ∧ Aside0 (w'.heap[g0]? = some (.cells (grA 0) 54 (0, 0))) ∧ Aside0 (w'.heap[g2]? = some (.cells (grA s) 54 (0, 0))) ∧ Aside0 (Below w.heap.size w w'))
  case atStart => exact ⟨0, rfl, ⟨by omega⟩, B0, B2, HB⟩
  case round =>
    clear B0 B2 HB
    obtain ⟨s, rfl, HI, B0, B2, HB⟩ := hrel
    cases gk with
    | zero => exact absurd HI.out (by omega)
    | succ k1 =>
      by_cases cl : (s : Int) < 64
      · have c5 : decide ((s : Int) < 64) = true := decide_eq_true cl
        have hs : s < 64 := by omega
        have HC := Aside0.mk (fun (w : World) (hT : Aside0 (TapOk w)) => From_calls w s _ _ _ _ hs rfl rfl rfl rfl hT _ _ _ _ _ _ _ _ ⟨rfl, rfl, rfl, rfl, rfl, rfl, rfl, rfl⟩)
        have HTW : Aside0 (twoL s = [.int .i64 (s : Int), .int .i64 ((wd s 0 / 2 : Nat) : Int), .int .u8 0, .int .u8 (ob (wd s 0) 0), .int .u8 (ob (wd s 0) 1), .int .u8 (ob (wd s 0) 2), .int .u8 (ob (wd s 0) 3), .int .i64 (s : Int), .int .i64 ((wd s 1 / 2 : Nat) : Int), .int .u8 1, .int .u8 (ob (wd s 1) 0), .int .u8 (ob (wd s 1) 1), .int .u8 (ob (wd s 1) 2), .int .u8 (ob (wd s 1) 3)]) := ⟨rfl⟩
        generalize ob (wd s 0) 0 = a0 at HC HTW
        generalize ob (wd s 0) 1 = a1 at HC HTW
        generalize ob (wd s 0) 2 = a2 at HC HTW
        generalize ob (wd s 0) 3 = a3 at HC HTW
        generalize ob (wd s 1) 0 = c0 at HC HTW
        generalize ob (wd s 1) 1 = c1 at HC HTW
        generalize ob (wd s 1) 2 = c2 at HC HTW
        generalize ob (wd s 1) 3 = c3 at HC HTW
        generalize wd s 0 / 2 = t0 at HC HTW
        generalize wd s 1 / 2 = t1 at HC HTW
        have HS := Aside0.mk hs
        have q0 : (s < 64) = True := eq_true hs
        have q1 : ((s : Int) < 64) = True := eq_true cl
        clear cl hs
        go_wp2_with (first | ((with_reducible refine gate_callee (f := 31) rfl ?_); refine goesL_ (some 11) rfl rfl Tryd.func31 (by kernel_rfl) rfl #[.int .i64 (s : Int)] rfl (by (try simp only [List.map_toArray, List.map_cons, List.map_nil]); first | done | rfl) ?_; (with_reducible refine (HC.out _ (TapA.below hT HB.out)).mono ?_); rintro e wq ⟨rfl, hb⟩; refine ⟨_, rfl, ?_⟩; have k0_ := Aside0.mk (blk_below B0.out hb); have k1_ := Aside0.mk (blk_below B2.out hb); clear B0; clear B2; have B0 := k0_; have B2 := k1_; clear k0_ k1_; have n1_ := Aside0.mk (below_step HB.out hb); clear HB hb; have HB := n1_; clear n1_) | ((with_reducible refine gate_dst (N := 4) rfl ?_); refine box_event ?hg (N := 4) ?hd (cs := zL.toArray) (t := 52) ?hr ?_; (case hd => rfl); (case hg => rfl); (case hr => first | (go_simp; done) | (go_simp; rfl)); intro g4 hg w4 hbox hb; have k0_ := Aside0.mk (blk_below B0.out hb); have k1_ := Aside0.mk (blk_below B2.out hb); clear B0; clear B2; have B0 := k0_; have B2 := k1_; clear k0_ k1_; have n1_ := Aside0.mk (below_step HB.out hb); have GE4 := Aside0.mk ((by rw [hg]; exact (below_size HB.out)) : w.heap.size ≤ g4); have B4 := Aside0.mk hbox; clear HB hb hbox hg; have HB := n1_; clear n1_) | ((with_reducible refine gate_store (t := 52) (p := 4) rfl ?_); refine wpList_store_row rfl 52 (.tmp 4) (.tmp 12) rfl g4 #[.int .i64 (s : Int), .int .i64 (t0 : Int), .int .u8 0, .int .u8 a0, .int .u8 a1, .int .u8 a2, .int .u8 a3, .int .i64 (s : Int), .int .i64 (t1 : Int), .int .u8 1, .int .u8 c0, .int .u8 c1, .int .u8 c2, .int .u8 c3] rfl rfl 52 zL.toArray B4.out (by kernel_rfl) rfl (by simp [Value.oneCell']) ?_; have kb_ := Aside0.mk (setRow_heap _ g4 zL.toArray #[.int .i64 (s : Int), .int .i64 (t0 : Int), .int .u8 0, .int .u8 a0, .int .u8 a1, .int .u8 a2, .int .u8 a3, .int .i64 (s : Int), .int .i64 (t1 : Int), .int .u8 1, .int .u8 c0, .int .u8 c1, .int .u8 c2, .int .u8 c3] 52 (0, 0) B4.out); have k0_ := Aside0.mk (blk_rowt (cs := #[.int .i64 (s : Int), .int .i64 (t0 : Int), .int .u8 0, .int .u8 a0, .int .u8 a1, .int .u8 a2, .int .u8 a3, .int .i64 (s : Int), .int .i64 (t1 : Int), .int .u8 1, .int .u8 c0, .int .u8 c1, .int .u8 c2, .int .u8 c3]) B0.out B4.out (by decide)); have k1_ := Aside0.mk (blk_rowt (cs := #[.int .i64 (s : Int), .int .i64 (t0 : Int), .int .u8 0, .int .u8 a0, .int .u8 a1, .int .u8 a2, .int .u8 a3, .int .i64 (s : Int), .int .i64 (t1 : Int), .int .u8 1, .int .u8 c0, .int .u8 c1, .int .u8 c2, .int .u8 c3]) B2.out B4.out (by decide)); have n1_ := Aside0.mk (below_row (g := g4) (cs := #[.int .i64 (s : Int), .int .i64 (t0 : Int), .int .u8 0, .int .u8 a0, .int .u8 a1, .int .u8 a2, .int .u8 a3, .int .i64 (s : Int), .int .i64 (t1 : Int), .int .u8 1, .int .u8 c0, .int .u8 c1, .int .u8 c2, .int .u8 c3]) HB.out GE4.out); clear HB B4 B0 B2; have HB := n1_; have B4 := kb_; have B0 := k0_; have B2 := k1_; clear n1_ kb_ k0_ k1_) | ((with_reducible refine gate_dst (N := 19) rfl ?_); refine wpList_load_row rfl 52 (.tmp 4) rfl g4 rfl 52 #[.int .i64 (s : Int), .int .i64 (t0 : Int), .int .u8 0, .int .u8 a0, .int .u8 a1, .int .u8 a2, .int .u8 a3, .int .i64 (s : Int), .int .i64 (t1 : Int), .int .u8 1, .int .u8 c0, .int .u8 c1, .int .u8 c2, .int .u8 c3] (0, 0) _ B4.out Tryd.underlying52 rfl (by kernel_rfl) ?_) | ((with_reducible refine gate_store (t := 52) (p := 20) rfl ?_); refine wpList_store_mid rfl 52 (.tmp 20) (.tmp 19) rfl g2 (s * 14) #[.int .i64 (s : Int), .int .i64 (t0 : Int), .int .u8 0, .int .u8 a0, .int .u8 a1, .int .u8 a2, .int .u8 a3, .int .i64 (s : Int), .int .i64 (t1 : Int), .int .u8 1, .int .u8 c0, .int .u8 c1, .int .u8 c2, .int .u8 c3] rfl rfl (there_blk B2.out (by show s * 14 + 14 ≤ (grA s).size; rw [grA, List.size_toArray, grL_len s (by have := HS.out; omega)]; have := HS.out; omega)) (by kernel_rfl) (by simp [Value.oneCell']) ?_; have k2_ := Aside0.mk (gr_store B2.out HS.out); have k0_ := Aside0.mk ((setCells_far (#[.int .i64 (s : Int), .int .i64 (t0 : Int), .int .u8 0, .int .u8 a0, .int .u8 a1, .int .u8 a2, .int .u8 a3, .int .i64 (s : Int), .int .i64 (t1 : Int), .int .u8 1, .int .u8 c0, .int .u8 c1, .int .u8 c2, .int .u8 c3]).toList (s * 14) g0 NE.out).trans B0.out); have n1_ := Aside0.mk (below_setCells (#[.int .i64 (s : Int), .int .i64 (t0 : Int), .int .u8 0, .int .u8 a0, .int .u8 a1, .int .u8 a2, .int .u8 a3, .int .i64 (s : Int), .int .i64 (t1 : Int), .int .u8 1, .int .u8 c0, .int .u8 c1, .int .u8 c2, .int .u8 c3]).toList (s * 14) HB.out GE2.out); rw [HTW.out, Nat.mul_comm 14 s] at k2_; clear HB B0 B2 B4; have HB := n1_; have B0 := k0_; have B2 := k2_; clear n1_ k0_ k2_))
        go_roundg k1
        case measure => omega
        case rel => exact ⟨s + 1, by first | (simp; done) | (have := HS.out; congr 1; unfold wrap64; omega), ⟨by have := HI.out; have := HS.out; omega⟩, B0, B2, HB⟩
      · have c5 : decide ((s : Int) < 64) = false := decide_eq_false cl
        obtain rfl : s = 64 := by have := HI.out; omega
        clear cl
        obtain ⟨G, hG⟩ : ∃ G, grA 64 = G := ⟨_, rfl⟩
        have hsz : G.size = 896 := by rw [← hG, grA, List.size_toArray, grL_len 64 (by decide)]
        have hsz0 : (grA 0).size = 896 := by rw [grA, List.size_toArray, grL_len 0 (by decide)]
        have hone : G.all (·.oneCell') = true := by rw [← hG, grA]; exact all_oneCell_toArray (grL_one 64)
        rw [hG] at B2
        have SZ := Aside0.mk hsz
        have SZ0 := Aside0.mk hsz0
        have ON := Aside0.mk hone
        have HG := Aside0.mk hG
        clear hsz hsz0 hone hG
        go_wp2_with (first | ((with_reducible refine gate_dst (N := 22) rfl ?_); refine wpList_load_row rfl 54 (.tmp 2) rfl g2 rfl 54 G (0, 0) _ B2.out Tryd.underlying54 rfl (by rw [SZ.out]; kernel_rfl) ?_) | ((with_reducible refine gate_store (t := 54) (p := 0) rfl ?_); refine wpList_store_row rfl 54 (.tmp 0) (.tmp 22) rfl g0 G rfl rfl 54 (grA 0) B0.out (by rw [SZ.out]; kernel_rfl) (by rw [SZ.out, SZ0.out]) ON.out ?_; have kb_ := Aside0.mk (setRow_heap _ g0 (grA 0) G 54 (0, 0) B0.out); have n1_ := Aside0.mk (below_row (g := g0) (cs := G) HB.out GE0.out); clear HB B0 B2; have HB := n1_; have B0 := kb_; clear n1_ kb_))
        refine bodyPost_ret (results_celltmp rfl _ _ g0 54 _ (0, 0) _ rfl B0.out Tryd.underlying54 rfl (by rw [SZ.out]; kernel_rfl)) rfl ?_
        exact ⟨by rw [HG.out]; rfl, HB.out⟩
end Go.Proofs.YteomnlkfnfgkkaaDoor.Q
