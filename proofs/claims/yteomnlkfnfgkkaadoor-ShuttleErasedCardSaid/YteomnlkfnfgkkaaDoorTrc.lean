/- The walk of viterbi.trace: the bits of the way that gives most. No condition of our own. -/
import Derived.Test.YteomnlkfnfgkkaaDoorCol
namespace Go.Proofs.YteomnlkfnfgkkaaDoor.Q
open Go.RowKit Go.Proofs.YteomnlkfnfgkkaaDoorW.PrintWords Go.Proofs.YteomnlkfnfgkkaaDoorW.PrintLast Go.Proofs.YteomnlkfnfgkkaaDoorW.PrintMore
attribute [local go_sem] max2_int min2_int max_two min_two max_three min_three max_four min_four   -- for this text's walks alone
set_option linter.unusedVariables false
set_option linter.unusedSimpArgs false
theorem infB : (Tryd.prog.info? 5).map (fun i => (i.zero, i.size, i.bytes)) = some (some (.int .u8 0), 1, 1) := by kernel_rfl
theorem row_ne {α : Type} {d : Kd α} {e : Nat} {W : World} {base : Nat} {ok : Nat → Prop} {v : Value} {xs : List α} (h : d.R e W base ok v xs) {g t : Nat} {cs : Array Value} (hb : W.heap[g]? = some (.cells cs t (0, 0))) (hne : t ≠ e) : some g ≠ v.ownBlock := by
  obtain ⟨inner, ho⟩ := Kd.R_own h
  rcases ho.2 with ⟨rfl, _⟩ | ⟨g', cap, cur, rfl, _, hh, _⟩
  · simp [Value.ownBlock]
  · intro e'
    obtain rfl : g = g' := by simpa [Value.ownBlock] using e'
    rw [hh] at hb
    simp at hb
    exact hne hb.2.symm
theorem strong {w : World} {base : Nat} {ok : Nat → Prop} {v : Value} {xs : List Int} (h : Kd.R (Kd.int .u8) 5 w base ok v xs) : Kd.R (Kd.int .u8) 5 w base (fun k => v.ownBlock = some k) v xs := ⟨fun k hk => hk, h.2⟩
theorem moveR {w w1 : World} {base : Nat} {ok : Nat → Prop} {v : Value} {xs : List Int} (h : Kd.R (Kd.int .u8) 5 w base ok v xs) (hm : ∀ k, v.ownBlock = some k → k < w.heap.size → w1.heap[k]? = w.heap[k]?) : Kd.R (Kd.int .u8) 5 w1 base ok v xs :=
  Kd.R_mono (Kd.R_step (strong h) hm) (fun k hk => h.1 k hk)
/-- Which edge is taken. -/
def pk (v : Nat → Int) (n T t s : Nat) : Nat := if bestP (yv v t s 0) (colK v n T (T - (t + 1)) (toS s 0)) (yv v t s 1) (colK v n T (T - (t + 1)) (toS s 1)) 1 = colK v n T (T - t) s then 0 else 1
theorem pk_lt (v : Nat → Int) (n T t s : Nat) : pk v n T t s < 2 := by unfold pk; split <;> omega
def trS (v : Nat → Int) (n T : Nat) : Nat → Nat
  | 0 => 0
  | t + 1 => toS (trS v n T t) (pk v n T t (trS v n T t))
theorem trS_lt (v : Nat → Int) (n T : Nat) : ∀ t, trS v n T t < 64
  | 0 => Nat.zero_lt_succ 63
  | t + 1 => toS_lt _ _ (trS_lt v n T t) (pk_lt _ _ _ _ _)
def outL (v : Nat → Int) (n T : Nat) : Nat → List Int
  | 0 => []
  | t + 1 => outL v n T t ++ [((pk v n T t (trS v n T t) : Nat) : Int)]
theorem outL_len (v : Nat → Int) (n T : Nat) : ∀ t, (outL v n T t).length = t
  | 0 => rfl
  | t + 1 => by rw [outL, List.length_append, outL_len v n T t]; rfl
/-- What the walk wants of a state's two edges and of the first one's worth. -/
theorem edge_facts {W : World} (gl off n1 c1' gg cm go o1 T T1 n t s : Nat) (v : Nat → Int) (F : Nat → Int) (hT : t < n ∧ n ≤ T ∧ T1 = T + 1 ∧ s < 64) (hF : ∀ j, j ≤ T → ∀ s, s < 64 → F ((T - j) * 64 + s) = colK v n T j s)
    (hG : W.heap[gg]? = some (.cells (grA 64) 54 (0, 0))) (hC : W.heap[go]? = some (.cells (cellsF (T1 * 64) F) 62 (0, 0))) (hv : ∀ j, j < 4 * T → W.cell? ⟨gl, off + j, none⟩ = some (.int .i64 (v j))) (hn1 : 4 ≤ n1) (ho : o1 = (t + 1) * 64) :
    ∃ (t0 t1 : Nat) (p00 p01 p02 p03 p10 p11 p12 p13 : Int), toS s 0 = t0 ∧ toS s 1 = t1 ∧ t0 < 64 ∧ t1 < 64 ∧ W.rangeAt gg (s * 14) [.int .i64 (s : Int), .int .i64 (t0 : Int), .int .u8 0, .int .u8 p00, .int .u8 p01, .int .u8 p02, .int .u8 p03] ∧ W.rangeAt gg (s * 14 + 7) [.int .i64 (s : Int), .int .i64 (t1 : Int), .int .u8 1, .int .u8 p10, .int .u8 p11, .int .u8 p12, .int .u8 p13] ∧
      (∀ W2, Below W.heap.size W W2 → Calls Tryd.prog 32 #[.slice (some ⟨gl, off + 4 * t, none⟩) n1 c1', .slice (some ⟨gg, s * 14, none⟩) 1 cm, .pointer (some ⟨go, o1, none⟩)] W2 fun e w' => e = .returned (.int .i64 (bestP (yv v t s 0) (colK v n T (T - (t + 1)) (toS s 0)) (yv v t s 1) (colK v n T (T - (t + 1)) (toS s 1)) 1)) ∧ Below W2.heap.size W2 w') := by
  obtain ⟨ht, hn, hT1, hs⟩ := hT
  have cv : ∀ j, j < 4 → W.cell? ⟨gl, off + 4 * t + j, none⟩ = some (.int .i64 (v (4 * t + j))) := by
    intro j hj
    have h := hv (4 * t + j) (by omega)
    rw [← Nat.add_assoc] at h
    exact h
  have cc : ∀ b, b < 2 → W.cell? ⟨go, o1 + toS s b, none⟩ = some (.int .i64 (colK v n T (T - (t + 1)) (toS s b))) := by
    intro b hb2
    have h := toS_lt s b hs hb2
    rw [col_get hC (by omega), ← hF _ (by omega) _ h, ho, show T - (T - (t + 1)) = t + 1 by omega]
  have y0e : yv v t s 0 = gainV (v (4 * t)) (v (4 * t + 1)) (v (4 * t + 2)) (v (4 * t + 3)) (ob (wd s 0) 0) (ob (wd s 0) 1) (ob (wd s 0) 2) (ob (wd s 0) 3) := by rw [yv]
  have y1e : yv v t s 1 = gainV (v (4 * t)) (v (4 * t + 1)) (v (4 * t + 2)) (v (4 * t + 3)) (ob (wd s 1) 0) (ob (wd s 1) 1) (ob (wd s 1) 2) (ob (wd s 1) 3) := by rw [yv]
  have htw : twoL s = [.int .i64 (s : Int), .int .i64 ((wd s 0 / 2 : Nat) : Int), .int .u8 0, .int .u8 (ob (wd s 0) 0), .int .u8 (ob (wd s 0) 1), .int .u8 (ob (wd s 0) 2), .int .u8 (ob (wd s 0) 3), .int .i64 (s : Int), .int .i64 ((wd s 1 / 2 : Nat) : Int), .int .u8 1, .int .u8 (ob (wd s 1) 0), .int .u8 (ob (wd s 1) 1), .int .u8 (ob (wd s 1) 2), .int .u8 (ob (wd s 1) 3)] := by rw [twoL]
  have ht0 : toS s 0 = wd s 0 / 2 := by rw [toS]
  have ht1 : toS s 1 = wd s 1 / 2 := by rw [toS]
  rw [← ht0, ← ht1] at htw
  generalize ob (wd s 0) 0 = p00 at y0e y1e htw
  generalize ob (wd s 0) 1 = p01 at y0e y1e htw
  generalize ob (wd s 0) 2 = p02 at y0e y1e htw
  generalize ob (wd s 0) 3 = p03 at y0e y1e htw
  generalize ob (wd s 1) 0 = p10 at y0e y1e htw
  generalize ob (wd s 1) 1 = p11 at y0e y1e htw
  generalize ob (wd s 1) 2 = p12 at y0e y1e htw
  generalize ob (wd s 1) 3 = p13 at y0e y1e htw
  have c0e := cc 0 (by decide)
  have c1e := cc 1 (by decide)
  have l0e := toS_lt s 0 hs (by decide)
  have l1e := toS_lt s 1 hs (by decide)
  clear cc ht0 ht1
  generalize colK v n T (T - (t + 1)) (toS s 0) = c0 at c0e ⊢
  generalize colK v n T (T - (t + 1)) (toS s 1) = c1 at c1e ⊢
  generalize yv v t s 0 = y0 at y0e ⊢
  generalize yv v t s 1 = y1 at y1e ⊢
  generalize toS s 0 = t0 at htw c0e l0e
  generalize toS s 1 = t1 at htw c1e l1e
  have hr0 := gr_range hG s 0 [.int .i64 (s : Int), .int .i64 (t0 : Int), .int .u8 0, .int .u8 p00, .int .u8 p01, .int .u8 p02, .int .u8 p03] hs (by simp) (fun j hj => by
    rw [htw]
    rcases j with _ | _ | _ | _ | _ | _ | _ | j
    all_goals first | rfl | (simp at hj; omega))
  have hr1 := gr_range hG s 7 [.int .i64 (s : Int), .int .i64 (t1 : Int), .int .u8 1, .int .u8 p10, .int .u8 p11, .int .u8 p12, .int .u8 p13] hs (by simp) (fun j hj => by
    rw [htw]
    rcases j with _ | _ | _ | _ | _ | _ | _ | j
    all_goals first | rfl | (simp at hj; omega))
  rw [Nat.add_zero] at hr0
  refine ⟨t0, t1, p00, p01, p02, p03, p10, p11, p12, p13, rfl, rfl, l0e, l1e, hr0, hr1, fun W2 hb => ?_⟩
  have mv : ∀ (a : Addr) (u : Value), W.cell? a = some u → W2.cell? a = some u := fun a u h => (hb.cell (p := a) (World.block_lt_of_cell? _ _ h)).trans h
  exact best_calls W2 gl (off + 4 * t) n1 c1' gg (s * 14) 1 cm go o1 (v (4 * t)) (v (4 * t + 1)) (v (4 * t + 2)) (v (4 * t + 3)) s 0 p00 p01 p02 p03 t0 s 1 p10 p11 p12 p13 t1 y0 y1 c0 c1 hn1 ⟨by decide, by decide⟩ (mv _ _ (cv 0 (by decide))) (mv _ _ (cv 1 (by decide))) (mv _ _ (cv 2 (by decide))) (mv _ _ (cv 3 (by decide))) (fun j u h => mv _ _ (hr0 j u h)) (fun j u h => mv _ _ (hr1 j u h)) l0e l1e (mv _ _ c0e) (mv _ _ c1e) y0e.symm y1e.symm
set_option maxHeartbeats 8000000 in
set_option maxRecDepth 100000 in
theorem trace_calls (w : World) (gl off cl T n gg go : Nat) (v F : Nat → Int) (hT : n ≤ T ∧ T ≤ 100) (hcl : 4 * T ≤ cl) (hv : ∀ j, j < 4 * T → w.cell? ⟨gl, off + j, none⟩ = some (.int .i64 (v j))) (hG : w.heap[gg]? = some (.cells (grA 64) 54 (0, 0))) (hC : w.heap[go]? = some (.cells (cellsF ((T + 1) * 64) F) 62 (0, 0))) (hF : ∀ j, j ≤ T → ∀ s, s < 64 → F ((T - j) * 64 + s) = colK v n T j s) :
    Calls Tryd.prog 23 #[.slice (some ⟨gl, off, none⟩) (4 * T) cl, .int .i64 (n : Int), .pointer (some ⟨gg, 0, none⟩), .slice (some ⟨go, 0, none⟩) (T + 1) (T + 1)] w fun e w' => ∃ v0, e = .returned v0 ∧ Kd.R (Kd.int .u8) 5 w' w.heap.size (fun _ => True) v0 (outL v n T n) ∧ Below w.heap.size w w' := by
  have HB := Aside0.mk (Below.refl w.heap.size w)
  have HT := Aside0.mk hT
  have HCL := Aside0.mk hcl
  have HV := Aside0.mk hv
  have HG := Aside0.mk hG
  have HC := Aside0.mk hC
  have HF := Aside0.mk hF
  clear hcl hv hG hT hC hF
  obtain ⟨T1, hT1⟩ : ∃ T1, T + 1 = T1 := ⟨_, rfl⟩
  rw [hT1] at HC ⊢
  have HT1 := Aside0.mk hT1.symm
  clear hT1
  go_enter Tryd.func23, Tryd.ntmps23
  go_wp2
  go_loopg [9, 10, 11, 12, 14] (n + 1) (fun kq v9 v10 v11 v12 v14 w' => ∃ (t : Nat), v14 = .int .i64 (t : Int) ∧ v10 = .int .i64 ((trS v n T t : Nat) : Int) ∧ Aside0 (t + kq = n + 1 ∧ t ≤ n) ∧ Aside0 (Kd.R (Kd.int .u8) 5 w' w.heap.size (fun _ => True) v9 (outL v n T t)) ∧ Aside0 (Below w.heap.size w w'))
  case atStart => exact ⟨0, rfl, rfl, ⟨by omega⟩, ⟨Kd.R_nil _ _ _ _ _⟩, HB⟩
  case round =>
    clear HB
    obtain ⟨t, rfl, rfl, HI, HO, HB⟩ := hrel
    cases gk with
    | zero => exact absurd HI.out (by omega)
    | succ k1 =>
      by_cases cl0 : (t : Int) < (n : Int)
      · have c5 : decide ((t : Int) < (n : Int)) = true := decide_eq_true cl0
        have c5n : decide (t < n) = true := decide_eq_true (by omega)
        have htn : t < n := by omega
        obtain ⟨s, hs⟩ : ∃ s, trS v n T t = s := ⟨_, rfl⟩
        have hsl := trS_lt v n T t
        rw [hs] at hsl ⊢
        have HS := Aside0.mk hs
        have HSL := Aside0.mk hsl
        have hx := edge_facts gl off (4 * T - 4 * t) (cl - 4 * t) gg 2 go ((t + 1) * 64) T T1 n t s v F ⟨htn, HT.out.1, HT1.out, hsl⟩ HF.out HG.out HC.out HV.out (by have := HT.out; omega) rfl
        obtain ⟨t0, t1, p00, p01, p02, p03, p10, p11, p12, p13, e0, e1, l0, l1, r0, r1, hcall⟩ := hx
        have X0 := Aside0.mk e0
        have X1 := Aside0.mk e1
        have R0 := Aside0.mk r0
        have R1 := Aside0.mk r1
        have HCALL := Aside0.mk hcall
        have HTN := Aside0.mk htn
        obtain ⟨y, hy⟩ : ∃ y, bestP (yv v t s 0) (colK v n T (T - (t + 1)) (toS s 0)) (yv v t s 1) (colK v n T (T - (t + 1)) (toS s 1)) 1 = y := ⟨_, rfl⟩
        rw [hy] at HCALL
        obtain ⟨z, hz⟩ : ∃ z, colK v n T (T - t) s = z := ⟨_, rfl⟩
        have HZc : Aside0 (w.cell? ⟨go, t * 64 + s, none⟩ = some (.int .i64 z)) := ⟨by rw [col_get HC.out (by have := HT1.out; have := HT.out; omega), ← hz, ← HF.out (T - t) (by omega) s hsl, show T - (T - t) = t by have := HT.out; omega]⟩
        have HPK : Aside0 (pk v n T t s = if y = z then 0 else 1) := ⟨by rw [pk, hy, hz]⟩
        clear hs e0 e1 l0 l1 r0 r1 hcall hy hz
        have a1 : (s < 64) = True := eq_true hsl
        have a2 : ((s : Int) < 64) = True := eq_true (by omega)
        have hw4 : wrap64 (4 * (t : Int)) = 4 * (t : Int) := by have := HT.out; unfold wrap64; omega
        have hw1 : wrap64 ((t : Int) + 1) = (t : Int) + 1 := by have := HT.out; unfold wrap64; omega
        have b0 : t < T := by have := HT.out; omega
        have b2 : (t < T1) = True := eq_true (by have := HT1.out; omega)
        have b3 : ((t : Int) < (T1 : Int)) = True := eq_true (by have := HT1.out; omega)
        have b4 : ((t : Int) + 1 < (T1 : Int)) = True := eq_true (by have := HT1.out; omega)
        have b5 : (t + 1 < T1) = True := eq_true (by have := HT1.out; omega)
        have b6 : 4 * T ≤ cl := HCL.out
        have b7 : (0 ≤ 4 * (t : Int)) = True := eq_true (by omega)
        have b8 : (t ≤ T) = True := eq_true (by omega)
        have b9 : (4 * (t : Int)).toNat = 4 * t := by omega
        have b10 : (cl = 4 * t) = False := eq_false (by omega)
        have b11 : (0 ≤ (t : Int) + 1) = True := eq_true (by omega)
        have hsl1 := slice52 gg (s * 14) 1 (by decide)
        clear cl0 htn hsl
        go_upto_region 7 with (first | ((with_reducible refine gate_dst (N := 22) rfl ?_); refine wpList_load_mid rfl 44 (.tmp 21) rfl gg (s * 14) rfl [.int .i64 (s : Int), .int .i64 (t0 : Int), .int .u8 0, .int .u8 p00, .int .u8 p01, .int .u8 p02, .int .u8 p03] _ (fun j u h => (HB.out.cell (p := ⟨gg, _, none⟩) (World.block_lt_of_cell? _ _ (R0.out j u h))).trans (R0.out j u h)) Tryd.underlying44 rfl (by kernel_rfl) ?_) | ((with_reducible refine gate_dst (N := 12) rfl ?_); refine box_event ?hg (N := 12) ?hd (cs := zero7) (t := 44) ?hr ?_; (case hd => rfl); (case hg => rfl); (case hr => first | (go_simp; done) | (go_simp; rfl)); intro g12 hg w12 hbox hb; have k0_ := Aside0.mk (Kd.R_below HO.out hb); clear HO; have HO := k0_; clear k0_; have n1_ := Aside0.mk (below_step HB.out hb); have GE12 := Aside0.mk ((by rw [hg]; exact (below_size HB.out)) : w.heap.size ≤ g12); have B12 := Aside0.mk hbox; clear HB hb hbox hg; have HB := n1_; clear n1_) | ((with_reducible refine gate_store (t := 44) (p := 12) rfl ?_); refine wpList_store_row rfl 44 (.tmp 12) (.tmp 22) rfl g12 #[.int .i64 (s : Int), .int .i64 (t0 : Int), .int .u8 0, .int .u8 p00, .int .u8 p01, .int .u8 p02, .int .u8 p03] rfl rfl 44 zero7 B12.out (by kernel_rfl) rfl (by simp [Value.oneCell']) ?_; have kb_ := Aside0.mk (setRow_heap _ g12 zero7 #[.int .i64 (s : Int), .int .i64 (t0 : Int), .int .u8 0, .int .u8 p00, .int .u8 p01, .int .u8 p02, .int .u8 p03] 44 (0, 0) B12.out); have k0_ := Aside0.mk (moveR HO.out (fun k hk hlt => setRow_other _ g12 k #[.int .i64 (s : Int), .int .i64 (t0 : Int), .int .u8 0, .int .u8 p00, .int .u8 p01, .int .u8 p02, .int .u8 p03] (fun e => row_ne HO.out B12.out (by decide) (by rw [hk, e])))); have n1_ := Aside0.mk (below_row (g := g12) (cs := #[.int .i64 (s : Int), .int .i64 (t0 : Int), .int .u8 0, .int .u8 p00, .int .u8 p01, .int .u8 p02, .int .u8 p03]) HB.out GE12.out); clear HB B12 HO; have HB := n1_; have B12 := kb_; have HO := k0_; clear n1_ kb_ k0_))
        generalize w12.setRow g12 _ = wr at HB B12 HO ⊢
        have n0_ := Aside0.mk (blk_drew B12.out)
        have n1_ := Aside0.mk (below_drew1 HB.out)
        have n2_ := Aside0.mk (Kd.R_drew HO.out)
        clear B12 HB HO
        have B12 := n0_
        have HB := n1_
        have HO := n2_
        clear n0_ n1_ n2_
        refine start_ (n := 21) (S := fun w' => w'.cell? ⟨go, t * 64 + s, none⟩ = some (.int .i64 z)) (ds := []) #[false, false, false, false, false, false, false, false, false, false, false, false, false, false, false, false, false, false, false, false, false] (by kernel_rfl) rfl rfl ((HB.out.cell (p := ⟨go, t * 64 + s, none⟩) (World.block_lt_of_cell? _ _ HZc.out)).trans HZc.out) (fun hHeld => ?_)
        generalize wr.drew = wx at B12 HB HO hHeld ⊢
        refine pure_ (i := 0) (N := some 23) (v := ?_) (a' := ?_) #[true, false, false, false, false, false, false, false, false, false, false, false, false, false, false, false, false, false, false, false, false] rfl rfl (by kernel_rfl) (fun _ _ _ h => h) (Or.inl ⟨by rfl, ?_⟩) ?_ ?_
        rotate_left
        · intro w'
          go_simp
          with_reducible rfl
        rotate_left
        · simp only [Act.put, List.setIfInBounds_toArray, List.set_cons_zero, List.set_cons_succ, i64_w, i32_w]
          rfl
        refine pure_ (i := 1) (N := some 24) (v := ?_) (a' := ?_) #[true, true, false, false, false, false, false, false, false, false, false, false, false, false, false, false, false, false, false, false, false] rfl rfl (by kernel_rfl) (fun _ _ _ h => h) (Or.inl ⟨by rfl, ?_⟩) ?_ ?_
        rotate_left
        · intro w'
          go_simp
          with_reducible rfl
        rotate_left
        · simp only [Act.put, List.setIfInBounds_toArray, List.set_cons_zero, List.set_cons_succ, i64_w, i32_w]
          rfl
        refine pure_ (i := 2) (N := some 25) (v := ?_) (a' := ?_) #[true, true, true, false, false, false, false, false, false, false, false, false, false, false, false, false, false, false, false, false, false] rfl rfl (by kernel_rfl) (fun _ _ _ h => h) (Or.inl ⟨by rfl, ?_⟩) ?_ ?_
        rotate_left
        · intro w'
          go_simp
          with_reducible rfl
        rotate_left
        · simp only [Act.put, List.setIfInBounds_toArray, List.set_cons_zero, List.set_cons_succ, i64_w, i32_w]
          rfl
        refine pure_ (i := 3) (N := some 26) (v := ?_) (a' := ?_) #[true, true, true, true, false, false, false, false, false, false, false, false, false, false, false, false, false, false, false, false, false] rfl rfl (by kernel_rfl) (fun _ _ _ h => h) (Or.inl ⟨by rfl, ?_⟩) ?_ ?_
        rotate_left
        · intro w'
          go_simp
          with_reducible rfl
        rotate_left
        · simp only [Act.put, List.setIfInBounds_toArray, List.set_cons_zero, List.set_cons_succ, i64_w, i32_w]
          rfl
        refine pure_ (i := 4) (N := some 27) (v := ?_) (a' := ?_) #[true, true, true, true, true, false, false, false, false, false, false, false, false, false, false, false, false, false, false, false, false] rfl rfl (by kernel_rfl) (fun _ _ _ h => h) (Or.inl ⟨by rfl, ?_⟩) ?_ ?_
        rotate_left
        · intro w'
          go_simp
          with_reducible rfl
        rotate_left
        · simp only [Act.put, List.setIfInBounds_toArray, List.set_cons_zero, List.set_cons_succ, i64_w, i32_w]
          rfl
        refine pure_ (i := 5) (N := some 28) (v := ?_) (a' := ?_) #[true, true, true, true, true, true, false, false, false, false, false, false, false, false, false, false, false, false, false, false, false] rfl rfl (by kernel_rfl) (fun _ _ _ h => h) (Or.inl ⟨by rfl, ?_⟩) ?_ ?_
        rotate_left
        · intro w'
          go_simp
          with_reducible rfl
        rotate_left
        · simp only [Act.put, List.setIfInBounds_toArray, List.set_cons_zero, List.set_cons_succ, i64_w, i32_w]
          rfl
        refine pure_ (i := 6) (N := some 29) (v := ?_) (a' := ?_) #[true, true, true, true, true, true, true, false, false, false, false, false, false, false, false, false, false, false, false, false, false] rfl rfl (by kernel_rfl) (fun _ _ _ h => h) (Or.inl ⟨by rfl, ?_⟩) ?_ ?_
        rotate_left
        · intro w'
          go_simp
          with_reducible rfl
        rotate_left
        · simp only [Act.put, List.setIfInBounds_toArray, List.set_cons_zero, List.set_cons_succ, i64_w, i32_w]
          rfl
        refine pure_ (i := 7) (N := some 30) (v := ?_) (a' := ?_) #[true, true, true, true, true, true, true, true, false, false, false, false, false, false, false, false, false, false, false, false, false] rfl rfl (by kernel_rfl) (fun _ _ _ h => h) (Or.inl ⟨by rfl, ?_⟩) ?_ ?_
        rotate_left
        · intro w'
          go_simp
          with_reducible rfl
        rotate_left
        · simp only [Act.put, List.setIfInBounds_toArray, List.set_cons_zero, List.set_cons_succ, i64_w, i32_w]
          rfl
        refine pure_ (i := 8) (N := some 31) (v := ?_) (a' := ?_) #[true, true, true, true, true, true, true, true, true, false, false, false, false, false, false, false, false, false, false, false, false] rfl rfl (by kernel_rfl) (fun _ _ _ h => h) (Or.inl ⟨by rfl, ?_⟩) ?_ ?_
        rotate_left
        · intro w'
          go_simp
          with_reducible rfl
        rotate_left
        · simp only [Act.put, List.setIfInBounds_toArray, List.set_cons_zero, List.set_cons_succ, i64_w, i32_w]
          rfl
        refine pure_ (i := 9) (N := some 32) (v := ?_) (a' := ?_) #[true, true, true, true, true, true, true, true, true, true, false, false, false, false, false, false, false, false, false, false, false] rfl rfl (by kernel_rfl) (fun _ _ _ h => h) (Or.inl ⟨by rfl, ?_⟩) ?_ ?_
        rotate_left
        · intro w'
          go_simp
          with_reducible rfl
        rotate_left
        · simp only [Act.put, List.setIfInBounds_toArray, List.set_cons_zero, List.set_cons_succ, i64_w, i32_w]
          rfl
        refine pure_ (i := 10) (N := some 33) (v := ?_) (a' := ?_) #[true, true, true, true, true, true, true, true, true, true, true, false, false, false, false, false, false, false, false, false, false] rfl rfl (by kernel_rfl) (fun _ _ _ h => h) (Or.inl ⟨by rfl, ?_⟩) ?_ ?_
        rotate_left
        · intro w'
          go_simp
          with_reducible rfl
        rotate_left
        · simp only [Act.put, List.setIfInBounds_toArray, List.set_cons_zero, List.set_cons_succ, i64_w, i32_w]
          rfl
        refine pure_ (i := 11) (N := some 34) (v := ?_) (a' := ?_) #[true, true, true, true, true, true, true, true, true, true, true, true, false, false, false, false, false, false, false, false, false] rfl rfl (by kernel_rfl) (fun _ _ _ h => h) (Or.inl ⟨by rfl, ?_⟩) ?_ ?_
        rotate_left
        · intro w'
          go_simp
          with_reducible rfl
        rotate_left
        · simp only [Act.put, List.setIfInBounds_toArray, List.set_cons_zero, List.set_cons_succ, i64_w, i32_w]
          rfl
        refine pure_ (i := 12) (N := some 35) (v := ?_) (a' := ?_) #[true, true, true, true, true, true, true, true, true, true, true, true, true, false, false, false, false, false, false, false, false] rfl rfl (by kernel_rfl) (fun _ _ _ h => h) (Or.inl ⟨by rfl, ?_⟩) ?_ ?_
        rotate_left
        · intro w'
          go_simp
          with_reducible rfl
        rotate_left
        · simp only [Act.put, List.setIfInBounds_toArray, List.set_cons_zero, List.set_cons_succ, i64_w, i32_w]
          rfl
        refine pure_ (i := 14) (N := some 37) (v := ?_) (a' := ?_) #[true, true, true, true, true, true, true, true, true, true, true, true, true, false, true, false, false, false, false, false, false] rfl rfl (by kernel_rfl) (fun _ _ _ h => h) (Or.inl ⟨by rfl, ?_⟩) ?_ ?_
        rotate_left
        · intro w'
          go_simp
          with_reducible rfl
        rotate_left
        · simp only [Act.put, List.setIfInBounds_toArray, List.set_cons_zero, List.set_cons_succ, i64_w, i32_w]
          rfl
        refine pure_ (i := 15) (N := some 38) (v := ?_) (a' := ?_) #[true, true, true, true, true, true, true, true, true, true, true, true, true, false, true, true, false, false, false, false, false] rfl rfl (by kernel_rfl) (fun _ _ _ h => h) (Or.inl ⟨by rfl, ?_⟩) ?_ ?_
        rotate_left
        · intro w'
          go_simp
          with_reducible rfl
        rotate_left
        · simp only [Act.put, List.setIfInBounds_toArray, List.set_cons_zero, List.set_cons_succ, i64_w, i32_w]
          rfl
        refine pure_ (i := 16) (N := some 39) (v := ?_) (a' := ?_) #[true, true, true, true, true, true, true, true, true, true, true, true, true, false, true, true, true, false, false, false, false] rfl rfl (by kernel_rfl) (fun _ _ _ h => h) (Or.inl ⟨by rfl, ?_⟩) ?_ ?_
        rotate_left
        · intro w'
          go_simp
          with_reducible rfl
        rotate_left
        · simp only [Act.put, List.setIfInBounds_toArray, List.set_cons_zero, List.set_cons_succ, i64_w, i32_w]
          rfl
        refine pure_ (i := 17) (N := some 40) (v := ?_) (a' := ?_) #[true, true, true, true, true, true, true, true, true, true, true, true, true, false, true, true, true, true, false, false, false] rfl rfl (by kernel_rfl) (fun _ _ _ h => h) (Or.inl ⟨by rfl, ?_⟩) ?_ ?_
        rotate_left
        · intro w'
          go_simp
          with_reducible rfl
        rotate_left
        · simp only [Act.put, List.setIfInBounds_toArray, List.set_cons_zero, List.set_cons_succ, i64_w, i32_w]
          rfl
        refine pure_ (i := 18) (N := some 41) (v := ?_) (a' := ?_) #[true, true, true, true, true, true, true, true, true, true, true, true, true, false, true, true, true, true, true, false, false] rfl rfl (by kernel_rfl) (fun _ _ _ h => h) (Or.inl ⟨by rfl, ?_⟩) ?_ ?_
        rotate_left
        · intro w'
          go_simp
          with_reducible rfl
        rotate_left
        · simp only [Act.put, List.setIfInBounds_toArray, List.set_cons_zero, List.set_cons_succ, i64_w, i32_w]
          rfl
        refine take_ (i := 19) (N := some 42) (v := ?_) (a' := ?_) #[true, true, true, true, true, true, true, true, true, true, true, true, true, false, true, true, true, true, true, true, false] rfl rfl (by kernel_rfl) (fun _ _ _ h => h) (Or.inl ⟨by rfl, ?_⟩) hHeld ?_ ?_
        rotate_left
        · intro w' s0
          go_simp
          with_reducible rfl
        rotate_left
        · simp only [Act.put, List.setIfInBounds_toArray, List.set_cons_zero, List.set_cons_succ, i64_w, i32_w]
          rfl
        refine one_ (i := 13) (N := some 36) #[true, true, true, true, true, true, true, true, true, true, true, true, true, true, true, true, true, true, true, true, false] rfl rfl (by kernel_rfl) (by decide) (fun K hK => ?_)
        refine goes_ Tryd.func32 (by kernel_rfl) rfl #[.slice (some ⟨gl, off + 4 * t, none⟩) (4 * T - 4 * t) (cl - 4 * t), .slice (some ⟨gg, s * 14, none⟩) 1 2, .pointer (some ⟨go, (t + 1) * 64, none⟩)] (by rfl) rfl rfl (by simp only [List.map_toArray, List.map_cons, List.map_nil]; rfl) ?_
        with_reducible refine (HCALL.out wx HB.out).mono ?_
        rintro e wc ⟨rfl, hb⟩
        refine ⟨_, rfl, ?_⟩
        have n0_ := Aside0.mk (blk_below B12.out hb)
        have n1_ := Aside0.mk (below_step HB.out hb)
        have n2_ := Aside0.mk (Kd.R_below HO.out hb)
        clear B12 HB HO hb
        have B12 := n0_
        have HB := n1_
        have HO := n2_
        clear n0_ n1_ n2_
        refine hK.out _ _ ((HB.out.cell (p := ⟨go, t * 64 + s, none⟩) (World.block_lt_of_cell? _ _ HZc.out)).trans HZc.out) (fun hHeld => ?_)
        clear hK K
        refine norm_ (a' := ?_) ?_ ?_
        rotate_left
        · show Act.put _ (some 36) _ = _
          simp only [Act.put, List.setIfInBounds_toArray, List.set_cons_zero, List.set_cons_succ, i64_w, i32_w]
          rfl
        refine pure_ (i := 20) (N := some 43) (v := ?_) (a' := ?_) #[true, true, true, true, true, true, true, true, true, true, true, true, true, true, true, true, true, true, true, true, true] rfl rfl (by kernel_rfl) (fun _ _ _ h => h) (Or.inl ⟨by rfl, ?_⟩) ?_ ?_
        rotate_left
        · intro w'
          go_simp
          with_reducible rfl
        rotate_left
        · simp only [Act.put, List.setIfInBounds_toArray, List.set_cons_zero, List.set_cons_succ, i64_w, i32_w]
          rfl
        refine done_ (by kernel_rfl) ?_
        by_cases hyz : y = z
        · have cz : (y != z) = false := by rw [hyz]; simp
          go_upto_region 9 with (fail)
          have hp : pk v n T t s = 0 := by rw [HPK.out, if_pos hyz]
          have hc2 := (blk_cell B12.out 2).trans (show (#[.int .i64 (s : Int), .int .i64 (t0 : Int), .int .u8 0, .int .u8 p00, .int .u8 p01, .int .u8 p02, .int .u8 p03] : Array Value)[2]? = some (.int .u8 0) from rfl)
          have hc1 := (blk_cell B12.out 1).trans (show (#[.int .i64 (s : Int), .int .i64 (t0 : Int), .int .u8 0, .int .u8 p00, .int .u8 p01, .int .u8 p02, .int .u8 p03] : Array Value)[1]? = some (.int .i64 (t0 : Int)) from rfl)
          go_upto_region 10 with (first | ((with_reducible refine gate_builtin (b := .append) (xs := #[.tmp 50, .tmp 53]) rfl ?_); at_builtin; refine Kd.R_append (Kd.int .u8) (w0 := w) w.heap.size rfl (.tmp 50) (.tmp 53) 22 5 (.int .u8 0) 1 rfl Tryd.underlying22 infB rfl (by decide) (by omega) u9 (outL v n T t) 0 [.int .u8 0] (fun _ => True) (fun _ => False) rfl rfl ?aP (fun _ hk => hk.elim) ?aF ?aO ?aB ?aS ?aL ?_; (case aP => exact rfl); (case aB => exact (by repeat (first | (with_reducible first | exact HB.out | apply below_alloc | apply pw_below_drewN | apply below_drew1) | exact HB.out))); (case aF => exact (fun _ _ => trivial)); (case aO => exact (by (with_reducible repeat (first | apply Kd.R_alloc | apply Kd.R_drewN | apply Kd.R_drew)); exact HO.out)); (case aS => exact (below_size (by repeat (first | (with_reducible first | exact HB.out | apply below_alloc | apply pw_below_drewN | apply below_drew1) | exact HB.out)))); (case aL => have h1 := HT.out; have h2 := HTN.out; rw [outL_len]; omega); intro v9 w9 ho hb hg hat; have n0_ := Aside0.mk (blk_grown B12.out hg (row_ne HO.out B12.out (by decide))); have n1_ := Aside0.mk hb; have n2_ := Aside0.mk ho; clear HB HO B12 ho hb hg hat; have B12 := n0_; have HB := n1_; have HO := n2_; clear n0_ n1_ n2_))
          clear hc1 hc2
          have hc1 := (blk_cell B12.out 1).trans (show (#[.int .i64 (s : Int), .int .i64 (t0 : Int), .int .u8 0, .int .u8 p00, .int .u8 p01, .int .u8 p02, .int .u8 p03] : Array Value)[1]? = some (.int .i64 (t0 : Int)) from rfl)
          go_wp2
          go_roundg k1
          case measure => omega
          case rel => exact ⟨t + 1, by first | (rw [hw1]; rfl) | (simp; done), by rw [trS, HS.out, hp, X0.out], ⟨by have h1 := HI.out; have h2 := HTN.out; omega⟩, ⟨by rw [outL, HS.out, hp]; exact HO.out⟩, HB⟩
        · have cz : (y != z) = true := by simp [hyz]
          go_upto_region 9 with (first | ((with_reducible refine gate_dst (N := 49) rfl ?_); refine wpList_load_mid rfl 44 (.tmp 48) rfl gg (s * 14 + 7) rfl [.int .i64 (s : Int), .int .i64 (t1 : Int), .int .u8 1, .int .u8 p10, .int .u8 p11, .int .u8 p12, .int .u8 p13] _ (fun j u h => (HB.out.cell (p := ⟨gg, _, none⟩) (World.block_lt_of_cell? _ _ (R1.out j u h))).trans (R1.out j u h)) Tryd.underlying44 rfl (by kernel_rfl) ?_) | ((with_reducible refine gate_store (t := 44) (p := 12) rfl ?_); refine wpList_store_row rfl 44 (.tmp 12) (.tmp 49) rfl g12 #[.int .i64 (s : Int), .int .i64 (t1 : Int), .int .u8 1, .int .u8 p10, .int .u8 p11, .int .u8 p12, .int .u8 p13] rfl rfl 44 #[.int .i64 (s : Int), .int .i64 (t0 : Int), .int .u8 0, .int .u8 p00, .int .u8 p01, .int .u8 p02, .int .u8 p03] B12.out (by kernel_rfl) rfl (by simp [Value.oneCell']) ?_; have kb_ := Aside0.mk (setRow_heap _ g12 #[.int .i64 (s : Int), .int .i64 (t0 : Int), .int .u8 0, .int .u8 p00, .int .u8 p01, .int .u8 p02, .int .u8 p03] #[.int .i64 (s : Int), .int .i64 (t1 : Int), .int .u8 1, .int .u8 p10, .int .u8 p11, .int .u8 p12, .int .u8 p13] 44 (0, 0) B12.out); have k0_ := Aside0.mk (moveR HO.out (fun k hk hlt => setRow_other _ g12 k #[.int .i64 (s : Int), .int .i64 (t1 : Int), .int .u8 1, .int .u8 p10, .int .u8 p11, .int .u8 p12, .int .u8 p13] (fun e => row_ne HO.out B12.out (by decide) (by rw [hk, e])))); have n1_ := Aside0.mk (below_row (g := g12) (cs := #[.int .i64 (s : Int), .int .i64 (t1 : Int), .int .u8 1, .int .u8 p10, .int .u8 p11, .int .u8 p12, .int .u8 p13]) HB.out GE12.out); clear HB B12 HO; have HB := n1_; have B12 := kb_; have HO := k0_; clear n1_ kb_ k0_))
          generalize World.setRow _ g12 _ = wk at HB B12 HO ⊢
          have hp : pk v n T t s = 1 := by rw [HPK.out, if_neg hyz]
          have hc2 := (blk_cell B12.out 2).trans (show (#[.int .i64 (s : Int), .int .i64 (t1 : Int), .int .u8 1, .int .u8 p10, .int .u8 p11, .int .u8 p12, .int .u8 p13] : Array Value)[2]? = some (.int .u8 1) from rfl)
          have hc1 := (blk_cell B12.out 1).trans (show (#[.int .i64 (s : Int), .int .i64 (t1 : Int), .int .u8 1, .int .u8 p10, .int .u8 p11, .int .u8 p12, .int .u8 p13] : Array Value)[1]? = some (.int .i64 (t1 : Int)) from rfl)
          go_upto_region 10 with (first | ((with_reducible refine gate_builtin (b := .append) (xs := #[.tmp 50, .tmp 53]) rfl ?_); at_builtin; refine Kd.R_append (Kd.int .u8) (w0 := w) w.heap.size rfl (.tmp 50) (.tmp 53) 22 5 (.int .u8 0) 1 rfl Tryd.underlying22 infB rfl (by decide) (by omega) u9 (outL v n T t) 1 [.int .u8 1] (fun _ => True) (fun _ => False) rfl rfl ?aP (fun _ hk => hk.elim) ?aF ?aO ?aB ?aS ?aL ?_; (case aP => exact rfl); (case aB => exact (by repeat (first | (with_reducible first | exact HB.out | apply below_alloc | apply pw_below_drewN | apply below_drew1) | exact HB.out))); (case aF => exact (fun _ _ => trivial)); (case aO => exact (by (with_reducible repeat (first | apply Kd.R_alloc | apply Kd.R_drewN | apply Kd.R_drew)); exact HO.out)); (case aS => exact (below_size (by repeat (first | (with_reducible first | exact HB.out | apply below_alloc | apply pw_below_drewN | apply below_drew1) | exact HB.out)))); (case aL => have h1 := HT.out; have h2 := HTN.out; rw [outL_len]; omega); intro v9 w9 ho hb hg hat; have n0_ := Aside0.mk (blk_grown B12.out hg (row_ne HO.out B12.out (by decide))); have n1_ := Aside0.mk hb; have n2_ := Aside0.mk ho; clear HB HO B12 ho hb hg hat; have B12 := n0_; have HB := n1_; have HO := n2_; clear n0_ n1_ n2_))
          clear hc1 hc2
          have hc1 := (blk_cell B12.out 1).trans (show (#[.int .i64 (s : Int), .int .i64 (t1 : Int), .int .u8 1, .int .u8 p10, .int .u8 p11, .int .u8 p12, .int .u8 p13] : Array Value)[1]? = some (.int .i64 (t1 : Int)) from rfl)
          go_wp2
          go_roundg k1
          case measure => omega
          case rel => exact ⟨t + 1, by first | (rw [hw1]; rfl) | (simp; done), by rw [trS, HS.out, hp, X1.out], ⟨by have h1 := HI.out; have h2 := HTN.out; omega⟩, ⟨by rw [outL, HS.out, hp]; exact HO.out⟩, HB⟩
      · have c5 : decide ((t : Int) < (n : Int)) = false := decide_eq_false cl0
        have c5n : decide (t < n) = false := decide_eq_false (by omega)
        have htn : t = n := by have := HI.out; omega
        have HTN := Aside0.mk htn
        clear cl0 htn
        go_wp2
        go_ret
        exact ⟨_, rfl, by have h := HO.out; rw [HTN.out] at h; exact h, HB.out⟩
end Go.Proofs.YteomnlkfnfgkkaaDoor.Q
