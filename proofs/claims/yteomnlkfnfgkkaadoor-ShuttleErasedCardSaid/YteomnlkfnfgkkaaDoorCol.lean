/- The walk of viterbi.columns: what each state may give from each step on. No condition of our own. -/
import Derived.Test.YteomnlkfnfgkkaaDoorBest
namespace Go.Proofs.YteomnlkfnfgkkaaDoor.Q
open Go.RowKit Go.Proofs.YteomnlkfnfgkkaaDoorW.PrintWords Go.Proofs.YteomnlkfnfgkkaaDoorW.PrintLast Go.Proofs.YteomnlkfnfgkkaaDoorW.PrintMore
attribute [local go_sem] max2_int min2_int max_two min_two max_three min_three max_four min_four   -- for this text's walks alone
set_option linter.unusedVariables false
set_option linter.unusedSimpArgs false
def cellsF (N : Nat) (F : Nat → Int) : Array Value := ((List.range N).map (fun j => Value.int .i64 (F j))).toArray
theorem cellsF_size (N : Nat) (F : Nat → Int) : (cellsF N F).size = N := by simp [cellsF]
theorem cellsF_get (N : Nat) (F : Nat → Int) (j : Nat) (h : j < N) : (cellsF N F)[j]? = some (.int .i64 (F j)) := by simp [cellsF, h]
theorem cellsF_set (N : Nat) (F : Nat → Int) (j : Nat) (v : Int) : (cellsF N F).setIfInBounds j (.int .i64 v) = cellsF N (fun k => if k = j then v else F k) := by
  apply Array.ext_getElem?
  intro k
  rw [Array.getElem?_setIfInBounds, cellsF_size]
  by_cases hk : k < N
  · rw [cellsF_get _ _ k hk, cellsF_get _ _ k hk]
    by_cases e : j = k
    · subst e
      rw [if_pos rfl, if_pos hk, if_pos rfl]
    · rw [if_neg e, if_neg (fun h => e h.symm)]
  · have h0 : ∀ G : Nat → Int, (cellsF N G)[k]? = none := fun G => Array.getElem?_eq_none (by rw [cellsF_size]; omega)
    rw [h0, h0]
    by_cases e : j = k
    · subst e
      rw [if_pos rfl, if_neg hk]
    · rw [if_neg e]
theorem col_get {W : World} {g N : Nat} {F : Nat → Int} (h : W.heap[g]? = some (.cells (cellsF N F) 62 (0, 0))) {j : Nat} (hj : j < N) : W.cell? ⟨g, j, none⟩ = some (.int .i64 (F j)) := (blk_cell h j).trans (cellsF_get N F j hj)
theorem col_put {W : World} {g N : Nat} {F : Nat → Int} (h : W.heap[g]? = some (.cells (cellsF N F) 62 (0, 0))) (j : Nat) (v : Int) : (W.setCell ⟨g, j, none⟩ (.int .i64 v)).heap[g]? = some (.cells (cellsF N (fun k => if k = j then v else F k)) 62 (0, 0)) := blk_put h j _ (cellsF_set N F j v)
theorem make_cols (w : World) (m : Nat) (hm : m ≤ 1000) : (Instr.makeSlice 57 (.int .i64 (m : Int)) (.int .i64 (m : Int))).run Tryd.prog w = .ok (.slice (some ⟨w.heap.size, 0, none⟩) m m) (w.alloc (.cells (cellsF (m * 64) (fun _ => 0)) 62)) := by
  obtain ⟨i0, hi, hz⟩ : ∃ i0, Tryd.prog.info? 62 = some i0 ∧ (i0.zero, i0.size, i0.bytes) = (some (Value.agg (Array.replicate 64 (.int .i64 0))), 64, 512) := by
    have : (Tryd.prog.info? 62).map (fun i => (i.zero, i.size, i.bytes)) = some (some (Value.agg (Array.replicate 64 (.int .i64 0))), 64, 512) := by kernel_rfl
    obtain ⟨i0, h1, h2⟩ := Option.map_eq_some_iff.1 this
    exact ⟨i0, h1, h2⟩
  simp only [Prod.mk.injEq] at hz
  obtain ⟨hz0, hz1, hz2⟩ := hz
  have h := run_make (P := Tryd.prog) (w := w) 57 62 i0 _ Tryd.underlying57 hi hz0 .i64 .i64 (m : Int) (m : Int) (by omega) (by omega) (by rw [hz2]; omega) (by omega)
  rw [Int.toNat_natCast, hz1] at h
  have e : madeCells (Value.agg (Array.replicate 64 (.int .i64 0))).cells (m * 64) = cellsF (m * 64) (fun _ => 0) := by
    apply Array.ext
    · rw [size_madeCells, cellsF_size]
    · intro k h1 h2
      have : k % 64 < 64 := Nat.mod_lt _ (by decide)
      simp [madeCells, cellsF, Value.cells, this]
  rw [e] at h
  exact h
/-- Where an edge leads. -/
def toS (s b : Nat) : Nat := wd s b / 2
theorem toS_lt (s b : Nat) (hs : s < 64) (hb : b < 2) : toS s b < 64 := by have := wd_lt hs hb; unfold toS; omega
def yv (v : Nat → Int) (t s b : Nat) : Int := gainV (v (4 * t)) (v (4 * t + 1)) (v (4 * t + 2)) (v (4 * t + 3)) (ob (wd s b) 0) (ob (wd s b) 1) (ob (wd s b) 2) (ob (wd s b) 3)
def ways (n t : Nat) : Nat := if n ≤ t then 1 else 2
/-- What each state may give, k steps ahead of the end. -/
def colK (v : Nat → Int) (n T : Nat) : Nat → Nat → Int
  | 0, s => if s = 0 then 0 else NO
  | k + 1, s => bestP (yv v (T - (k + 1)) s 0) (colK v n T k (toS s 0)) (yv v (T - (k + 1)) s 1) (colK v n T k (toS s 1)) (ways n (T - (k + 1)))
theorem rowsL_get (j : Nat) (hj : j < 14) : ∀ (m s : Nat), s < m → (rowsL m)[14 * s + j]? = (twoL s)[j]? := by
  intro m
  induction m with
  | zero => intro s h; omega
  | succ m ih =>
    intro s h
    rw [rowsL]
    by_cases c : s < m
    · rw [List.getElem?_append_left (by rw [rowsL_len]; omega), ih s c]
    · obtain rfl : s = m := by omega
      rw [List.getElem?_append_right (by rw [rowsL_len]; omega), rowsL_len, Nat.add_sub_cancel_left]
theorem gr_range {W : World} {g : Nat} (h : W.heap[g]? = some (.cells (grA 64) 54 (0, 0))) (s o : Nat) (cs : List Value) (hs : s < 64) (ho : o + cs.length ≤ 14) (hc : ∀ j, j < cs.length → (twoL s)[o + j]? = cs[j]?) : W.rangeAt g (s * 14 + o) cs := by
  intro j v hv
  have hj : j < cs.length := (List.getElem?_eq_some_iff.1 hv).1
  rw [blk_cell h, ← hv, ← hc j hj, ← rowsL_get (o + j) (by omega) 64 s hs]
  show (grL 64).toArray[s * 14 + o + j]? = _
  rw [List.getElem?_toArray, grL, List.getElem?_append_left (by rw [rowsL_len]; omega), show s * 14 + o + j = 14 * s + (o + j) by omega]
theorem slice52 (g o m : Nat) (hm : m ≤ 2) (w : World) : (Instr.sliceAt 52 (.pointer (some ⟨g, o, none⟩)) none (some (.int .i64 (m : Int))) none).run Tryd.prog w = .ok (.slice (some ⟨g, o, none⟩) m 2) w := by
  have h2 : (m : Int) ≤ 2 := by omega
  simp [Instr.sliceAt, run_underlying Tryd.underlying52, go_sem, h2]
set_option maxHeartbeats 4000000 in
theorem col_best (W : World) (gl off n1 c1' gg cm go o1 T T1 n m k t s : Nat) (v : Nat → Int) (F : Nat → Int) (hT : t = T - (k + 1) ∧ k < T ∧ T1 = T + 1 ∧ s < 64 ∧ ways n t = m) (hF : ∀ s, s < 64 → F ((T - k) * 64 + s) = colK v n T k s)
    {w : World} (hb : Below w.heap.size w W) (hG : w.heap[gg]? = some (.cells (grA 64) 54 (0, 0))) (hC : W.heap[go]? = some (.cells (cellsF (T1 * 64) F) 62 (0, 0))) (hv : ∀ j, j < 4 * T → w.cell? ⟨gl, off + j, none⟩ = some (.int .i64 (v j))) (hn1 : 4 ≤ n1) (ho : o1 = (t + 1) * 64) :
    Calls Tryd.prog 32 #[.slice (some ⟨gl, off + 4 * t, none⟩) n1 c1', .slice (some ⟨gg, s * 14, none⟩) m cm, .pointer (some ⟨go, o1, none⟩)] W fun e w' => e = .returned (.int .i64 (colK v n T (k + 1) s)) ∧ Below W.heap.size W w' := by
  obtain ⟨ht, hk, hT1, hs, hm⟩ := hT
  have hm2 : 1 ≤ m ∧ m ≤ 2 := by rw [← hm]; unfold ways; split <;> omega
  have cv : ∀ j, j < 4 → W.cell? ⟨gl, off + 4 * t + j, none⟩ = some (.int .i64 (v (4 * t + j))) := by
    intro j hj
    have h := hv (4 * t + j) (by omega)
    rw [← Nat.add_assoc] at h
    exact (hb.cell (p := ⟨gl, off + 4 * t + j, none⟩) (World.block_lt_of_cell? _ _ h)).trans h
  have hGW := blk_below hG hb
  have cc : ∀ b, b < 2 → W.cell? ⟨go, o1 + toS s b, none⟩ = some (.int .i64 (colK v n T k (toS s b))) := by
    intro b hb2
    have h := toS_lt s b hs hb2
    rw [col_get hC (by omega), ← hF _ h, ho, show T - k = t + 1 by omega]
  have y0e : yv v t s 0 = gainV (v (4 * t)) (v (4 * t + 1)) (v (4 * t + 2)) (v (4 * t + 3)) (ob (wd s 0) 0) (ob (wd s 0) 1) (ob (wd s 0) 2) (ob (wd s 0) 3) := by rw [yv]
  have y1e : yv v t s 1 = gainV (v (4 * t)) (v (4 * t + 1)) (v (4 * t + 2)) (v (4 * t + 3)) (ob (wd s 1) 0) (ob (wd s 1) 1) (ob (wd s 1) 2) (ob (wd s 1) 3) := by rw [yv]
  have htw : twoL s = [.int .i64 (s : Int), .int .i64 ((wd s 0 / 2 : Nat) : Int), .int .u8 0, .int .u8 (ob (wd s 0) 0), .int .u8 (ob (wd s 0) 1), .int .u8 (ob (wd s 0) 2), .int .u8 (ob (wd s 0) 3), .int .i64 (s : Int), .int .i64 ((wd s 1 / 2 : Nat) : Int), .int .u8 1, .int .u8 (ob (wd s 1) 0), .int .u8 (ob (wd s 1) 1), .int .u8 (ob (wd s 1) 2), .int .u8 (ob (wd s 1) 3)] := by rw [twoL]
  have ht0 : toS s 0 = wd s 0 / 2 := by rw [toS]
  have ht1 : toS s 1 = wd s 1 / 2 := by rw [toS]
  rw [← ht0, ← ht1] at htw
  generalize ob (wd s 0) 0 = p00 at y0e y1e htw
  generalize ob (wd s 0) 1 = p01 at y0e y1e htw
  generalize ob (wd s 0) 2 = p02 at y0e y1e htw
  generalize ob (wd s 0) 3 = p03 at y0e y1e htw
  generalize ob (wd s 1) 0 = p10 at y0e y1e htw
  generalize ob (wd s 1) 1 = p11 at y0e y1e htw
  generalize ob (wd s 1) 2 = p12 at y0e y1e htw
  generalize ob (wd s 1) 3 = p13 at y0e y1e htw
  have hr0 := gr_range hGW s 0 [.int .i64 (s : Int), .int .i64 ((toS s 0 : Nat) : Int), .int .u8 0, .int .u8 p00, .int .u8 p01, .int .u8 p02, .int .u8 p03] hs (by simp) (fun j hj => by
    rw [htw]
    rcases j with _ | _ | _ | _ | _ | _ | _ | j
    all_goals first | rfl | (simp at hj; omega))
  have hr1 := gr_range hGW s 7 [.int .i64 (s : Int), .int .i64 ((toS s 1 : Nat) : Int), .int .u8 1, .int .u8 p10, .int .u8 p11, .int .u8 p12, .int .u8 p13] hs (by simp) (fun j hj => by
    rw [htw]
    rcases j with _ | _ | _ | _ | _ | _ | _ | j
    all_goals first | rfl | (simp at hj; omega))
  rw [Nat.add_zero] at hr0
  have c0e := cc 0 (by decide)
  have c1e := cc 1 (by decide)
  have l0e := toS_lt s 0 hs (by decide)
  have l1e := toS_lt s 1 hs (by decide)
  have e : colK v n T (k + 1) s = bestP (yv v t s 0) (colK v n T k (toS s 0)) (yv v t s 1) (colK v n T k (toS s 1)) m := by
    rw [colK, ← ht, hm]
  rw [e]
  clear e cc htw ht0 ht1
  generalize colK v n T k (toS s 0) = c0 at c0e ⊢
  generalize colK v n T k (toS s 1) = c1 at c1e ⊢
  generalize yv v t s 0 = y0 at y0e ⊢
  generalize yv v t s 1 = y1 at y1e ⊢
  generalize toS s 0 = t0 at hr0 c0e l0e
  generalize toS s 1 = t1 at hr1 c1e l1e
  exact best_calls W gl (off + 4 * t) n1 c1' gg (s * 14) m cm go o1 (v (4 * t)) (v (4 * t + 1)) (v (4 * t + 2)) (v (4 * t + 3)) s 0 p00 p01 p02 p03 t0 s 1 p10 p11 p12 p13 t1 y0 y1 c0 c1 hn1 hm2 (cv 0 (by decide)) (cv 1 (by decide)) (cv 2 (by decide)) (cv 3 (by decide)) hr0 hr1 l0e l1e c0e c1e y0e.symm y1e.symm
set_option maxHeartbeats 8000000 in
set_option maxRecDepth 100000 in
theorem columns_calls (w : World) (gl off cl T n gg : Nat) (v : Nat → Int) (hT : 1 ≤ T ∧ T ≤ 100) (hcl : 4 * T ≤ cl) (hv : ∀ j, j < 4 * T → w.cell? ⟨gl, off + j, none⟩ = some (.int .i64 (v j))) (hG : w.heap[gg]? = some (.cells (grA 64) 54 (0, 0))) (hn : n ≤ T) :
    Calls Tryd.prog 22 #[.slice (some ⟨gl, off, none⟩) (4 * T) cl, .int .i64 (n : Int), .pointer (some ⟨gg, 0, none⟩)] w fun e w' => e = .returned (.slice (some ⟨w.heap.size, 0, none⟩) (T + 1) (T + 1)) ∧ (∃ F : Nat → Int, w'.heap[w.heap.size]? = some (.cells (cellsF ((T + 1) * 64) F) 62 (0, 0)) ∧ ∀ j, j ≤ T → ∀ s, s < 64 → F ((T - j) * 64 + s) = colK v n T j s) ∧ Below w.heap.size w w' := by
  have HB := Aside0.mk (Below.refl w.heap.size w)
  have HT := Aside0.mk hT
  have HCL := Aside0.mk hcl
  have HV := Aside0.mk hv
  have HG := Aside0.mk hG
  have HN := Aside0.mk hn
  clear hcl hv hG hn hT
  obtain ⟨T1, hT1⟩ : ∃ T1, T1 = T + 1 := ⟨_, rfl⟩
  have HT1 := Aside0.mk hT1
  have hd : wrap64 (T : Int) = (T : Int) := by have := HT.out; unfold wrap64; omega
  have hd1 : wrap64 ((T : Int) + 1) = (T1 : Int) := by have := HT.out; unfold wrap64; omega
  have hmk := make_cols w T1 (by have := HT.out; omega)
  have hlt : (T < T1) = True := eq_true (by omega)
  have hlt2 : ((T : Int) < (T1 : Int)) = True := eq_true (by omega)
  clear hT1
  go_enter Tryd.func22, Tryd.ntmps22
  go_upto_region 3 with (fail)
  have n0_ := Aside0.mk (HB.out.alloc (Nat.le_refl _) (Obj.cells (cellsF (T1 * 64) (fun _ => 0)) 62))
  have CB : Aside0 ((w.alloc (Obj.cells (cellsF (T1 * 64) (fun _ => 0)) 62)).heap[w.heap.size]? = some (.cells (cellsF (T1 * 64) (fun _ => 0)) 62 (0, 0))) := ⟨heap_alloc_new w _⟩
  clear hmk HB
  have HB := n0_
  clear n0_
  have GE := Aside0.mk (Nat.le_refl w.heap.size)
  generalize hgo : w.heap.size = go at CB GE ⊢
  rw [show go = go from rfl]
  generalize hwq : w.alloc (Obj.cells (cellsF (T1 * 64) (fun _ => 0)) 62) = wq at CB HB ⊢
  rw [hd]
  have NE : Aside0 (gg ≠ go) := ⟨by rw [← hgo]; exact Nat.ne_of_lt (blk_lt HG.out)⟩
  go_wp2
  go_loopg [9, 19] 65 (fun kq v9 v19 w' => ∃ (s : Nat) (F : Nat → Int), v19 = .int .i64 (s : Int) ∧ Aside0 (s + kq = 65 ∧ s ≤ 64) ∧ Aside0 (∀ j, j < s → F (T * 64 + j) = NO) ∧ Aside0 (w'.heap[go]? = some (.cells (cellsF (T1 * 64) F) 62 (0, 0))) ∧ Aside0 (Below w.heap.size w w'))
  case atStart => exact ⟨0, _, rfl, ⟨by omega⟩, ⟨fun j hj => by omega⟩, CB, HB⟩
  case round =>
    clear CB HB
    obtain ⟨s, F, rfl, HI, HF, CB, HB⟩ := hrel
    cases gk with
    | zero => exact absurd HI.out (by omega)
    | succ k1 =>
      by_cases cl : (s : Int) < 64
      · have c5 : decide ((s : Int) < 64) = true := decide_eq_true cl
        have hs : s < 64 := by omega
        have hs1 : (s < 64) = True := eq_true hs
        have hs2 : ((s : Int) < 64) = True := eq_true cl
        have HS := Aside0.mk hs
        have hcell := col_get CB.out (j := T * 64 + s) (by have := HT1.out; omega)
        have hfz := blk_frozen CB.out (T * 64 + s)
        clear cl hs
        go_wp2
        go_roundg k1
        case measure => omega
        case rel => exact ⟨s + 1, _, by first | (simp; done) | (have := HS.out; congr 1; unfold wrap64; omega), ⟨by have := HI.out; have := HS.out; omega⟩, ⟨fun j hj => by
          by_cases e : j = s
          · subst e; exact if_pos rfl
          · rw [if_neg (by omega)]; exact HF.out j (by omega)⟩, ⟨col_put CB.out (T * 64 + s) NO⟩, ⟨HB.out.setCell (p := ⟨go, T * 64 + s, none⟩) (by rw [hgo]; exact Nat.le_refl _) _⟩⟩
      · have c5 : decide ((s : Int) < 64) = false := decide_eq_false cl
        obtain rfl : s = 64 := by have := HI.out; omega
        clear cl
        have hcell := col_get CB.out (j := T * 64) (by have := HT1.out; omega)
        have hfz := blk_frozen CB.out (T * 64)
        have hT2 : wrap64 ((T : Int) - 1) = (T : Int) - 1 := by have := HT.out; unfold wrap64; omega
        go_wp2
        clear hcell hfz
        rw [hT2]
        have n0_ := Aside0.mk (col_put CB.out (T * 64) 0)
        have n1_ := Aside0.mk (HB.out.setCell (p := ⟨go, T * 64, none⟩) (by rw [hgo]; exact Nat.le_refl _) (.int .i64 0))
        clear CB HB
        have CB := n0_
        have HB := n1_
        clear n0_ n1_
        go_loopg [10, 11, 12, 41] (T + 1) (fun kq v10 v11 v12 v41 w' => ∃ (k : Nat) (x : Int) (F : Nat → Int), v10 = .int .i64 x ∧ Aside0 (x = (T : Int) - 1 - k ∧ k ≤ T ∧ k + kq = T + 1) ∧ Aside0 (∀ j, j ≤ k → ∀ s, s < 64 → F ((T - j) * 64 + s) = colK v n T j s) ∧ Aside0 (w'.heap[go]? = some (.cells (cellsF (T1 * 64) F) 62 (0, 0))) ∧ Aside0 (Below w.heap.size w w'))
        case atStart => exact ⟨0, _, _, rfl, ⟨by omega⟩, ⟨fun j hj s hs => by
          obtain rfl : j = 0 := by omega
          rw [Nat.sub_zero, colK]
          by_cases e : s = 0
          · subst e; rw [if_pos rfl]; exact if_pos rfl
          · rw [if_neg e]
            show (if T * 64 + s = T * 64 then 0 else F (T * 64 + s)) = NO
            rw [if_neg (by omega)]; exact HF.out s hs⟩, CB, HB⟩
        case round =>
          clear CB HB HF
          obtain ⟨k, x, F, rfl, HK, HF, CB, HB⟩ := hrel
          cases gk with
          | zero => exact absurd HK.out (by omega)
          | succ k2 =>
            by_cases cx : k < T
            · obtain ⟨t, ht⟩ : ∃ t, t = T - (k + 1) := ⟨_, rfl⟩
              have hx : x = (t : Int) := by have := HK.out; omega
              subst hx
              have ht2 : t < T := by omega
              have HTT := Aside0.mk ht
              have HT2 := Aside0.mk ht2
              have CX := Aside0.mk cx
              have c6 : decide ((t : Int) ≥ 0) = true := decide_eq_true (by omega)
              clear ht ht2 cx
              go_upto_if 40 with (fail)
              go_cut [11] (fun v11 wc => v11 = .int .i64 ((ways n t : Nat) : Int) ∧ wc = wr)
              case first =>
                by_cases cn : n ≤ t
                · have c7 : decide ((t : Int) ≥ (n : Int)) = true := decide_eq_true (by omega)
                  have hw : ways n t = 1 := if_pos cn
                  go_wp2
                  go_meet
                  case rel => exact ⟨by rw [hw]; rfl, rfl⟩
                · have c7 : decide ((t : Int) ≥ (n : Int)) = false := decide_eq_false (by omega)
                  have hw : ways n t = 2 := if_neg cn
                  go_wp2
                  go_meet
                  case rel => exact ⟨by rw [hw]; rfl, rfl⟩
              case rest =>
                obtain ⟨rfl, rfl⟩ := hcut
                obtain ⟨m, hm⟩ : ∃ m, ways n t = m := ⟨_, rfl⟩
                have hm2 : 1 ≤ m ∧ m ≤ 2 := by rw [← hm]; unfold ways; split <;> omega
                rw [hm]
                have HM := Aside0.mk hm
                have HM2 := Aside0.mk hm2
                clear hm hm2
                go_wp2
                go_loopg [12, 41] 65 (fun kq v12 v41 w' => ∃ (s : Nat) (F : Nat → Int), v41 = .int .i64 (s : Int) ∧ Aside0 (s + kq = 65 ∧ s ≤ 64) ∧ Aside0 (∀ j, j ≤ k → ∀ s, s < 64 → F ((T - j) * 64 + s) = colK v n T j s) ∧ Aside0 (∀ j, j < s → F (t * 64 + j) = colK v n T (k + 1) j) ∧ Aside0 (w'.heap[go]? = some (.cells (cellsF (T1 * 64) F) 62 (0, 0))) ∧ Aside0 (Below w.heap.size w w'))
                case atStart => exact ⟨0, F, rfl, ⟨by omega⟩, HF, ⟨fun j hj => by omega⟩, CB, HB⟩
                case round =>
                  clear CB HB HF
                  obtain ⟨s, F, rfl, HI, HF, HF2, CB, HB⟩ := hrel
                  cases gk with
                  | zero => exact absurd HI.out (by omega)
                  | succ k3 =>
                    by_cases cl : (s : Int) < 64
                    · have c8 : decide ((s : Int) < 64) = true := decide_eq_true cl
                      have hs : s < 64 := by omega
                      have hs1 : (s < 64) = True := eq_true hs
                      have hs2 : ((s : Int) < 64) = True := eq_true cl
                      have HS := Aside0.mk hs
                      clear cl hs
                      have hw4 : wrap64 (4 * (t : Int)) = 4 * (t : Int) := by have := HT.out; have := HT2.out; unfold wrap64; omega
                      have hw1 : wrap64 ((t : Int) + 1) = (t : Int) + 1 := by have := HT.out; have := HT2.out; unfold wrap64; omega
                      have b0 : t < T := HT2.out
                      have b1 : m ≤ 2 := HM2.out.2
                      have b2 : (t < T1) = True := eq_true (by have := HT1.out; omega)
                      have b3 : ((t : Int) < (T1 : Int)) = True := eq_true (by have := HT1.out; omega)
                      have b4 : ((t : Int) + 1 < (T1 : Int)) = True := eq_true (by have := HT1.out; omega)
                      have b5 : (t + 1 < T1) = True := eq_true (by have := HT1.out; omega)
                      have b6 : 4 * T ≤ cl := HCL.out
                      have b7 : (0 ≤ 4 * (t : Int)) = True := eq_true (by omega)
                      have b8 : (t ≤ T) = True := eq_true (by omega)
                      have b9 : (4 * (t : Int)).toNat = 4 * t := by omega
                      have b10 : (cl = 4 * t) = False := eq_false (by omega)
                      have b11 : (0 ≤ (t : Int) + 1) = True := eq_true (by omega)
                      have hsl := slice52 gg (s * 14) m HM2.out.2
                      go_upto_region 18 with (fail)
                      have n0_ := Aside0.mk (blk_drew CB.out)
                      have n1_ := Aside0.mk (below_drew1 HB.out)
                      clear CB HB
                      have CB := n0_
                      have HB := n1_
                      clear n0_ n1_
                      refine start_ (n := 21) (S := fun w' => True) (ds := []) #[false, false, false, false, false, false, false, false, false, false, false, false, false, false, false, false, false, false, false, false, false] (by kernel_rfl) rfl rfl trivial (fun hHeld => ?_)
                      generalize wr.drew = wx at CB HB hHeld ⊢
                      refine pure_ (i := 0) (N := some 44) (v := ?_) (a' := ?_) #[true, false, false, false, false, false, false, false, false, false, false, false, false, false, false, false, false, false, false, false, false] rfl rfl (by kernel_rfl) (fun _ _ _ h => h) (Or.inl ⟨by rfl, ?_⟩) ?_ ?_
                      rotate_left
                      · intro w'
                        go_simp
                        with_reducible rfl
                      rotate_left
                      · simp only [Act.put, List.setIfInBounds_toArray, List.set_cons_zero, List.set_cons_succ, i64_w, i32_w]
                        rfl
                      refine pure_ (i := 1) (N := some 45) (v := ?_) (a' := ?_) #[true, true, false, false, false, false, false, false, false, false, false, false, false, false, false, false, false, false, false, false, false] rfl rfl (by kernel_rfl) (fun _ _ _ h => h) (Or.inl ⟨by rfl, ?_⟩) ?_ ?_
                      rotate_left
                      · intro w'
                        go_simp
                        with_reducible rfl
                      rotate_left
                      · simp only [Act.put, List.setIfInBounds_toArray, List.set_cons_zero, List.set_cons_succ, i64_w, i32_w]
                        rfl
                      refine pure_ (i := 2) (N := some 46) (v := ?_) (a' := ?_) #[true, true, true, false, false, false, false, false, false, false, false, false, false, false, false, false, false, false, false, false, false] rfl rfl (by kernel_rfl) (fun _ _ _ h => h) (Or.inl ⟨by rfl, ?_⟩) ?_ ?_
                      rotate_left
                      · intro w'
                        go_simp
                        with_reducible rfl
                      rotate_left
                      · simp only [Act.put, List.setIfInBounds_toArray, List.set_cons_zero, List.set_cons_succ, i64_w, i32_w]
                        rfl
                      refine pure_ (i := 3) (N := some 47) (v := ?_) (a' := ?_) #[true, true, true, true, false, false, false, false, false, false, false, false, false, false, false, false, false, false, false, false, false] rfl rfl (by kernel_rfl) (fun _ _ _ h => h) (Or.inl ⟨by rfl, ?_⟩) ?_ ?_
                      rotate_left
                      · intro w'
                        go_simp
                        with_reducible rfl
                      rotate_left
                      · simp only [Act.put, List.setIfInBounds_toArray, List.set_cons_zero, List.set_cons_succ, i64_w, i32_w]
                        rfl
                      refine pure_ (i := 4) (N := some 48) (v := ?_) (a' := ?_) #[true, true, true, true, true, false, false, false, false, false, false, false, false, false, false, false, false, false, false, false, false] rfl rfl (by kernel_rfl) (fun _ _ _ h => h) (Or.inl ⟨by rfl, ?_⟩) ?_ ?_
                      rotate_left
                      · intro w'
                        go_simp
                        with_reducible rfl
                      rotate_left
                      · simp only [Act.put, List.setIfInBounds_toArray, List.set_cons_zero, List.set_cons_succ, i64_w, i32_w]
                        rfl
                      refine pure_ (i := 5) (N := some 49) (v := ?_) (a' := ?_) #[true, true, true, true, true, true, false, false, false, false, false, false, false, false, false, false, false, false, false, false, false] rfl rfl (by kernel_rfl) (fun _ _ _ h => h) (Or.inl ⟨by rfl, ?_⟩) ?_ ?_
                      rotate_left
                      · intro w'
                        go_simp
                        with_reducible rfl
                      rotate_left
                      · simp only [Act.put, List.setIfInBounds_toArray, List.set_cons_zero, List.set_cons_succ, i64_w, i32_w]
                        rfl
                      refine pure_ (i := 6) (N := some 50) (v := ?_) (a' := ?_) #[true, true, true, true, true, true, true, false, false, false, false, false, false, false, false, false, false, false, false, false, false] rfl rfl (by kernel_rfl) (fun _ _ _ h => h) (Or.inl ⟨by rfl, ?_⟩) ?_ ?_
                      rotate_left
                      · intro w'
                        go_simp
                        with_reducible rfl
                      rotate_left
                      · simp only [Act.put, List.setIfInBounds_toArray, List.set_cons_zero, List.set_cons_succ, i64_w, i32_w]
                        rfl
                      refine pure_ (i := 7) (N := some 51) (v := ?_) (a' := ?_) #[true, true, true, true, true, true, true, true, false, false, false, false, false, false, false, false, false, false, false, false, false] rfl rfl (by kernel_rfl) (fun _ _ _ h => h) (Or.inl ⟨by rfl, ?_⟩) ?_ ?_
                      rotate_left
                      · intro w'
                        go_simp
                        with_reducible rfl
                      rotate_left
                      · simp only [Act.put, List.setIfInBounds_toArray, List.set_cons_zero, List.set_cons_succ, i64_w, i32_w]
                        rfl
                      refine pure_ (i := 8) (N := some 52) (v := ?_) (a' := ?_) #[true, true, true, true, true, true, true, true, true, false, false, false, false, false, false, false, false, false, false, false, false] rfl rfl (by kernel_rfl) (fun _ _ _ h => h) (Or.inl ⟨by rfl, ?_⟩) ?_ ?_
                      rotate_left
                      · intro w'
                        go_simp
                        with_reducible rfl
                      rotate_left
                      · simp only [Act.put, List.setIfInBounds_toArray, List.set_cons_zero, List.set_cons_succ, i64_w, i32_w]
                        rfl
                      refine pure_ (i := 9) (N := some 53) (v := ?_) (a' := ?_) #[true, true, true, true, true, true, true, true, true, true, false, false, false, false, false, false, false, false, false, false, false] rfl rfl (by kernel_rfl) (fun _ _ _ h => h) (Or.inl ⟨by rfl, ?_⟩) ?_ ?_
                      rotate_left
                      · intro w'
                        go_simp
                        with_reducible rfl
                      rotate_left
                      · simp only [Act.put, List.setIfInBounds_toArray, List.set_cons_zero, List.set_cons_succ, i64_w, i32_w]
                        rfl
                      refine pure_ (i := 10) (N := some 54) (v := ?_) (a' := ?_) #[true, true, true, true, true, true, true, true, true, true, true, false, false, false, false, false, false, false, false, false, false] rfl rfl (by kernel_rfl) (fun _ _ _ h => h) (Or.inl ⟨by rfl, ?_⟩) ?_ ?_
                      rotate_left
                      · intro w'
                        go_simp
                        with_reducible rfl
                      rotate_left
                      · simp only [Act.put, List.setIfInBounds_toArray, List.set_cons_zero, List.set_cons_succ, i64_w, i32_w]
                        rfl
                      refine pure_ (i := 11) (N := some 55) (v := ?_) (a' := ?_) #[true, true, true, true, true, true, true, true, true, true, true, true, false, false, false, false, false, false, false, false, false] rfl rfl (by kernel_rfl) (fun _ _ _ h => h) (Or.inl ⟨by rfl, ?_⟩) ?_ ?_
                      rotate_left
                      · intro w'
                        go_simp
                        with_reducible rfl
                      rotate_left
                      · simp only [Act.put, List.setIfInBounds_toArray, List.set_cons_zero, List.set_cons_succ, i64_w, i32_w]
                        rfl
                      refine pure_ (i := 12) (N := some 56) (v := ?_) (a' := ?_) #[true, true, true, true, true, true, true, true, true, true, true, true, true, false, false, false, false, false, false, false, false] rfl rfl (by kernel_rfl) (fun _ _ _ h => h) (Or.inl ⟨by rfl, ?_⟩) ?_ ?_
                      rotate_left
                      · intro w'
                        go_simp
                        with_reducible rfl
                      rotate_left
                      · simp only [Act.put, List.setIfInBounds_toArray, List.set_cons_zero, List.set_cons_succ, i64_w, i32_w]
                        rfl
                      refine pure_ (i := 13) (N := some 57) (v := ?_) (a' := ?_) #[true, true, true, true, true, true, true, true, true, true, true, true, true, true, false, false, false, false, false, false, false] rfl rfl (by kernel_rfl) (fun _ _ _ h => h) (Or.inl ⟨by rfl, ?_⟩) ?_ ?_
                      rotate_left
                      · intro w'
                        go_simp
                        with_reducible rfl
                      rotate_left
                      · simp only [Act.put, List.setIfInBounds_toArray, List.set_cons_zero, List.set_cons_succ, i64_w, i32_w]
                        rfl
                      refine pure_ (i := 14) (N := some 58) (v := ?_) (a' := ?_) #[true, true, true, true, true, true, true, true, true, true, true, true, true, true, true, false, false, false, false, false, false] rfl rfl (by kernel_rfl) (fun _ _ _ h => h) (Or.inl ⟨by rfl, ?_⟩) ?_ ?_
                      rotate_left
                      · intro w'
                        go_simp
                        with_reducible rfl
                      rotate_left
                      · simp only [Act.put, List.setIfInBounds_toArray, List.set_cons_zero, List.set_cons_succ, i64_w, i32_w]
                        rfl
                      refine pure_ (i := 15) (N := some 59) (v := ?_) (a' := ?_) #[true, true, true, true, true, true, true, true, true, true, true, true, true, true, true, true, false, false, false, false, false] rfl rfl (by kernel_rfl) (fun _ _ _ h => h) (Or.inl ⟨by rfl, ?_⟩) ?_ ?_
                      rotate_left
                      · intro w'
                        go_simp
                        with_reducible rfl
                      rotate_left
                      · simp only [Act.put, List.setIfInBounds_toArray, List.set_cons_zero, List.set_cons_succ, i64_w, i32_w]
                        rfl
                      refine pure_ (i := 16) (N := some 60) (v := ?_) (a' := ?_) #[true, true, true, true, true, true, true, true, true, true, true, true, true, true, true, true, true, false, false, false, false] rfl rfl (by kernel_rfl) (fun _ _ _ h => h) (Or.inl ⟨by rfl, ?_⟩) ?_ ?_
                      rotate_left
                      · intro w'
                        go_simp
                        with_reducible rfl
                      rotate_left
                      · simp only [Act.put, List.setIfInBounds_toArray, List.set_cons_zero, List.set_cons_succ, i64_w, i32_w]
                        rfl
                      refine pure_ (i := 18) (N := some 62) (v := ?_) (a' := ?_) #[true, true, true, true, true, true, true, true, true, true, true, true, true, true, true, true, true, false, true, false, false] rfl rfl (by kernel_rfl) (fun _ _ _ h => h) (Or.inl ⟨by rfl, ?_⟩) ?_ ?_
                      rotate_left
                      · intro w'
                        go_simp
                        with_reducible rfl
                      rotate_left
                      · simp only [Act.put, List.setIfInBounds_toArray, List.set_cons_zero, List.set_cons_succ, i64_w, i32_w]
                        rfl
                      refine one_ (i := 17) (N := some 61) #[true, true, true, true, true, true, true, true, true, true, true, true, true, true, true, true, true, true, true, false, false] rfl rfl (by kernel_rfl) (by decide) (fun K hK => ?_)
                      refine goes_ Tryd.func32 (by kernel_rfl) rfl #[.slice (some ⟨gl, off + 4 * t, none⟩) (4 * T - 4 * t) (cl - 4 * t), .slice (some ⟨gg, s * 14, none⟩) m 2, .pointer (some ⟨go, (t + 1) * 64, none⟩)] (by rfl) rfl rfl (by simp only [List.map_toArray, List.map_cons, List.map_nil]; rfl) ?_
                      with_reducible refine (col_best wx gl off (4 * T - 4 * t) (cl - 4 * t) gg 2 go ((t + 1) * 64) T T1 n m k t s v F ⟨HTT.out, CX.out, HT1.out, HS.out, HM.out⟩ (HF.out k (Nat.le_refl _)) HB.out HG.out CB.out HV.out (by have := HT2.out; omega) rfl).mono ?_
                      rintro e wc ⟨rfl, hb⟩
                      refine ⟨_, rfl, ?_⟩
                      have n0_ := Aside0.mk (blk_below CB.out hb)
                      have n1_ := Aside0.mk (below_step HB.out hb)
                      clear CB HB hb
                      have CB := n0_
                      have HB := n1_
                      clear n0_ n1_
                      have hcell := col_get CB.out (j := t * 64 + s) (by have := HT1.out; have := HT2.out; have := HS.out; omega)
                      have hfz := blk_frozen CB.out (t * 64 + s)
                      refine hK.out _ _ trivial (fun hHeld => ?_)
                      clear hK K
                      refine norm_ (a' := ?_) ?_ ?_
                      rotate_left
                      · show Act.put _ (some 61) _ = _
                        simp only [Act.put, List.setIfInBounds_toArray, List.set_cons_zero, List.set_cons_succ, i64_w, i32_w]
                        rfl
                      refine pure_ (i := 19) (N := some 63) (v := ?_) (a' := ?_) #[true, true, true, true, true, true, true, true, true, true, true, true, true, true, true, true, true, true, true, true, false] rfl rfl (by kernel_rfl) (fun _ _ _ h => h) (Or.inl ⟨by rfl, ?_⟩) ?_ ?_
                      rotate_left
                      · intro w'
                        go_simp
                        with_reducible rfl
                      rotate_left
                      · simp only [Act.put, List.setIfInBounds_toArray, List.set_cons_zero, List.set_cons_succ, i64_w, i32_w]
                        rfl
                      refine one_ (i := 20) (N := none) #[true, true, true, true, true, true, true, true, true, true, true, true, true, true, true, true, true, true, true, true, true] rfl rfl (by kernel_rfl) (by decide) (fun K hK => ?_)
                      refine skip_ (w1 := ?_) (by rfl) rfl ?_ ?_
                      rotate_left
                      · go_simp
                        rfl
                      refine hK.out _ _ trivial (fun hHeld => ?_)
                      clear hK K
                      refine done_ (by kernel_rfl) ?_
                      try go_wp2
                      go_roundg k3
                      case measure => omega
                      case rel => exact ⟨s + 1, _, by first | (simp; done) | (have := HS.out; congr 1; unfold wrap64; omega), ⟨by have := HI.out; have := HS.out; omega⟩, ⟨fun j hj s' hs' => by
                        have h1 := HTT.out; have h2 := CX.out; have h3 := HS.out
                        rw [if_neg (by omega)]
                        exact HF.out j hj s' hs'⟩, ⟨fun j hj => by
                        by_cases e : j = s
                        · subst e; exact if_pos rfl
                        · rw [if_neg (by omega)]; exact HF2.out j (by omega)⟩, ⟨col_put CB.out (t * 64 + s) _⟩, ⟨HB.out.setCell (p := ⟨go, t * 64 + s, none⟩) (by rw [hgo]; exact Nat.le_refl _) _⟩⟩
                    · have c8 : decide ((s : Int) < 64) = false := decide_eq_false cl
                      obtain rfl : s = 64 := by have := HI.out; omega
                      clear cl
                      go_wp2
                      go_roundg k2
                      case measure => omega
                      case rel => exact ⟨k + 1, wrap64 ((t : Int) - 1), F, rfl, ⟨by have h1 := HTT.out; have h2 := HT2.out; have h3 := CX.out; have h4 := HK.out; have h5 := HT.out; unfold wrap64; omega⟩, ⟨fun j hj s hs => by
                        by_cases e : j = k + 1
                        · subst e
                          rw [← HTT.out]
                          exact HF2.out s hs
                        · exact HF.out j (by omega) s hs⟩, CB, HB⟩
            · have c6 : decide (x ≥ 0) = false := decide_eq_false (by have := HK.out; omega)
              have hk : k = T := by have := HK.out; omega
              subst hk
              go_wp2
              go_ret
              subst hgo
              have ht1 := HT1.out
              subst ht1
              exact ⟨rfl, ⟨F, CB.out, HF.out⟩, HB.out⟩
end Go.Proofs.YteomnlkfnfgkkaaDoor.Q
