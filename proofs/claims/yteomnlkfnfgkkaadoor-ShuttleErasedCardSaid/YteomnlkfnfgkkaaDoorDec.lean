/- The walk of viterbi.Decode at numbers within the bounds. Condition: the taps lie as their initialiser lays them. -/
import Derived.Test.YteomnlkfnfgkkaaDoorTrc
import Derived.Test.YteomnlkfnfgkkaaDoorClp
namespace Go.Proofs.YteomnlkfnfgkkaaDoor.Q
open Go.RowKit Go.Proofs.YteomnlkfnfgkkaaDoorW.PrintWords Go.Proofs.YteomnlkfnfgkkaaDoorW.PrintLast Go.Proofs.YteomnlkfnfgkkaaDoorW.PrintMore
attribute [local go_sem] max2_int min2_int max_two min_two max_three min_three max_four min_four   -- for this text's walks alone
set_option linter.unusedVariables false
set_option linter.unusedSimpArgs false
set_option maxHeartbeats 8000000 in
set_option maxRecDepth 100000 in
theorem decode_calls (w : World) (gl off cl n T N : Nat) (v : Nat → Int) (hT : Aside0 (TapOk w)) (hn : n + 6 = T ∧ T ≤ 100 ∧ 4 * T = N ∧ N ≤ cl) (hv : ∀ j, j < N → w.cell? ⟨gl, off + j, none⟩ = some (.int .i64 (v j))) (hb : ∀ j, j < N → -31 ≤ v j ∧ v j ≤ 31) :
    Calls Tryd.prog 10 #[.slice (some ⟨gl, off, none⟩) N cl] w fun e w' => ∃ v0, e = .returned (.tuple #[v0, .int .i64 (colK v n T T 0), .int .i64 0]) ∧ Kd.R (Kd.int .u8) 5 w' w.heap.size (fun _ => True) v0 (outL v n T n) ∧ Below w.heap.size w w' := by
  have HB := Aside0.mk (Below.refl w.heap.size w)
  have HN := Aside0.mk hn
  have HV := Aside0.mk hv
  have mv : ∀ {w' : World}, Below w.heap.size w w' → ∀ j, j < N → w'.cell? ⟨gl, off + j, none⟩ = some (.int .i64 (v j)) := fun h j hj => (h.cell (World.block_lt_of_cell? w _ (hv j hj))).trans (hv j hj)
  have MV := Aside0.mk @mv
  have HCT := Aside0.mk (fun (w' : World) (h : Below w.heap.size w w') => containsN_calls gl off N cl v w' (mv h) (by omega) hb)
  have HST := Aside0.mk (fun (w' : World) => conv_Steps.calls 0 6 w' (by unfold conv_Steps.f; rw [if_neg (by decide)]; congr 1; unfold wrap64; omega))
  obtain ⟨G, hG⟩ : ∃ G, grA 64 = G := ⟨_, rfl⟩
  have hsz : G.size = 896 := by rw [← hG, grA, List.size_toArray, grL_len 64 (by decide)]
  have hsz0 : (grA 0).size = 896 := by rw [grA, List.size_toArray, grL_len 0 (by decide)]
  have hone : G.all (·.oneCell') = true := by rw [← hG, grA]; exact all_oneCell_toArray (grL_one 64)
  have HBD := Aside0.mk (fun (w' : World) (h : Below w.heap.size w w') => build_g w' (TapA.below hT h))
  rw [hG] at HBD
  have SZ := Aside0.mk hsz
  have SZ0 := Aside0.mk hsz0
  have ON := Aside0.mk hone
  have HG := Aside0.mk hG
  have a1 : ((N : Int)).tdiv 4 = (T : Int) := by rw [← hn.2.2.1]; push_cast; exact Int.mul_tdiv_cancel_left _ (by decide)
  have a2 : wrap64 ((T : Int) - 6) = (n : Int) := by unfold wrap64; omega
  have a3 : ((N : Int)).tmod 4 = 0 := by rw [← hn.2.2.1]; push_cast; exact Int.mul_tmod_right _ _
  have a4 : wrap64 (T : Int) = (T : Int) := by unfold wrap64; omega
  have a5 : decide ((n : Int) < 0) = false := decide_eq_false (by omega)
  have a6 : decide ((n : Int) > 4096) = false := decide_eq_false (by omega)
  have a7 : decide (4096 < (n : Int)) = false := decide_eq_false (by omega)
  obtain ⟨T1, hT1⟩ : ∃ T1, T + 1 = T1 := ⟨_, rfl⟩
  have HT1 := Aside0.mk hT1
  clear hT1
  clear hsz hsz0 hone hG hn hv hb mv
  go_enter Tryd.func10, Tryd.ntmps10
  go_upto_region 9 with (first | ((with_reducible refine (HST.out _).mono ?_); rintro e wq ⟨rfl, ⟨nd, rfl⟩⟩; have n1_ := Aside0.mk (pw_below_drewN HB.out nd); clear HB; have HB := n1_; clear n1_) | ((with_reducible refine gate_callee (f := 18) rfl ?_); refine goesL_ (some 29) rfl rfl Tryd.func18 (by kernel_rfl) rfl #[.slice (some ⟨gl, off, none⟩) N cl, .func (.func 19) #[] #[]] rfl (by (try simp only [List.map_toArray, List.map_cons, List.map_nil]); first | done | rfl) ?_; (with_reducible refine (HCT.out _ HB.out).mono ?_); rintro e wq ⟨rfl, hb⟩; refine ⟨_, rfl, ?_⟩; have n1_ := Aside0.mk (below_step HB.out hb); clear HB hb; have HB := n1_; clear n1_) | ((with_reducible refine gate_callee (f := 21) rfl ?_); refine goesL_ (some 31) rfl rfl Tryd.func21 (by kernel_rfl) rfl #[] rfl (by (try simp only [List.map_toArray, List.map_cons, List.map_nil]); first | done | rfl) ?_; (with_reducible refine (HBD.out _ HB.out).mono ?_); rintro e wq ⟨rfl, hb⟩; refine ⟨_, rfl, ?_⟩; have n1_ := Aside0.mk (below_step HB.out hb); clear HB hb; have HB := n1_; clear n1_) | ((with_reducible refine gate_dst (N := 6) rfl ?_); refine box_event ?hg (N := 6) ?hd (cs := grA 0) (t := 54) ?hr ?_; (case hd => rfl); (case hg => rfl); (case hr => first | (go_simp; done) | (go_simp; rfl)); intro g6 hg w6 hbox hb; have n1_ := Aside0.mk (below_step HB.out hb); have GE6 := Aside0.mk ((by rw [hg]; exact (below_size HB.out)) : w.heap.size ≤ g6); have B6 := Aside0.mk hbox; clear HB hb hbox hg; have HB := n1_; clear n1_) | ((with_reducible refine gate_store (t := 54) (p := 6) rfl ?_); refine wpList_store_row rfl 54 (.tmp 6) (.tmp 32) rfl g6 G rfl rfl 54 (grA 0) B6.out (by rw [SZ.out]; kernel_rfl) (by rw [SZ.out, SZ0.out]) ON.out ?_; have kb_ := Aside0.mk (setRow_heap _ g6 (grA 0) G 54 (0, 0) B6.out); have n1_ := Aside0.mk (below_row (g := g6) (cs := G) HB.out GE6.out); clear HB B6; have HB := n1_; have B6 := kb_; clear n1_ kb_))
  generalize World.setRow _ g6 _ = wa at HB B6 ⊢
  have hcol : ∀ W2, Below w.heap.size w W2 → W2.heap[g6]? = some (.cells G 54 (0, 0)) → Calls Tryd.prog 22 #[.slice (some ⟨gl, off, none⟩) N cl, .int .i64 (n : Int), .pointer (some ⟨g6, 0, none⟩)] W2 fun e w' => ∃ (gc : Nat) (F : Nat → Int), e = .returned (.slice (some ⟨gc, 0, none⟩) T1 T1) ∧ w'.heap[gc]? = some (.cells (cellsF (T1 * 64) F) 62 (0, 0)) ∧ (∀ j, j ≤ T → ∀ s, s < 64 → F ((T - j) * 64 + s) = colK v n T j s) ∧ Below W2.heap.size W2 w' := by
    intro W2 hb2 hg2
    have h1 := HN.out
    rw [← HG.out] at hg2
    have h := columns_calls W2 gl off cl T n g6 v ⟨by omega, h1.2.1⟩ (by omega) (fun j hj => MV.out hb2 j (by omega)) hg2 (by omega)
    rw [h1.2.2.1, HT1.out] at h
    refine h.mono ?_
    rintro e w' ⟨h2, ⟨F, h3, h4⟩, h5⟩
    exact ⟨_, F, h2, h3, h4, h5⟩
  have htr : ∀ (W2 : World) (gc : Nat) (F : Nat → Int), Below w.heap.size w W2 → W2.heap[g6]? = some (.cells G 54 (0, 0)) → W2.heap[gc]? = some (.cells (cellsF (T1 * 64) F) 62 (0, 0)) → (∀ j, j ≤ T → ∀ s, s < 64 → F ((T - j) * 64 + s) = colK v n T j s) → Calls Tryd.prog 23 #[.slice (some ⟨gl, off, none⟩) N cl, .int .i64 (n : Int), .pointer (some ⟨g6, 0, none⟩), .slice (some ⟨gc, 0, none⟩) T1 T1] W2 fun e w' => ∃ v0, e = .returned v0 ∧ Kd.R (Kd.int .u8) 5 w' W2.heap.size (fun _ => True) v0 (outL v n T n) ∧ Below W2.heap.size W2 w' := by
    intro W2 gc F hb2 hg2 hc2 hF
    have h1 := HN.out
    rw [← HG.out] at hg2
    rw [← HT1.out] at hc2
    have h := trace_calls W2 gl off cl T n g6 gc v F ⟨by omega, h1.2.1⟩ (by omega) (fun j hj => MV.out hb2 j (by omega)) hg2 hc2 hF
    rw [h1.2.2.1, HT1.out] at h
    exact h
  have HCOL := Aside0.mk hcol
  have HTR := Aside0.mk htr
  clear hcol htr
  go_upto_region 10 with (first | ((with_reducible refine gate_callee (f := 22) rfl ?_); refine goesL_ (some 39) rfl rfl Tryd.func22 (by kernel_rfl) rfl #[.slice (some ⟨gl, off, none⟩) N cl, .int .i64 (n : Int), .pointer (some ⟨g6, 0, none⟩)] rfl (by (try simp only [List.map_toArray, List.map_cons, List.map_nil]); first | done | rfl) ?_; (with_reducible refine (HCOL.out _ HB.out B6.out).mono ?_); rintro e w_ ⟨gc, F, rfl, hC, hF, hb⟩; have BC := Aside0.mk hC; have HF := Aside0.mk hF; clear hC hF; refine ⟨_, rfl, ?_⟩; have k0_ := Aside0.mk (blk_below B6.out hb); clear B6; have B6 := k0_; clear k0_; have n1_ := Aside0.mk (below_step HB.out hb); clear HB hb; have HB := n1_; clear n1_))
  have hz : w_.cell? ⟨gc, 0, none⟩ = some (.int .i64 (colK v n T T 0)) := by
    have h1 := HN.out
    have h2 := col_get BC.out (j := 0) (by have := HT1.out; omega)
    have h3 := HF.out T (Nat.le_refl _) 0 (by decide)
    rw [Nat.sub_self, Nat.zero_mul, Nat.zero_add] at h3
    rw [h2, h3]
  obtain ⟨z, hzz⟩ : ∃ z, colK v n T T 0 = z := ⟨_, rfl⟩
  rw [hzz] at hz
  have HZ := Aside0.mk hz
  have HZZ := Aside0.mk hzz
  clear hz hzz
  have n0_ := Aside0.mk (blk_drew B6.out)
  have n3_ := Aside0.mk (blk_drew BC.out)
  have n1_ := Aside0.mk (below_drew1 HB.out)
  have n2_ : Aside0 (w_.drew.cell? ⟨gc, 0, none⟩ = some (.int .i64 z)) := ⟨HZ.out⟩
  clear B6 HB HZ BC
  have B6 := n0_
  have HB := n1_
  have HZ := n2_
  have BC := n3_
  clear n0_ n1_ n2_ n3_
  have b3 : (0 < (T1 : Int)) = True := eq_true (by have := HT1.out; omega)
  have b4 : (0 < T1) = True := eq_true (by have := HT1.out; omega)
  refine start_ (n := 11) (S := fun w' => w'.cell? ⟨gc, 0, none⟩ = some (.int .i64 z)) (ds := []) #[false, false, false, false, false, false, false, false, false, false, false] (by kernel_rfl) rfl rfl (HZ.out) (fun hHeld => ?_)
  generalize w_.drew = wx at B6 HB HZ BC hHeld ⊢
  refine pure_ (i := 0) (N := some 40) (v := ?_) (a' := ?_) #[true, false, false, false, false, false, false, false, false, false, false] rfl rfl (by kernel_rfl) (fun _ _ _ h => h) (Or.inl ⟨by rfl, ?_⟩) ?_ ?_
  rotate_left
  · intro w'
    go_simp
    with_reducible rfl
  rotate_left
  · simp only [Act.put, List.setIfInBounds_toArray, List.set_cons_zero, List.set_cons_succ, i64_w, i32_w]
    rfl
  refine pure_ (i := 1) (N := some 41) (v := ?_) (a' := ?_) #[true, true, false, false, false, false, false, false, false, false, false] rfl rfl (by kernel_rfl) (fun _ _ _ h => h) (Or.inl ⟨by rfl, ?_⟩) ?_ ?_
  rotate_left
  · intro w'
    go_simp
    with_reducible rfl
  rotate_left
  · simp only [Act.put, List.setIfInBounds_toArray, List.set_cons_zero, List.set_cons_succ, i64_w, i32_w]
    rfl
  refine pure_ (i := 2) (N := some 42) (v := ?_) (a' := ?_) #[true, true, true, false, false, false, false, false, false, false, false] rfl rfl (by kernel_rfl) (fun _ _ _ h => h) (Or.inl ⟨by rfl, ?_⟩) ?_ ?_
  rotate_left
  · intro w'
    go_simp
    with_reducible rfl
  rotate_left
  · simp only [Act.put, List.setIfInBounds_toArray, List.set_cons_zero, List.set_cons_succ, i64_w, i32_w]
    rfl
  refine pure_ (i := 4) (N := some 44) (v := ?_) (a' := ?_) #[true, true, true, false, true, false, false, false, false, false, false] rfl rfl (by kernel_rfl) (fun _ _ _ h => h) (Or.inl ⟨by rfl, ?_⟩) ?_ ?_
  rotate_left
  · intro w'
    go_simp
    with_reducible rfl
  rotate_left
  · simp only [Act.put, List.setIfInBounds_toArray, List.set_cons_zero, List.set_cons_succ, i64_w, i32_w]
    rfl
  refine pure_ (i := 5) (N := some 45) (v := ?_) (a' := ?_) #[true, true, true, false, true, true, false, false, false, false, false] rfl rfl (by kernel_rfl) (fun _ _ _ h => h) (Or.inl ⟨by rfl, ?_⟩) ?_ ?_
  rotate_left
  · intro w'
    go_simp
    with_reducible rfl
  rotate_left
  · simp only [Act.put, List.setIfInBounds_toArray, List.set_cons_zero, List.set_cons_succ, i64_w, i32_w]
    rfl
  refine pure_ (i := 6) (N := some 46) (v := ?_) (a' := ?_) #[true, true, true, false, true, true, true, false, false, false, false] rfl rfl (by kernel_rfl) (fun _ _ _ h => h) (Or.inl ⟨by rfl, ?_⟩) ?_ ?_
  rotate_left
  · intro w'
    go_simp
    with_reducible rfl
  rotate_left
  · simp only [Act.put, List.setIfInBounds_toArray, List.set_cons_zero, List.set_cons_succ, i64_w, i32_w]
    rfl
  refine take_ (i := 7) (N := some 47) (v := ?_) (a' := ?_) #[true, true, true, false, true, true, true, true, false, false, false] rfl rfl (by kernel_rfl) (fun _ _ _ h => h) (Or.inl ⟨by rfl, ?_⟩) hHeld ?_ ?_
  rotate_left
  · intro w' s0
    go_simp
    with_reducible rfl
  rotate_left
  · simp only [Act.put, List.setIfInBounds_toArray, List.set_cons_zero, List.set_cons_succ, i64_w, i32_w]
    rfl
  refine one_ (i := 3) (N := some 43) #[true, true, true, true, true, true, true, true, false, false, false] rfl rfl (by kernel_rfl) (by decide) (fun K hK => ?_)
  refine goes_ Tryd.func23 (by kernel_rfl) rfl #[.slice (some ⟨gl, off, none⟩) N cl, .int .i64 (n : Int), .pointer (some ⟨g6, 0, none⟩), .slice (some ⟨gc, 0, none⟩) T1 T1] (by rfl) rfl rfl (by simp only [List.map_toArray, List.map_cons, List.map_nil]; rfl) ?_
  with_reducible refine (HTR.out wx gc F HB.out B6.out BC.out HF.out).mono ?_
  rintro e wc ⟨v0, rfl, ho, hb⟩
  refine ⟨_, rfl, ?_⟩
  have n0_ := Aside0.mk ((hb.cell (p := ⟨gc, 0, none⟩) (World.block_lt_of_cell? _ _ HZ.out)).trans HZ.out)
  have n1_ := Aside0.mk (below_step HB.out hb)
  have HO := Aside0.mk (Kd.R_lower ho (below_size HB.out))
  clear HZ HB B6 BC hb ho
  have HZ := n0_
  have HB := n1_
  clear n0_ n1_
  refine hK.out _ _ (HZ.out) (fun hHeld => ?_)
  clear hK K
  refine norm_ (a' := ?_) ?_ ?_
  rotate_left
  · show Act.put _ (some 43) _ = _
    simp only [Act.put, List.setIfInBounds_toArray, List.set_cons_zero, List.set_cons_succ, i64_w, i32_w]
    rfl
  refine pure_ (i := 8) (N := some 2) (v := ?_) (a' := ?_) #[true, true, true, true, true, true, true, true, true, false, false] rfl rfl (by kernel_rfl) (fun _ _ _ h => h) (Or.inl ⟨by rfl, ?_⟩) ?_ ?_
  rotate_left
  · intro w'
    go_simp
    with_reducible rfl
  rotate_left
  · simp only [Act.put, List.setIfInBounds_toArray, List.set_cons_zero, List.set_cons_succ, i64_w, i32_w]
    rfl
  refine pure_ (i := 9) (N := some 3) (v := ?_) (a' := ?_) #[true, true, true, true, true, true, true, true, true, true, false] rfl rfl (by kernel_rfl) (fun _ _ _ h => h) (Or.inl ⟨by rfl, ?_⟩) ?_ ?_
  rotate_left
  · intro w'
    go_simp
    with_reducible rfl
  rotate_left
  · simp only [Act.put, List.setIfInBounds_toArray, List.set_cons_zero, List.set_cons_succ, i64_w, i32_w]
    rfl
  refine pure_ (i := 10) (N := some 4) (v := ?_) (a' := ?_) #[true, true, true, true, true, true, true, true, true, true, true] rfl rfl (by kernel_rfl) (fun _ _ _ h => h) (Or.inl ⟨by rfl, ?_⟩) ?_ ?_
  rotate_left
  · intro w'
    go_simp
    with_reducible rfl
  rotate_left
  · simp only [Act.put, List.setIfInBounds_toArray, List.set_cons_zero, List.set_cons_succ, i64_w, i32_w]
    rfl
  refine done_ (by kernel_rfl) ?_

  go_wp2
  go_ret3
  exact ⟨v0, by rw [HZZ.out]; rfl, HO.out, HB.out⟩
end Go.Proofs.YteomnlkfnfgkkaaDoor.Q
