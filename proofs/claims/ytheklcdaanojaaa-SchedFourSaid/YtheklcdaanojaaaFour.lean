/- The walk of the law: behind as many tries that four versions went out, each went out once, whatever the burst was. No condition. -/
import Derived.Test.YtheklcdaanojaaaPlan
import Derived.ChangeKeysEq
namespace Go.Proofs.Ytheklcdaanojaaa.Mine
open Go.RowKit Go.Proofs.Ytheklcdaanojaaa.PSchedTells Go.Proofs.YtheklcdaanojaaaW.PrintWords Go.Proofs.YtheklcdaanojaaaW.PrintLast Go.Proofs.YtheklcdaanojaaaW.PrintMore
attribute [local go_sem] max2_int min2_int max_two min_two max_three min_three max_four min_four   -- for this text's walks alone
set_option linter.unusedVariables false
set_option linter.unusedSimpArgs false
/-- Which versions went out, behind so many. -/
def wentB (s : Int) : Array Value := #[.int .i64 (if 0 < s then 1 else 0), .int .i64 (if 1 < s then 1 else 0), .int .i64 (if 2 < s then 1 else 0), .int .i64 (if 3 < s then 1 else 0)]
theorem went_get (x : Int) (h0 : 0 ≤ x) (h1 : x < 4) : (wentB x)[x.toNat]? = some (.int .i64 0) := by
  have : x = 0 ∨ x = 1 ∨ x = 2 ∨ x = 3 := by omega
  rcases this with rfl | rfl | rfl | rfl <;> rfl
theorem went_set (x : Int) (h0 : 0 ≤ x) (h1 : x < 4) : (wentB x).setIfInBounds x.toNat (.int .i64 1) = wentB (x + 1) := by
  have : x = 0 ∨ x = 1 ∨ x = 2 ∨ x = 3 := by omega
  rcases this with rfl | rfl | rfl | rfl <;> rfl
theorem rd_vers (s i : Int) (n : Nat) (h0 : 0 ≤ s) (i0 : 0 ≤ i) (i1 : i < n) (h1 : s + i < 4) : rd (vers s n) i = s + i := by
  obtain ⟨j, rfl⟩ := Int.eq_ofNat_of_zero_le i0
  unfold rd vers
  rw [List.getD_eq_getElem?_getD, List.getElem?_map, List.getElem?_range (by omega)]
  show Int.tmod (s + (j : Int)) 4 = _
  rw [Int.tmod_eq_emod_of_nonneg (by omega), Int.emod_eq_of_lt (by omega) h1]
theorem u64_four (a : Int) : ∃ b : Int, 1 ≤ b ∧ b ≤ 4 ∧ wrap64 (1 + wrap64 (Int.tmod (IntKind.u64.wrap a) 4)) = b := by
  have e : IntKind.u64.wrap a = a % 18446744073709551616 := by simp [IntKind.wrap, IntKind.signed, IntKind.bits]
  rw [e, Int.tmod_eq_emod_of_nonneg (by omega)]
  refine ⟨1 + a % 18446744073709551616 % 4, by omega, by omega, ?_⟩
  unfold wrap64
  omega
theorem eq45 (w : World) : (Op.equalIn 10000 45 (.agg #[.int .i64 1, .int .i64 1, .int .i64 1, .int .i64 1]) (.agg #[.int .i64 1, .int .i64 1, .int .i64 1, .int .i64 1])).run Try.prog w = .ok true w := by
  obtain ⟨i, hi, _⟩ := Option.map_eq_some_iff.mp info3
  rw [run_equalIn_array w 9999 _ _ Try.underlying45 hi, show Try.prog.cellsOf 3 = 1 by kernel_rfl, show List.range 4 = [0, 1, 2, 3] from rfl]
  simp only [Op.eqItems]
  go_simp
attribute [local go_sem] eq45
set_option maxHeartbeats 8000000 in
set_option maxRecDepth 100000 in
theorem four (a0 : Int) (w : World) : Calls Try.prog 7 #[.int .i64 a0] w fun e w' => e = .returned (.bool true) ∧ Below w.heap.size w w' := by
  have HB := Aside0.mk (Below.refl w.heap.size w)
  obtain ⟨b, b1, b4, hbv⟩ := u64_four a0
  have B1 := Aside0.mk b1
  have B4 := Aside0.mk b4
  clear b1 b4
  go_enter Try.func7, Try.ntmps7
  go_upto_region 2 with (fail)
  rw [hbv]
  clear hbv
  go_upto_block 0 with (first | ((with_reducible refine gate_callee (f := 14) rfl ?_); refine goesL_ (some 17) rfl rfl Try.func14 (by kernel_rfl) rfl #[.int .i64 b] rfl (by (try simp only [List.map_toArray, List.map_cons, List.map_nil]); first | done | rfl) ?_; (with_reducible refine (new_calls b B1.out B4.out _).mono ?_); rintro e w1 ⟨g, rfl, hge, hbk, hb⟩; refine ⟨_, rfl, ?_⟩; have BK := Aside0.mk hbk; have GE : Aside0 (w.heap.size ≤ g) := ⟨Nat.le_trans (below_size HB.out) hge⟩; have n0_ := Aside0.mk (below_step HB.out hb); clear HB hb hbk hge; have HB := n0_; clear n0_) | ((with_reducible refine gate_callee (f := 15) rfl ?_); refine goesL_ (some 20) rfl rfl Try.func15 (by kernel_rfl) rfl #[] rfl (by (try simp only [List.map_toArray, List.map_cons, List.map_nil]); first | done | rfl) ?_; (with_reducible refine (plans_calls _).mono ?_); rintro e w2 ⟨rfl, hb⟩; refine ⟨_, rfl, ?_⟩; have n0_ := Aside0.mk (blk_below BK.out hb); have n1_ := Aside0.mk (below_step HB.out hb); clear BK HB hb; have BK := n0_; have HB := n1_; clear n0_ n1_) | ((with_reducible refine gate_dst (N := 6) rfl ?_); refine box_event ?hg (N := 6) ?hd (cs := wentB 0) (t := 45) ?hr ?_; (case hd => rfl); (case hg => rfl); (case hr => first | (go_simp; done) | (go_simp; rfl)); intro g2 hg w3 hbox hb; have n0_ := Aside0.mk (blk_below BK.out hb); have n1_ := Aside0.mk (below_step HB.out hb); have GE2 := Aside0.mk ((by rw [hg]; exact (below_size HB.out)) : w.heap.size ≤ g2); have BW := Aside0.mk hbox; clear BK HB hb hbox hg; have BK := n0_; have HB := n1_; clear n0_ n1_))
  -- LOOPS
  have ew : wrap64 (5 - b) = 5 - b := by have := B1.out; have := B4.out; unfold wrap64; omega
  go_wp2
  go_loopg [7] 6 (fun kq v7 w' => ∃ (t s : Int), v7 = .int .i64 t ∧ Aside0 (0 ≤ t ∧ t ≤ 5 - b ∧ t + kq = 6 ∧ s = if t = 0 then 0 else b + t - 1) ∧ Aside0 (w'.heap[g]? = some (plan b t s)) ∧ Aside0 (w'.heap[g2]? = some (.cells (wentB s) 45 (0, 0))) ∧ Aside0 (Below w.heap.size w w'))
  case atStart => exact ⟨0, 0, rfl, ⟨by have := B4.out; exact ⟨by omega, by omega, by omega, rfl⟩⟩, BK, BW, HB⟩
  case round =>
    clear BK BW HB
    obtain ⟨t, s, rfl, HI, BK, BW, HB⟩ := hrel
    cases gk with
    | zero => exact absurd HI.out (by have := B1.out; omega)
    | succ k1 =>
      by_cases cl : t < 5 - b
      · have c5 : decide (t < 5 - b) = true := decide_eq_true cl
        have hs0 : 0 ≤ s ∧ s ≤ 4 := by
          have h1 := B1.out; have h2 := B4.out; obtain ⟨h3, h4, h5, h6⟩ := HI.out
          rw [h6]; split <;> omega
        obtain ⟨n, hn⟩ : ∃ n : Nat, (n : Int) = if t = 0 then b else 1 := ⟨(if t = 0 then b else 1).toNat, by have h1 := B1.out; split <;> omega⟩
        have hsn : s + n = b + t := by
          obtain ⟨h3, h4, h5, h6⟩ := HI.out
          rw [h6, hn]; split <;> omega
        have HS := Aside0.mk hs0
        have HN := Aside0.mk hn
        have HSN := Aside0.mk hsn
        have CL := Aside0.mk cl
        clear hs0 hn hsn cl
        have NE : Aside0 (g2 ≠ g) := ⟨blk_ne BW.out BK.out (by decide)⟩
        go_upto_block 2 with (first | ((with_reducible refine gate_callee (f := 17) rfl ?_); refine goesL_ (some 33) rfl rfl Try.func17 (by kernel_rfl) rfl #[.pointer (some ⟨g, 0, none⟩)] rfl (by (try simp only [List.map_toArray, List.map_cons, List.map_nil]); first | done | rfl) ?_; (with_reducible refine (next_calls w _ g b t s n BK.out HB.out GE.out B1.out B4.out HI.out.1 (by have h4 := HI.out.2.1; have h1 := B1.out; omega) HS.out.1 (by have h4 := HS.out.2; omega) HN.out).mono ?_); rintro e w4 ⟨v1, rfl, hr, hbk, hk, hb⟩; refine ⟨_, rfl, ?_⟩; have HO : Aside0 (Kd.R (Kd.int .i64) 3 w4 w.heap.size (fun _ => True) v1 (vers s n)) := ⟨Kd.R_mono hr (fun _ _ => trivial)⟩; have n0_ := Aside0.mk (hk _ _ BW.out NE.out); clear BK HB BW; have BK := Aside0.mk hbk; have HB := Aside0.mk hb; have BW := n0_; clear n0_ hr hbk hk hb))
        obtain ⟨A1, c1, e1⟩ := Kd.R_slice HO.out
        subst e1
        clear c5
        rw [vers_len]
        go_wp2
        go_loopg [9] 6 (fun kq v9 w' => ∃ (i : Int), v9 = .int .i64 i ∧ Aside0 (0 ≤ i ∧ i ≤ n ∧ i + kq = 6) ∧ Aside0 (Kd.R (Kd.int .i64) 3 w' w.heap.size (fun _ => True) (.slice A1 n c1) (vers s n)) ∧ Aside0 (w'.heap[g]? = some (plan b (t + 1) (s + n))) ∧ Aside0 (w'.heap[g2]? = some (.cells (wentB (s + i)) 45 (0, 0))) ∧ Aside0 (Below w.heap.size w w'))
        case atStart => exact ⟨0, rfl, ⟨by omega⟩, ⟨by have h_ := HO.out; rw [vers_len] at h_; exact h_⟩, BK, ⟨by rw [Int.add_zero]; exact BW.out⟩, HB⟩
        case round =>
          clear HO BK BW HB
          obtain ⟨i, rfl, HI2, HO, BK, BW, HB⟩ := hrel
          have N5 : Aside0 ((n : Int) ≤ 4) := ⟨by have := HSN.out; have := CL.out; have := HS.out; omega⟩
          cases gk with
          | zero => exact absurd HI2.out (by have := N5.out; omega)
          | succ k2 =>
            by_cases c2 : i < (n : Int)
            · have c6 : decide (i < (n : Int)) = true := decide_eq_true c2
              have p1 : 0 ≤ i := HI2.out.1
              have hx4 : s + i < 4 := by have := HSN.out; have := CL.out; omega
              obtain ⟨ad, e1, hx⟩ := Kd.at_int (Kd.R_reads' HO.out).2.2 i p1 (by rw [vers_len]; exact c2)
              cases e1
              rw [rd_vers s i n HS.out.1 p1 c2 hx4] at hx
              have hx0 : 0 ≤ s + i := by have := HS.out; omega
              have hget := (blk_cell BW.out (s + i).toNat).trans (went_get (s + i) hx0 hx4)
              have hfz := blk_frozen BW.out (s + i).toNat
              have HP := Aside0.mk (blk_put BW.out (s + i).toNat (.int .i64 1) (went_set (s + i) hx0 hx4))
              generalize hxe : s + i = x at hx hget hfz HP hx0 hx4
              have d1 : decide (x < 0) = false := decide_eq_false (by omega)
              have d2 : decide (3 < x) = false := decide_eq_false (by omega)
              have C2 := Aside0.mk c2
              have XE := Aside0.mk hxe
              have q0 := eq_true p1
              have q1 := eq_true c2
              have q2 := eq_true hx0
              have q3 := eq_true hx4
              have w01 : wrap64 ((0 : Int) + 1) = 1 := by unfold wrap64; omega
              clear p1 c2 hx0 hx4 hxe
              go_wp2
              go_roundg k2
              case measure => omega
              case rel => exact ⟨wrap64 (i + 1), rfl, ⟨by have h1 := HI2.out; have h2 := C2.out; have h3 := N5.out; unfold wrap64; omega⟩, ⟨Kd.R_mono (Kd.R_far (p := ⟨g2, x.toNat, none⟩) (Kd.R_types HO.out BW.out (by decide)) (fun _ hk => hk.2) _) (fun _ h_ => h_.1)⟩, ⟨blk_far (p := ⟨g2, x.toNat, none⟩) BK.out (fun e => NE.out e.symm) _⟩, ⟨by
                have e : wrap64 (i + 1) = i + 1 := by have h1 := HI2.out; have h2 := C2.out; have h3 := N5.out; unfold wrap64; omega
                rw [e, ← Int.add_assoc, XE.out]
                exact HP.out⟩, ⟨below_set HB.out GE2.out⟩⟩
            · have c6 : decide (i < (n : Int)) = false := decide_eq_false c2
              have C2 := Aside0.mk c2
              clear c2
              go_wp2
              go_roundg k1
              case measure => omega
              case rel => exact ⟨wrap64 (t + 1), s + n, rfl, ⟨by
                have h1 := B1.out; have h2 := B4.out; have h3 := CL.out; have h4 := HI.out; have h5 := HSN.out
                have e : wrap64 (t + 1) = t + 1 := by unfold wrap64; omega
                rw [e, if_neg (by omega)]; omega⟩, ⟨by
                have h1 := B1.out; have h2 := B4.out; have h3 := CL.out; have h4 := HI.out
                have e : wrap64 (t + 1) = t + 1 := by unfold wrap64; omega
                rw [e]; exact BK.out⟩, ⟨by
                have e : i = n := by have := HI2.out; have := C2.out; omega
                rw [← e]; exact BW.out⟩, HB⟩
      · have c5 : decide (t < 5 - b) = false := decide_eq_false cl
        have es : s = 4 := by
          have h1 := B1.out; have h2 := B4.out; obtain ⟨h3, h4, h5, h6⟩ := HI.out
          rw [h6]; split <;> omega
        subst es
        clear cl
        have hz0 : wr.cell? ⟨g2, 0, none⟩ = some (.int .i64 1) := (blk_cell BW.out 0).trans rfl
        have hz1 : wr.cell? ⟨g2, 1, none⟩ = some (.int .i64 1) := (blk_cell BW.out 1).trans rfl
        have hz2 : wr.cell? ⟨g2, 2, none⟩ = some (.int .i64 1) := (blk_cell BW.out 2).trans rfl
        have hz3 : wr.cell? ⟨g2, 3, none⟩ = some (.int .i64 1) := (blk_cell BW.out 3).trans rfl
        go_wp2
        go_ret
        exact ⟨rfl, HB.out⟩
end Go.Proofs.Ytheklcdaanojaaa.Mine
