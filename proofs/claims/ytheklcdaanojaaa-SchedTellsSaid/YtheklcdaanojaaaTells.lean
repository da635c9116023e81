/- The walk of the law: of all bursts and counts of tries the versions are told, or that there is no such burst; of any four one behind the other each is another one. Conditions: the arguments lie in their types' ranges. -/
import Derived.Test.YtheklcdaanojaaaPlan
namespace Go.Proofs.Ytheklcdaanojaaa.Mine
open Go.RowKit Go.Proofs.Ytheklcdaanojaaa.PSchedTells Go.Proofs.YtheklcdaanojaaaW.PrintWords Go.Proofs.YtheklcdaanojaaaW.PrintLast Go.Proofs.YtheklcdaanojaaaW.PrintMore
attribute [local go_sem] max2_int min2_int max_two min_two max_three min_three max_four min_four   -- for this text's walks alone
set_option linter.unusedVariables false
set_option linter.unusedSimpArgs false
theorem wf_i64 {n : Int} (h : (Lit.int .i64 n).wf = true) : -9223372036854775808 ≤ n ∧ n ≤ 9223372036854775807 := by
  simp [Lit.wf, IntKind.min, IntKind.max, IntKind.signed, IntKind.bits] at h
  exact h
set_option maxHeartbeats 8000000 in
set_option maxRecDepth 100000 in
theorem new_bad (b : Int) (h : b < 1 ∨ 4 < b) (w : World) :
    Calls Try.prog 14 #[.int .i64 b] w fun e w' => e = .returned (.tuple #[.pointer none, .int .i64 1]) ∧ Below w.heap.size w w' := by
  have HB := Aside0.mk (Below.refl w.heap.size w)
  by_cases h1 : b < 1
  · have d1 : decide (b < 1) = true := decide_eq_true h1
    clear h h1
    go_enter Try.func14, Try.ntmps14
    go_wp2
    go_ret2
    exact ⟨rfl, HB.out⟩
  · have d1 : decide (b < 1) = false := decide_eq_false h1
    have d2 : decide (4 < b) = true := decide_eq_true (by omega)
    clear h h1
    go_enter Try.func14, Try.ntmps14
    go_wp2
    go_ret2
    exact ⟨rfl, HB.out⟩
set_option maxHeartbeats 8000000 in
set_option maxRecDepth 100000 in
theorem none_calls (w : World) : Calls Try.prog 16 #[] w fun e w' => e = .returned (.pointer none) ∧ Below w.heap.size w w' := by
  have HB := Aside0.mk (Below.refl w.heap.size w)
  go_enter Try.func16, Try.ntmps16
  go_wp2
  go_ret
  exact ⟨rfl, HB.out⟩
set_option maxHeartbeats 8000000 in
set_option maxRecDepth 100000 in
theorem next_nil (w : World) : Calls Try.prog 17 #[.pointer none] w fun e w' => e = .returned (.slice none 0 0) ∧ Below w.heap.size w w' := by
  have HB := Aside0.mk (Below.refl w.heap.size w)
  go_enter Try.func17, Try.ntmps17
  go_wp2
  go_ret
  exact ⟨rfl, HB.out⟩
set_option maxHeartbeats 8000000 in
set_option maxRecDepth 100000 in
theorem tries_nil (w : World) : Calls Try.prog 18 #[.pointer none] w fun e w' => e = .returned (.int .i64 0) ∧ Below w.heap.size w w' := by
  have HB := Aside0.mk (Below.refl w.heap.size w)
  go_enter Try.func18, Try.ntmps18
  go_wp2
  go_ret
  exact ⟨rfl, HB.out⟩
set_option maxHeartbeats 8000000 in
set_option maxRecDepth 100000 in
theorem sent_nil (w : World) : Calls Try.prog 19 #[.pointer none] w fun e w' => e = .returned (.int .i64 0) ∧ Below w.heap.size w w' := by
  have HB := Aside0.mk (Below.refl w.heap.size w)
  go_enter Try.func19, Try.ntmps19
  go_wp2
  go_ret
  exact ⟨rfl, HB.out⟩
theorem u64_thirty (a : Int) : ∃ b : Int, 0 ≤ b ∧ b < 30 ∧ wrap64 (Int.tmod (IntKind.u64.wrap a) 30) = b := by
  have e : IntKind.u64.wrap a = a % 18446744073709551616 := by simp [IntKind.wrap, IntKind.signed, IntKind.bits]
  rw [e, Int.tmod_eq_emod_of_nonneg (by omega)]
  refine ⟨a % 18446744073709551616 % 30, by omega, by omega, ?_⟩
  unfold wrap64
  omega
theorem strong {w : World} {base : Nat} {ok : Nat → Prop} {v : Value} {xs : List Int} (h : Kd.R (Kd.int .i64) 3 w base ok v xs) : Kd.R (Kd.int .i64) 3 w base (fun k => v.ownBlock = some k) v xs := ⟨fun k hk => hk, h.2⟩
theorem moveR {w w1 : World} {base : Nat} {ok : Nat → Prop} {v : Value} {xs : List Int} (h : Kd.R (Kd.int .i64) 3 w base ok v xs) (hm : ∀ k, v.ownBlock = some k → k < w.heap.size → w1.heap[k]? = w.heap[k]?) : Kd.R (Kd.int .i64) 3 w1 base ok v xs :=
  Kd.R_mono (Kd.R_step (strong h) hm) (fun k hk => h.1 k hk)
theorem ref_next (b t s : Int) (n : Nat) (b1 : 1 ≤ b) (b4 : b ≤ 4) (t1 : 1 ≤ t) (t30 : t ≤ 30) (hs : s = if t = 1 then 0 else b + t - 2) (hn : (n : Int) = if t - 1 = 0 then b else 1) : shuttleref22_Next.f 10 b t = some (vers s n) := by
  by_cases c : t = 1
  · subst c
    rw [if_pos (by decide)] at hn
    rw [if_pos rfl] at hs
    subst hs
    have : n = 1 ∨ n = 2 ∨ n = 3 ∨ n = 4 := by omega
    rcases this with rfl | rfl | rfl | rfl <;> (obtain rfl := hn; decide +kernel)
  · rw [if_neg (by omega)] at hn
    rw [if_neg c] at hs
    have : n = 1 := by omega
    subst this
    unfold shuttleref22_Next.f
    rw [if_neg c]
    have e : wrap64 (wrap64 (b + t) - 2) = b + t - 2 := by unfold wrap64; omega
    rw [e, hs]
    show _ = some [Int.tmod (b + t - 2 + ((0 : Nat) : Int)) 4]
    rw [show b + t - 2 + ((0 : Nat) : Int) = b + t - 2 by omega]
theorem vers_app (m n : Nat) : vers 0 (m + n + 1) = vers 0 (m + n) ++ [Int.tmod ((m : Int) + n) 4] := by
  rw [vers_succ, show (0 : Int) + ((m + n : Nat) : Int) = (m : Int) + n by omega]
theorem rd_vers2 (s i : Int) (n : Nat) (i0 : 0 ≤ i) (i1 : i < n) : rd (vers s n) i = Int.tmod (s + i) 4 := by
  obtain ⟨j, rfl⟩ := Int.eq_ofNat_of_zero_le i0
  unfold rd vers
  rw [List.getD_eq_getElem?_getD, List.getElem?_map, List.getElem?_range (by omega)]
  rfl
/-- Two rows lie in blocks of their own. -/
def Apart2 (u v : Value) : Prop := ∀ k, u.ownBlock = some k → v.ownBlock ≠ some k
set_option maxHeartbeats 8000000 in
set_option maxRecDepth 100000 in
theorem tells (a0 a1 : Int) (w : World) (w0 : -9223372036854775808 ≤ a0 ∧ a0 ≤ 9223372036854775807) (w1 : -9223372036854775808 ≤ a1 ∧ a1 ≤ 9223372036854775807) : Calls Try.prog 6 #[.int .i64 a0, .int .i64 a1] w fun e w' => e = .returned (.bool true) ∧ Below w.heap.size w w' := by
  clear w0 w1
  have HB := Aside0.mk (Below.refl w.heap.size w)
  by_cases hb : a0 < 1 ∨ 4 < a0
  · go_enter Try.func6, Try.ntmps6
    have HBAD := Aside0.mk hb
    clear hb
    go_upto_region 4 with (first | ((with_reducible refine gate_callee (f := 14) rfl ?_); refine goesL_ (some 16) rfl rfl Try.func14 (by kernel_rfl) rfl #[.int .i64 a0] rfl (by (try simp only [List.map_toArray, List.map_cons, List.map_nil]); first | done | rfl) ?_; (with_reducible refine (new_bad a0 HBAD.out _).mono ?_); rintro e w1 ⟨rfl, hb⟩; refine ⟨_, rfl, ?_⟩; have n0_ := Aside0.mk (below_step HB.out hb); clear HB hb; have HB := n0_; clear n0_) | (go_at_call 15; (with_reducible refine (plans_calls _).mono ?_); rintro e w2 ⟨rfl, hb⟩; have n0_ := Aside0.mk (below_step HB.out hb); clear HB hb; have HB := n0_; clear n0_) | (go_at_call 16; (with_reducible refine (none_calls _).mono ?_); rintro e w2 ⟨rfl, hb⟩; have n0_ := Aside0.mk (below_step HB.out hb); clear HB hb; have HB := n0_; clear n0_) | (go_at_call 17; (with_reducible refine (next_nil _).mono ?_); rintro e w2 ⟨rfl, hb⟩; have n0_ := Aside0.mk (below_step HB.out hb); clear HB hb; have HB := n0_; clear n0_) | (go_at_call 18; (with_reducible refine (tries_nil _).mono ?_); rintro e w2 ⟨rfl, hb⟩; have n0_ := Aside0.mk (below_step HB.out hb); clear HB hb; have HB := n0_; clear n0_) | (go_at_call 19; (with_reducible refine (sent_nil _).mono ?_); rintro e w2 ⟨rfl, hb⟩; have n0_ := Aside0.mk (below_step HB.out hb); clear HB hb; have HB := n0_; clear n0_))
    by_cases h1 : a0 < 1
    · have d1 : decide (a0 < 1) = true := decide_eq_true h1
      clear h1
      go_wp2
      go_ret
      exact ⟨rfl, HB.out⟩
    · have d1 : decide (a0 < 1) = false := decide_eq_false h1
      have d2 : decide (4 < a0) = true := decide_eq_true (by have := HBAD.out; omega)
      clear h1
      go_wp2
      go_ret
      exact ⟨rfl, HB.out⟩
  · have B1 := Aside0.mk (show 1 ≤ a0 by omega)
    have B4 := Aside0.mk (show a0 ≤ 4 by omega)
    have d1 : decide (a0 < 1) = false := decide_eq_false (by omega)
    have d2 : decide (4 < a0) = false := decide_eq_false (by omega)
    clear hb
    go_enter Try.func6, Try.ntmps6
    go_upto_region 7 with (first | ((with_reducible refine gate_callee (f := 14) rfl ?_); refine goesL_ (some 16) rfl rfl Try.func14 (by kernel_rfl) rfl #[.int .i64 a0] rfl (by (try simp only [List.map_toArray, List.map_cons, List.map_nil]); first | done | rfl) ?_; (with_reducible refine (new_calls a0 B1.out B4.out _).mono ?_); rintro e w1 ⟨g, rfl, hge, hbk, hb⟩; refine ⟨_, rfl, ?_⟩; have BK := Aside0.mk hbk; have GE : Aside0 (w.heap.size ≤ g) := ⟨Nat.le_trans (below_size HB.out) hge⟩; have n0_ := Aside0.mk (below_step HB.out hb); clear HB hb hbk hge; have HB := n0_; clear n0_) | (go_at_call 15; (with_reducible refine (plans_calls _).mono ?_); rintro e w2 ⟨rfl, hb⟩; have n0_ := Aside0.mk (blk_below BK.out hb); have n1_ := Aside0.mk (below_step HB.out hb); clear BK HB hb; have BK := n0_; have HB := n1_; clear n0_ n1_) | (go_at_call 16; (with_reducible refine (none_calls _).mono ?_); rintro e w2 ⟨rfl, hb⟩; have n0_ := Aside0.mk (blk_below BK.out hb); have n1_ := Aside0.mk (below_step HB.out hb); clear BK HB hb; have BK := n0_; have HB := n1_; clear n0_ n1_) | (go_at_call 17; (with_reducible refine (next_nil _).mono ?_); rintro e w2 ⟨rfl, hb⟩; have n0_ := Aside0.mk (blk_below BK.out hb); have n1_ := Aside0.mk (below_step HB.out hb); clear BK HB hb; have BK := n0_; have HB := n1_; clear n0_ n1_) | (go_at_call 18; (with_reducible refine (tries_nil _).mono ?_); rintro e w2 ⟨rfl, hb⟩; have n0_ := Aside0.mk (blk_below BK.out hb); have n1_ := Aside0.mk (below_step HB.out hb); clear BK HB hb; have BK := n0_; have HB := n1_; clear n0_ n1_) | (go_at_call 19; (with_reducible refine (sent_nil _).mono ?_); rintro e w2 ⟨rfl, hb⟩; have n0_ := Aside0.mk (blk_below BK.out hb); have n1_ := Aside0.mk (below_step HB.out hb); clear BK HB hb; have BK := n0_; have HB := n1_; clear n0_ n1_))
    obtain ⟨N, N0, N30, hN⟩ := u64_thirty a1
    rw [hN]
    clear hN
    have NN := Aside0.mk (And.intro N0 N30)
    clear N0 N30
    go_upto_block 0 with (fail)
    go_wp2
    -- LOOPS
    go_loopg [8, 9] (N.toNat + 1) (fun kq v8 v9 w' => ∃ (t s : Int) (m : Nat), v9 = .int .i64 t ∧ Aside0 (1 ≤ t ∧ t ≤ N + 1 ∧ t + kq = N.toNat + 2 ∧ s = (if t = 1 then 0 else a0 + t - 2) ∧ (m : Int) = s) ∧ Aside0 (Kd.R (Kd.int .i64) 3 w' w.heap.size (fun _ => True) v8 (vers 0 m)) ∧ Aside0 (w'.heap[g]? = some (plan a0 (t - 1) s)) ∧ Aside0 (Below w.heap.size w w'))
    case atStart => exact ⟨1, 0, 0, rfl, ⟨by have := NN.out; refine ⟨by omega, by omega, by omega, rfl, rfl⟩⟩, ⟨Kd.R_nil _ _ _ _ _⟩, BK, HB⟩
    case round =>
      clear BK HB
      obtain ⟨t, s, m, rfl, HI, HA, BK, HB⟩ := hrel
      have HS : Aside0 (0 ≤ s ∧ s ≤ 100 ∧ t ≤ 31) := ⟨by
        have h1 := B1.out; have h2 := B4.out; have h0 := NN.out; obtain ⟨h3, h4, h5, h6, h7⟩ := HI.out
        rw [h6]; split <;> omega⟩
      cases gk with
      | zero => exact absurd HI.out (by have := NN.out; omega)
      | succ k1 =>
        by_cases cl : t ≤ N
        · have c5 : decide (t ≤ N) = true := decide_eq_true cl
          have CL := Aside0.mk cl
          clear cl
          obtain ⟨n, hn⟩ : ∃ n : Nat, (n : Int) = if t - 1 = 0 then a0 else 1 := ⟨(if t - 1 = 0 then a0 else 1).toNat, by have h1 := B1.out; split <;> omega⟩
          have n14 : 1 ≤ n ∧ n ≤ 4 := by have h1 := B1.out; have h2 := B4.out; split at hn <;> omega
          have HN := Aside0.mk hn
          have N4 := Aside0.mk n14
          have HREF := Aside0.mk (ref_next a0 t s n B1.out B4.out HI.out.1 (by have := CL.out; have := NN.out; omega) HI.out.2.2.2.1 hn)
          clear hn n14
          go_upto_region 12 with (first | ((with_reducible refine gate_callee (f := 17) rfl ?_); refine goesL_ (some 59) rfl rfl Try.func17 (by kernel_rfl) rfl #[.pointer (some ⟨g, 0, none⟩)] rfl (by (try simp only [List.map_toArray, List.map_cons, List.map_nil]); first | done | rfl) ?_; (with_reducible refine (next_calls w _ g a0 (t - 1) s n BK.out HB.out GE.out B1.out B4.out (by have := HI.out.1; omega) (by have := HS.out; omega) HS.out.1 (by have := HS.out; omega) HN.out).mono ?_); rintro e w4 ⟨v1, rfl, hr, hbk, hk, hb⟩; refine ⟨_, rfl, ?_⟩; have D1 : Aside0 (Apart2 v1 u8) := ⟨fun k hk1 hk2 => by have h1_ := hr.1 k hk1; have h2_ := Kd.R_lt HA.out k hk2; omega⟩; have HL : Aside0 (Kd.R (Kd.int .i64) 3 w4 w.heap.size (fun _ => True) v1 (vers s n)) := ⟨Kd.R_mono hr (fun _ _ => trivial)⟩; have n0_ := Aside0.mk (keepR HA.out BK.out hk); clear BK HB HA; have BK : Aside0 (w4.heap[g]? = some (plan a0 t (s + n))) := ⟨by rw [show t - 1 + 1 = t by omega] at hbk; exact hbk⟩; have HB := Aside0.mk hb; have HA := n0_; clear n0_ hr hbk hk hb) | ((with_reducible refine gate_callee (f := 20) rfl ?_); refine goesL_ (some 62) rfl rfl Try.func20 (by kernel_rfl) rfl #[.int .i64 a0, .int .i64 t] rfl (by (try simp only [List.map_toArray, List.map_cons, List.map_nil]); first | done | rfl) ?_; (with_reducible refine (shuttleref22_Next.calls 10 a0 t (vers s n) _ HREF.out).mono ?_); rintro e w5 ⟨v2, rfl, hr, hb⟩; refine ⟨_, rfl, ?_⟩; have D2 : Aside0 (Apart2 v2 u8) := ⟨fun k hk1 hk2 => by have h1_ := Kd.R_base hr k hk1; have h2_ := Kd.R_lt HA.out k hk2; omega⟩; have D3 : Aside0 (Apart2 v1 v2) := ⟨fun k hk1 hk2 => by have h1_ := Kd.R_base hr k hk2; have h2_ := Kd.R_lt HL.out k hk1; omega⟩; have HW : Aside0 (Kd.R (Kd.int .i64) 3 w5 w.heap.size (fun _ => True) v2 (vers s n)) := ⟨Kd.R_lower hr (below_size HB.out)⟩; have n0_ := Aside0.mk (Kd.R_below HA.out hb); have n1_ := Aside0.mk (Kd.R_below HL.out hb); have n2_ := Aside0.mk (blk_below BK.out hb); have n3_ := Aside0.mk (below_step HB.out hb); clear BK HB HA HL hr hb; have HA := n0_; have HL := n1_; have BK := n2_; have HB := n3_; clear n0_ n1_ n2_ n3_))
          obtain ⟨A1, c1, e1⟩ := Kd.R_slice HL.out
          subst e1
          obtain ⟨A2, c2, e2⟩ := Kd.R_slice HW.out
          subst e2
          clear c5
          have hbne : ((n : Int) != (n : Int)) = false := by simp
          rw [vers_len] at HL HW D1 D2 D3 ⊢
          go_upto_block 2 with (fail)
          -- INNER
          go_wp2
          go_loopg [8, 12] 6 (fun kq v8 v12 w' => ∃ (i : Int) (j : Nat) (ys : List Int), v12 = .int .i64 i ∧ Aside0 (i = j ∧ j ≤ n ∧ j + kq = 6) ∧ Aside0 (Kd.R (Kd.int .i64) 3 w' w.heap.size (fun _ => True) v8 (vers 0 (m + j))) ∧ Aside0 (Kd.R (Kd.int .i64) 3 w' w.heap.size (fun _ => True) (.slice A1 n c1) ys) ∧ Aside0 (ys.length = n ∧ ∀ q : Int, i ≤ q → q < n → rd ys q = Int.tmod (s + q) 4) ∧ Aside0 (Kd.R (Kd.int .i64) 3 w' w.heap.size (fun _ => True) (.slice A2 n c2) (vers s n)) ∧ Aside0 (Apart2 (.slice A1 n c1) v8) ∧ Aside0 (Apart2 (.slice A2 n c2) v8) ∧ Aside0 (w'.heap[g]? = some (plan a0 t (s + n))) ∧ Aside0 (Below w.heap.size w w'))
          case atStart => exact ⟨0, 0, vers s n, rfl, ⟨by omega⟩, HA, HL, ⟨vers_len s n, fun q h0 h1 => rd_vers2 s q n h0 h1⟩, HW, D1, D2, BK, HB⟩
          case round =>
            clear HA HL HW D1 D2 BK HB
            obtain ⟨i, j, ys, rfl, HJ, HA, HL, HY, HW, D1, D2, BK, HB⟩ := hrel
            cases gk with
            | zero => exact absurd HJ.out (by have := N4.out; omega)
            | succ k2 =>
              by_cases cj : i < (n : Int)
              · have c6 : decide (i < (n : Int)) = true := decide_eq_true cj
                have p1 : 0 ≤ i := by have := HJ.out; omega
                have hyl : i < (ys.length : Int) := by rw [HY.out.1]; exact cj
                obtain ⟨gl, cl, el, hgl, _, gcs, hgc⟩ := Kd.R_form HL.out (by have := HY.out.1; have := N4.out; omega)
                rw [HY.out.1] at el
                obtain ⟨rfl, _, rfl⟩ : A1 = some ⟨gl, 0, none⟩ ∧ True ∧ c1 = cl := by injection el with e1 e2 e3; exact ⟨e1, trivial, e3⟩
                clear el
                have GL := Aside0.mk hgl
                have NE := Aside0.mk (blk_ne BK.out hgc (by decide))
                clear hgl hgc
                obtain ⟨hx, hf⟩ := Kd.R_celln 0 HL.out i p1 cj
                have ey : ys.getD i.toNat 0 = Int.tmod (s + i) 4 := HY.out.2 i (Int.le_refl _) cj
                replace hx : wr.cell? ⟨gl, i.toNat, none⟩ = some (.int .i64 (Int.tmod (s + i) 4)) := hx.trans (congrArg (fun z => some (Value.int .i64 z)) ey)
                obtain ⟨ad2, e2, hw2⟩ := Kd.at_int (Kd.R_reads' HW.out).2.2 i p1 (by rw [vers_len]; exact cj)
                cases e2
                rw [rd_vers2 s i n p1 cj] at hw2
                have HX : Aside0 (vers 0 (m + j) ++ [Int.tmod (s + i) 4] = vers 0 (m + (j + 1))) := ⟨by
                  have h1 := HI.out; have h2 := HJ.out
                  rw [show m + (j + 1) = m + j + 1 by omega, vers_app, show s + i = (m : Int) + j by omega]⟩
                have LM := Aside0.mk (show (vers 0 (m + j)).length < 200 by rw [vers_len]; have h1 := HI.out; have h2 := HJ.out; have h3 := HS.out; have h4 := N4.out; omega)
                generalize Int.tmod (s + i) 4 = x at hx hw2 HX ey
                have CJ := Aside0.mk cj
                have P1 := Aside0.mk p1
                replace p1 := eq_true p1
                have q1 := eq_true cj
                have hxx : (x != x) = false := by simp
                clear cj hyl ey
                go_wp2_with (first | ((with_reducible refine gate_builtin (b := .append) (xs := #[.tmp 83, .tmp 88]) rfl ?_); at_builtin; refine Kd.R_append (Kd.int .i64) (w0 := w) w.heap.size rfl (.tmp 83) (.tmp 88) 35 3 (.int .i64 0) 8 rfl Try.underlying35 info3 rfl (by decide) (by omega) u8 (vers 0 (m + j)) x [.int .i64 x] (fun _ => True) (fun _ => False) rfl rfl ?aP (fun _ hk => hk.elim) ?aF ?aO ?aB ?aS ?aL ?_; (case aP => exact rfl); (case aB => exact (by repeat (first | (with_reducible first | exact HB.out | apply below_alloc | apply pw_below_drewN | apply below_drew1 | refine below_set ?_ GE.out) | exact HB.out))); (case aF => exact (fun _ _ => trivial)); (case aO => exact (by (with_reducible repeat (first | apply Kd.R_alloc | apply Kd.R_drewN | apply Kd.R_drew)); exact HA.out)); (case aS => exact (below_size (by repeat (first | (with_reducible first | exact HB.out | apply below_alloc | apply pw_below_drewN | apply below_drew1 | refine below_set ?_ GE.out) | exact HB.out)))); (case aL => have := LM.out; omega); intro v123 w10 ho hb hg hat; rw [HX.out] at ho; have n0_ := Aside0.mk (moveR HL.out (w1 := w10) (fun k hk hlt => hg.block k hlt (fun e => D1.out k hk e.symm))); have n1_ := Aside0.mk (moveR HW.out (w1 := w10) (fun k hk hlt => hg.block k hlt (fun e => D2.out k hk e.symm))); have n2_ : Aside0 (Apart2 (.slice (some ⟨gl, 0, none⟩) n c1) v123) := ⟨fun k hk hk2 => by rcases hat with h | ⟨b, h, hle⟩; exact D1.out k hk (h ▸ hk2); rw [h] at hk2; have e := Option.some.inj hk2; have h3 := Kd.R_lt HL.out k hk; have h4 : wr.heap.size ≤ b := hle; omega⟩; have n3_ : Aside0 (Apart2 (.slice (some ad2) n c2) v123) := ⟨fun k hk hk2 => by rcases hat with h | ⟨b, h, hle⟩; exact D2.out k hk (h ▸ hk2); rw [h] at hk2; have e := Option.some.inj hk2; have h3 := Kd.R_lt HW.out k hk; have h4 : wr.heap.size ≤ b := hle; omega⟩; have n4_ := Aside0.mk (blk_grown (g := g) (o := plan a0 t (s + n)) (by (with_reducible repeat (first | refine blk_drewN ?_ _ | refine blk_drew ?_ | refine blk_alloc ?_ _)); exact BK.out) hg (Kd.R_ne HA.out BK.out (by decide))); clear HA HL HW D1 D2 BK HB hx hf hw2; have HA := Aside0.mk ho; have HL := n0_; have HW := n1_; have D1 := n2_; have D2 := n3_; have BK := n4_; have HB := Aside0.mk hb; clear n0_ n1_ n2_ n3_ n4_ ho hb hg hat; obtain ⟨hx, hf⟩ := Kd.R_celln 0 HL.out i P1.out CJ.out))
                repeat (go_quiet (fail); try go_wp2_with (first | ((with_reducible refine gate_builtin (b := .append) (xs := #[.tmp 83, .tmp 88]) rfl ?_); at_builtin; refine Kd.R_append (Kd.int .i64) (w0 := w) w.heap.size rfl (.tmp 83) (.tmp 88) 35 3 (.int .i64 0) 8 rfl Try.underlying35 info3 rfl (by decide) (by omega) u8 (vers 0 (m + j)) x [.int .i64 x] (fun _ => True) (fun _ => False) rfl rfl ?aP (fun _ hk => hk.elim) ?aF ?aO ?aB ?aS ?aL ?_; (case aP => exact rfl); (case aB => exact (by repeat (first | (with_reducible first | exact HB.out | apply below_alloc | apply pw_below_drewN | apply below_drew1 | refine below_set ?_ GE.out) | exact HB.out))); (case aF => exact (fun _ _ => trivial)); (case aO => exact (by (with_reducible repeat (first | apply Kd.R_alloc | apply Kd.R_drewN | apply Kd.R_drew)); exact HA.out)); (case aS => exact (below_size (by repeat (first | (with_reducible first | exact HB.out | apply below_alloc | apply pw_below_drewN | apply below_drew1 | refine below_set ?_ GE.out) | exact HB.out)))); (case aL => have := LM.out; omega); intro v123 w10 ho hb hg hat; rw [HX.out] at ho; have n0_ := Aside0.mk (moveR HL.out (w1 := w10) (fun k hk hlt => hg.block k hlt (fun e => D1.out k hk e.symm))); have n1_ := Aside0.mk (moveR HW.out (w1 := w10) (fun k hk hlt => hg.block k hlt (fun e => D2.out k hk e.symm))); have n2_ : Aside0 (Apart2 (.slice (some ⟨gl, 0, none⟩) n c1) v123) := ⟨fun k hk hk2 => by rcases hat with h | ⟨b, h, hle⟩; exact D1.out k hk (h ▸ hk2); rw [h] at hk2; have e := Option.some.inj hk2; have h3 := Kd.R_lt HL.out k hk; have h4 : wr.heap.size ≤ b := hle; omega⟩; have n3_ : Aside0 (Apart2 (.slice (some ad2) n c2) v123) := ⟨fun k hk hk2 => by rcases hat with h | ⟨b, h, hle⟩; exact D2.out k hk (h ▸ hk2); rw [h] at hk2; have e := Option.some.inj hk2; have h3 := Kd.R_lt HW.out k hk; have h4 : wr.heap.size ≤ b := hle; omega⟩; have n4_ := Aside0.mk (blk_grown (g := g) (o := plan a0 t (s + n)) (by (with_reducible repeat (first | refine blk_drewN ?_ _ | refine blk_drew ?_ | refine blk_alloc ?_ _)); exact BK.out) hg (Kd.R_ne HA.out BK.out (by decide))); clear HA HL HW D1 D2 BK HB hx hf hw2; have HA := Aside0.mk ho; have HL := n0_; have HW := n1_; have D1 := n2_; have D2 := n3_; have BK := n4_; have HB := Aside0.mk hb; clear n0_ n1_ n2_ n3_ n4_ ho hb hg hat; obtain ⟨hx, hf⟩ := Kd.R_celln 0 HL.out i P1.out CJ.out)))
                go_roundg k2
                case measure => omega
                case rel => exact ⟨wrap64 (i + 1), j + 1, ys.set i.toNat 9, rfl, ⟨by have h1 := HJ.out; have h2 := CJ.out; have h3 := N4.out; unfold wrap64; omega⟩, ⟨moveR HA.out (fun k hk hlt => Below.heap_setCell _ ⟨gl, i.toNat, none⟩ _ k (fun e => D1.out gl rfl (by rw [hk]; exact congrArg some e)))⟩, ⟨(Kd.R_putg HL.out i 9).1⟩, ⟨by rw [List.length_set]; exact HY.out.1, fun q h0 h1 => by
                  have e : wrap64 (i + 1) = i + 1 := by have h1 := HJ.out; have h2 := CJ.out; have h3 := N4.out; unfold wrap64; omega
                  rw [e] at h0
                  have h4 := HY.out.2 q (by omega) h1
                  have h5 := P1.out
                  unfold rd at h4 ⊢
                  rw [List.getD_eq_getElem?_getD, List.getElem?_set, if_neg (by omega), ← List.getD_eq_getElem?_getD]
                  exact h4⟩, ⟨moveR HW.out (fun k hk hlt => Below.heap_setCell _ ⟨gl, i.toNat, none⟩ _ k (fun e => D3.out gl rfl (by rw [hk]; exact congrArg some e)))⟩, D1, D2, ⟨blk_far (p := ⟨gl, i.toNat, none⟩) BK.out NE.out _⟩, ⟨below_set HB.out GL.out⟩⟩
              · have c6 : decide (i < (n : Int)) = false := decide_eq_false cj
                have ej : j = n := by have h1 := HJ.out; omega
                subst ej
                clear cj
                go_wp2
                go_roundg k1
                case measure => omega
                case rel => exact ⟨wrap64 (t + 1), s + j, m + j, rfl, ⟨by
                  have h1 := B1.out; have h2 := B4.out; have h3 := CL.out; have h4 := HI.out; have h5 := HN.out; have h6 := HS.out
                  have e : wrap64 (t + 1) = t + 1 := by unfold wrap64; omega
                  rw [e, if_neg (by omega)]
                  refine ⟨by omega, by omega, by omega, ?_, by omega⟩
                  by_cases ct : t = 1
                  · rw [if_pos (by omega)] at h5; have h7 := h4.2.2.2.1; rw [if_pos ct] at h7; omega
                  · rw [if_neg (by omega)] at h5; have h7 := h4.2.2.2.1; rw [if_neg ct] at h7; omega⟩, HA, ⟨by
                  have h6 := HS.out
                  have e : wrap64 (t + 1) = t + 1 := by have := HI.out; unfold wrap64; omega
                  rw [e, show t + 1 - 1 = t by omega]; exact BK.out⟩, HB⟩
        · have c5 : decide (t ≤ N) = false := decide_eq_false cl
          -- LAST
          have et : t - 1 = N := by have h1 := HI.out; omega
          have es : s = (m : Int) := HI.out.2.2.2.2.symm
          rw [et] at BK
          subst es
          clear et cl
          obtain ⟨A, c, ea⟩ := Kd.R_slice HA.out
          rw [vers_len] at ea
          subst ea
          go_upto_block 4 with (fail)
          clear c5
          go_wp2
          go_loopg [13] 200 (fun kq v13 w' => ∃ i : Int, v13 = .int .i64 i ∧ Aside0 (3 ≤ i ∧ i + kq = 203) ∧ Aside0 (Kd.R (Kd.int .i64) 3 w' w.heap.size (fun _ => True) (.slice A m c) (vers 0 m)) ∧ Aside0 (w'.heap[g]? = some (plan a0 N m)) ∧ Aside0 (Below w.heap.size w w'))
          case atStart => exact ⟨3, rfl, ⟨by omega⟩, HA, BK, HB⟩
          case round =>
            clear HA BK HB
            obtain ⟨i, rfl, HJ, HA, BK, HB⟩ := hrel
            by_cases cj : i < (m : Int)
            · cases gk with
              | zero => exact absurd HJ.out (by have := HS.out; omega)
              | succ k2 =>
                have c6 : decide (i < (m : Int)) = true := decide_eq_true cj
                have HM : (m : Int) ≤ 100 := HS.out.2.1
                have h3 := HJ.out.1
                obtain ⟨j3, hj3⟩ : ∃ j_ : Int, j_ = i - 3 := ⟨_, rfl⟩
                obtain ⟨j2, hj2⟩ : ∃ j_ : Int, j_ = i - 2 := ⟨_, rfl⟩
                obtain ⟨j1, hj1⟩ : ∃ j_ : Int, j_ = i - 1 := ⟨_, rfl⟩
                have e3 : wrap64 (i - 3) = j3 := by unfold wrap64; omega
                have e2 : wrap64 (i - 2) = j2 := by unfold wrap64; omega
                have e1 : wrap64 (i - 1) = j1 := by unfold wrap64; omega
                have p3 : 0 ≤ j3 := by omega
                have p2 : 0 ≤ j2 := by omega
                have p1 : 0 ≤ j1 := by omega
                have p0 : 0 ≤ i := by omega
                have q3 : j3 < (m : Int) := by omega
                have q2 : j2 < (m : Int) := by omega
                have q1 : j1 < (m : Int) := by omega
                obtain ⟨ad, ea, hx3⟩ := Kd.at_int (Kd.R_reads' HA.out).2.2 j3 p3 (by rw [vers_len]; exact q3)
                cases ea
                obtain ⟨ad2, ea, hx2⟩ := Kd.at_int (Kd.R_reads' HA.out).2.2 j2 p2 (by rw [vers_len]; exact q2)
                obtain rfl : ad = ad2 := (by injection ea)
                obtain ⟨ad2, ea, hx1⟩ := Kd.at_int (Kd.R_reads' HA.out).2.2 j1 p1 (by rw [vers_len]; exact q1)
                obtain rfl : ad = ad2 := (by injection ea)
                obtain ⟨ad2, ea, hx0⟩ := Kd.at_int (Kd.R_reads' HA.out).2.2 i p0 (by rw [vers_len]; exact cj)
                obtain rfl : ad = ad2 := (by injection ea)
                have tm : ∀ z : Int, 0 ≤ z → Int.tmod (0 + z) 4 = z % 4 := fun z hz => by rw [Int.zero_add, Int.tmod_eq_emod_of_nonneg hz]
                rw [rd_vers2 0 j3 m p3 q3, tm _ p3] at hx3
                rw [rd_vers2 0 j2 m p2 q2, tm _ p2] at hx2
                rw [rd_vers2 0 j1 m p1 q1, tm _ p1] at hx1
                rw [rd_vers2 0 i m p0 cj, tm _ p0] at hx0
                clear tm
                have f1 : wrap64 (j3 % 4 + j2 % 4) = j3 % 4 + j2 % 4 := by unfold wrap64; omega
                have f2 : wrap64 (j3 % 4 + j2 % 4 + j1 % 4) = j3 % 4 + j2 % 4 + j1 % 4 := by unfold wrap64; omega
                have hs6 : j3 % 4 + j2 % 4 + j1 % 4 + i % 4 = 6 := by
                  have hc : i % 4 = 0 ∨ i % 4 = 1 ∨ i % 4 = 2 ∨ i % 4 = 3 := by omega
                  rcases hc with hc | hc | hc | hc <;> omega
                have f3 : wrap64 (j3 % 4 + j2 % 4 + j1 % 4 + i % 4) = 6 := by rw [hs6]; unfold wrap64; omega
                clear hs6
                have n1 : (j3 % 4 == j2 % 4) = false := beq_eq_false_iff_ne.mpr (by omega)
                have n2 : (j2 % 4 == j1 % 4) = false := beq_eq_false_iff_ne.mpr (by omega)
                have n3 : (j1 % 4 == i % 4) = false := beq_eq_false_iff_ne.mpr (by omega)
                generalize j3 % 4 = x3 at hx3 f1 f2 f3 n1 n2 n3
                generalize j2 % 4 = x2 at hx2 f1 f2 f3 n1 n2 n3
                generalize j1 % 4 = x1 at hx1 f1 f2 f3 n1 n2 n3
                generalize i % 4 = x0 at hx0 f1 f2 f3 n1 n2 n3
                clear hj3 hj2 hj1
                have CJ := Aside0.mk cj
                replace p3 := eq_true p3
                replace p2 := eq_true p2
                replace p1 := eq_true p1
                replace p0 := eq_true p0
                replace q3 := eq_true q3
                replace q2 := eq_true q2
                replace q1 := eq_true q1
                have q0 := eq_true cj
                clear cj h3 HM
                have z6 : ((6 : Int) != 6) = false := by decide
                go_wp2
                have n0_ := Aside0.mk (Kd.R_drew HA.out)
                have n1_ := Aside0.mk (blk_drew BK.out)
                have n2_ := Aside0.mk (below_drew1 HB.out)
                clear HA BK HB
                have HA := n0_
                have BK := n1_
                have HB := n2_
                clear n0_ n1_ n2_
                refine start_ (n := 61) (S := fun w' => w'.cell? (ad.add j3.toNat) = some (.int .i64 x3) ∧ w'.cell? (ad.add j2.toNat) = some (.int .i64 x2) ∧ w'.cell? (ad.add j1.toNat) = some (.int .i64 x1) ∧ w'.cell? (ad.add i.toNat) = some (.int .i64 x0)) (ds := []) #[false, false, false, false, false, false, false, false, false, false, false, false, false, false, false, false, false, false, false, false, false, false, false, false, false, false, false, false, false, false, false, false, false, false, false, false, false, false, false, false, false, false, false, false, false, false, false, false, false, false, false, false, false, false, false, false, false, false, false, false, false] (by kernel_rfl) rfl rfl ⟨hx3, hx2, hx1, hx0⟩ (fun hHeld => ?_)
                generalize wr.drew = w49 at HA BK HB hHeld ⊢
                refine pure_ (i := 0) (N := some 99) (v := ?_) (a' := ?_) #[true, false, false, false, false, false, false, false, false, false, false, false, false, false, false, false, false, false, false, false, false, false, false, false, false, false, false, false, false, false, false, false, false, false, false, false, false, false, false, false, false, false, false, false, false, false, false, false, false, false, false, false, false, false, false, false, false, false, false, false, false] rfl rfl (by kernel_rfl) (fun _ _ _ h => h) (Or.inl ⟨by rfl, ?_⟩) ?_ ?_
                rotate_left
                · intro w'
                  go_simp
                  with_reducible rfl
                rotate_left
                · simp only [Act.put, List.setIfInBounds_toArray, List.set_cons_zero, List.set_cons_succ, i64_w, i32_w]
                  rfl
                refine pure_ (i := 1) (N := some 100) (v := ?_) (a' := ?_) #[true, true, false, false, false, false, false, false, false, false, false, false, false, false, false, false, false, false, false, false, false, false, false, false, false, false, false, false, false, false, false, false, false, false, false, false, false, false, false, false, false, false, false, false, false, false, false, false, false, false, false, false, false, false, false, false, false, false, false, false, false] rfl rfl (by kernel_rfl) (fun _ _ _ h => h) (Or.inl ⟨by rfl, ?_⟩) ?_ ?_
                rotate_left
                · intro w'
                  go_simp
                  with_reducible rfl
                rotate_left
                · simp only [Act.put, List.setIfInBounds_toArray, List.set_cons_zero, List.set_cons_succ, i64_w, i32_w]
                  rfl
                refine pure_ (i := 2) (N := some 101) (v := ?_) (a' := ?_) #[true, true, true, false, false, false, false, false, false, false, false, false, false, false, false, false, false, false, false, false, false, false, false, false, false, false, false, false, false, false, false, false, false, false, false, false, false, false, false, false, false, false, false, false, false, false, false, false, false, false, false, false, false, false, false, false, false, false, false, false, false] rfl rfl (by kernel_rfl) (fun _ _ _ h => h) (Or.inl ⟨by rfl, ?_⟩) ?_ ?_
                rotate_left
                · intro w'
                  go_simp
                  with_reducible rfl
                rotate_left
                · simp only [Act.put, List.setIfInBounds_toArray, List.set_cons_zero, List.set_cons_succ, i64_w, i32_w]
                  rfl
                refine pure_ (i := 3) (N := some 102) (v := ?_) (a' := ?_) #[true, true, true, true, false, false, false, false, false, false, false, false, false, false, false, false, false, false, false, false, false, false, false, false, false, false, false, false, false, false, false, false, false, false, false, false, false, false, false, false, false, false, false, false, false, false, false, false, false, false, false, false, false, false, false, false, false, false, false, false, false] rfl rfl (by kernel_rfl) (fun _ _ _ h => h) (Or.inl ⟨by rfl, ?_⟩) ?_ ?_
                rotate_left
                · intro w'
                  go_simp
                  with_reducible rfl
                rotate_left
                · simp only [Act.put, List.setIfInBounds_toArray, List.set_cons_zero, List.set_cons_succ, i64_w, i32_w]
                  rfl
                refine pure_ (i := 5) (N := some 104) (v := ?_) (a' := ?_) #[true, true, true, true, false, true, false, false, false, false, false, false, false, false, false, false, false, false, false, false, false, false, false, false, false, false, false, false, false, false, false, false, false, false, false, false, false, false, false, false, false, false, false, false, false, false, false, false, false, false, false, false, false, false, false, false, false, false, false, false, false] rfl rfl (by kernel_rfl) (fun _ _ _ h => h) (Or.inl ⟨by rfl, ?_⟩) ?_ ?_
                rotate_left
                · intro w'
                  go_simp
                  with_reducible rfl
                rotate_left
                · simp only [Act.put, List.setIfInBounds_toArray, List.set_cons_zero, List.set_cons_succ, i64_w, i32_w]
                  rfl
                refine pure_ (i := 6) (N := some 105) (v := ?_) (a' := ?_) #[true, true, true, true, false, true, true, false, false, false, false, false, false, false, false, false, false, false, false, false, false, false, false, false, false, false, false, false, false, false, false, false, false, false, false, false, false, false, false, false, false, false, false, false, false, false, false, false, false, false, false, false, false, false, false, false, false, false, false, false, false] rfl rfl (by kernel_rfl) (fun _ _ _ h => h) (Or.inl ⟨by rfl, ?_⟩) ?_ ?_
                rotate_left
                · intro w'
                  go_simp
                  with_reducible rfl
                rotate_left
                · simp only [Act.put, List.setIfInBounds_toArray, List.set_cons_zero, List.set_cons_succ, i64_w, i32_w]
                  rfl
                refine pure_ (i := 7) (N := some 106) (v := ?_) (a' := ?_) #[true, true, true, true, false, true, true, true, false, false, false, false, false, false, false, false, false, false, false, false, false, false, false, false, false, false, false, false, false, false, false, false, false, false, false, false, false, false, false, false, false, false, false, false, false, false, false, false, false, false, false, false, false, false, false, false, false, false, false, false, false] rfl rfl (by kernel_rfl) (fun _ _ _ h => h) (Or.inl ⟨by rfl, ?_⟩) ?_ ?_
                rotate_left
                · intro w'
                  go_simp
                  with_reducible rfl
                rotate_left
                · simp only [Act.put, List.setIfInBounds_toArray, List.set_cons_zero, List.set_cons_succ, i64_w, i32_w]
                  rfl
                refine pure_ (i := 8) (N := some 107) (v := ?_) (a' := ?_) #[true, true, true, true, false, true, true, true, true, false, false, false, false, false, false, false, false, false, false, false, false, false, false, false, false, false, false, false, false, false, false, false, false, false, false, false, false, false, false, false, false, false, false, false, false, false, false, false, false, false, false, false, false, false, false, false, false, false, false, false, false] rfl rfl (by kernel_rfl) (fun _ _ _ h => h) (Or.inl ⟨by rfl, ?_⟩) ?_ ?_
                rotate_left
                · intro w'
                  go_simp
                  with_reducible rfl
                rotate_left
                · simp only [Act.put, List.setIfInBounds_toArray, List.set_cons_zero, List.set_cons_succ, i64_w, i32_w]
                  rfl
                refine pure_ (i := 11) (N := some 110) (v := ?_) (a' := ?_) #[true, true, true, true, false, true, true, true, true, false, false, true, false, false, false, false, false, false, false, false, false, false, false, false, false, false, false, false, false, false, false, false, false, false, false, false, false, false, false, false, false, false, false, false, false, false, false, false, false, false, false, false, false, false, false, false, false, false, false, false, false] rfl rfl (by kernel_rfl) (fun _ _ _ h => h) (Or.inl ⟨by rfl, ?_⟩) ?_ ?_
                rotate_left
                · intro w'
                  go_simp
                  with_reducible rfl
                rotate_left
                · simp only [Act.put, List.setIfInBounds_toArray, List.set_cons_zero, List.set_cons_succ, i64_w, i32_w]
                  rfl
                refine pure_ (i := 12) (N := some 111) (v := ?_) (a' := ?_) #[true, true, true, true, false, true, true, true, true, false, false, true, true, false, false, false, false, false, false, false, false, false, false, false, false, false, false, false, false, false, false, false, false, false, false, false, false, false, false, false, false, false, false, false, false, false, false, false, false, false, false, false, false, false, false, false, false, false, false, false, false] rfl rfl (by kernel_rfl) (fun _ _ _ h => h) (Or.inl ⟨by rfl, ?_⟩) ?_ ?_
                rotate_left
                · intro w'
                  go_simp
                  with_reducible rfl
                rotate_left
                · simp only [Act.put, List.setIfInBounds_toArray, List.set_cons_zero, List.set_cons_succ, i64_w, i32_w]
                  rfl
                refine pure_ (i := 13) (N := some 112) (v := ?_) (a' := ?_) #[true, true, true, true, false, true, true, true, true, false, false, true, true, true, false, false, false, false, false, false, false, false, false, false, false, false, false, false, false, false, false, false, false, false, false, false, false, false, false, false, false, false, false, false, false, false, false, false, false, false, false, false, false, false, false, false, false, false, false, false, false] rfl rfl (by kernel_rfl) (fun _ _ _ h => h) (Or.inl ⟨by rfl, ?_⟩) ?_ ?_
                rotate_left
                · intro w'
                  go_simp
                  with_reducible rfl
                rotate_left
                · simp only [Act.put, List.setIfInBounds_toArray, List.set_cons_zero, List.set_cons_succ, i64_w, i32_w]
                  rfl
                refine pure_ (i := 14) (N := some 113) (v := ?_) (a' := ?_) #[true, true, true, true, false, true, true, true, true, false, false, true, true, true, true, false, false, false, false, false, false, false, false, false, false, false, false, false, false, false, false, false, false, false, false, false, false, false, false, false, false, false, false, false, false, false, false, false, false, false, false, false, false, false, false, false, false, false, false, false, false] rfl rfl (by kernel_rfl) (fun _ _ _ h => h) (Or.inl ⟨by rfl, ?_⟩) ?_ ?_
                rotate_left
                · intro w'
                  go_simp
                  with_reducible rfl
                rotate_left
                · simp only [Act.put, List.setIfInBounds_toArray, List.set_cons_zero, List.set_cons_succ, i64_w, i32_w]
                  rfl
                refine pure_ (i := 17) (N := some 116) (v := ?_) (a' := ?_) #[true, true, true, true, false, true, true, true, true, false, false, true, true, true, true, false, false, true, false, false, false, false, false, false, false, false, false, false, false, false, false, false, false, false, false, false, false, false, false, false, false, false, false, false, false, false, false, false, false, false, false, false, false, false, false, false, false, false, false, false, false] rfl rfl (by kernel_rfl) (fun _ _ _ h => h) (Or.inl ⟨by rfl, ?_⟩) ?_ ?_
                rotate_left
                · intro w'
                  go_simp
                  with_reducible rfl
                rotate_left
                · simp only [Act.put, List.setIfInBounds_toArray, List.set_cons_zero, List.set_cons_succ, i64_w, i32_w]
                  rfl
                refine pure_ (i := 18) (N := some 117) (v := ?_) (a' := ?_) #[true, true, true, true, false, true, true, true, true, false, false, true, true, true, true, false, false, true, true, false, false, false, false, false, false, false, false, false, false, false, false, false, false, false, false, false, false, false, false, false, false, false, false, false, false, false, false, false, false, false, false, false, false, false, false, false, false, false, false, false, false] rfl rfl (by kernel_rfl) (fun _ _ _ h => h) (Or.inl ⟨by rfl, ?_⟩) ?_ ?_
                rotate_left
                · intro w'
                  go_simp
                  with_reducible rfl
                rotate_left
                · simp only [Act.put, List.setIfInBounds_toArray, List.set_cons_zero, List.set_cons_succ, i64_w, i32_w]
                  rfl
                refine pure_ (i := 19) (N := some 118) (v := ?_) (a' := ?_) #[true, true, true, true, false, true, true, true, true, false, false, true, true, true, true, false, false, true, true, true, false, false, false, false, false, false, false, false, false, false, false, false, false, false, false, false, false, false, false, false, false, false, false, false, false, false, false, false, false, false, false, false, false, false, false, false, false, false, false, false, false] rfl rfl (by kernel_rfl) (fun _ _ _ h => h) (Or.inl ⟨by rfl, ?_⟩) ?_ ?_
                rotate_left
                · intro w'
                  go_simp
                  with_reducible rfl
                rotate_left
                · simp only [Act.put, List.setIfInBounds_toArray, List.set_cons_zero, List.set_cons_succ, i64_w, i32_w]
                  rfl
                refine take_ (i := 4) (N := some 103) (v := ?_) (a' := ?_) #[true, true, true, true, true, true, true, true, true, false, false, true, true, true, true, false, false, true, true, true, false, false, false, false, false, false, false, false, false, false, false, false, false, false, false, false, false, false, false, false, false, false, false, false, false, false, false, false, false, false, false, false, false, false, false, false, false, false, false, false, false] rfl rfl (by kernel_rfl) (fun _ _ _ h => h) (Or.inl ⟨by rfl, ?_⟩) hHeld ?_ ?_
                rotate_left
                · rintro w' ⟨s0, s1, s2, s3⟩
                  go_simp
                  with_reducible rfl
                rotate_left
                · simp only [Act.put, List.setIfInBounds_toArray, List.set_cons_zero, List.set_cons_succ, i64_w, i32_w]
                  rfl
                refine take_ (i := 9) (N := some 108) (v := ?_) (a' := ?_) #[true, true, true, true, true, true, true, true, true, true, false, true, true, true, true, false, false, true, true, true, false, false, false, false, false, false, false, false, false, false, false, false, false, false, false, false, false, false, false, false, false, false, false, false, false, false, false, false, false, false, false, false, false, false, false, false, false, false, false, false, false] rfl rfl (by kernel_rfl) (fun _ _ _ h => h) (Or.inl ⟨by rfl, ?_⟩) hHeld ?_ ?_
                rotate_left
                · rintro w' ⟨s0, s1, s2, s3⟩
                  go_simp
                  with_reducible rfl
                rotate_left
                · simp only [Act.put, List.setIfInBounds_toArray, List.set_cons_zero, List.set_cons_succ, i64_w, i32_w]
                  rfl
                refine pure_ (i := 10) (N := some 109) (v := ?_) (a' := ?_) #[true, true, true, true, true, true, true, true, true, true, true, true, true, true, true, false, false, true, true, true, false, false, false, false, false, false, false, false, false, false, false, false, false, false, false, false, false, false, false, false, false, false, false, false, false, false, false, false, false, false, false, false, false, false, false, false, false, false, false, false, false] rfl rfl (by kernel_rfl) (fun _ _ _ h => h) (Or.inl ⟨by rfl, ?_⟩) ?_ ?_
                rotate_left
                · intro w'
                  go_simp
                  with_reducible rfl
                rotate_left
                · simp only [Act.put, List.setIfInBounds_toArray, List.set_cons_zero, List.set_cons_succ, i64_w, i32_w]
                  rfl
                refine take_ (i := 15) (N := some 114) (v := ?_) (a' := ?_) #[true, true, true, true, true, true, true, true, true, true, true, true, true, true, true, true, false, true, true, true, false, false, false, false, false, false, false, false, false, false, false, false, false, false, false, false, false, false, false, false, false, false, false, false, false, false, false, false, false, false, false, false, false, false, false, false, false, false, false, false, false] rfl rfl (by kernel_rfl) (fun _ _ _ h => h) (Or.inl ⟨by rfl, ?_⟩) hHeld ?_ ?_
                rotate_left
                · rintro w' ⟨s0, s1, s2, s3⟩
                  go_simp
                  with_reducible rfl
                rotate_left
                · simp only [Act.put, List.setIfInBounds_toArray, List.set_cons_zero, List.set_cons_succ, i64_w, i32_w]
                  rfl
                refine pure_ (i := 16) (N := some 115) (v := ?_) (a' := ?_) #[true, true, true, true, true, true, true, true, true, true, true, true, true, true, true, true, true, true, true, true, false, false, false, false, false, false, false, false, false, false, false, false, false, false, false, false, false, false, false, false, false, false, false, false, false, false, false, false, false, false, false, false, false, false, false, false, false, false, false, false, false] rfl rfl (by kernel_rfl) (fun _ _ _ h => h) (Or.inl ⟨by rfl, ?_⟩) ?_ ?_
                rotate_left
                · intro w'
                  go_simp
                  with_reducible rfl
                rotate_left
                · simp only [Act.put, List.setIfInBounds_toArray, List.set_cons_zero, List.set_cons_succ, i64_w, i32_w]
                  rfl
                refine take_ (i := 20) (N := some 119) (v := ?_) (a' := ?_) #[true, true, true, true, true, true, true, true, true, true, true, true, true, true, true, true, true, true, true, true, true, false, false, false, false, false, false, false, false, false, false, false, false, false, false, false, false, false, false, false, false, false, false, false, false, false, false, false, false, false, false, false, false, false, false, false, false, false, false, false, false] rfl rfl (by kernel_rfl) (fun _ _ _ h => h) (Or.inl ⟨by rfl, ?_⟩) hHeld ?_ ?_
                rotate_left
                · rintro w' ⟨s0, s1, s2, s3⟩
                  go_simp
                  with_reducible rfl
                rotate_left
                · simp only [Act.put, List.setIfInBounds_toArray, List.set_cons_zero, List.set_cons_succ, i64_w, i32_w]
                  rfl
                refine pure_ (i := 21) (N := some 120) (v := ?_) (a' := ?_) #[true, true, true, true, true, true, true, true, true, true, true, true, true, true, true, true, true, true, true, true, true, true, false, false, false, false, false, false, false, false, false, false, false, false, false, false, false, false, false, false, false, false, false, false, false, false, false, false, false, false, false, false, false, false, false, false, false, false, false, false, false] rfl rfl (by kernel_rfl) (fun _ _ _ h => h) (Or.inl ⟨by rfl, ?_⟩) ?_ ?_
                rotate_left
                · intro w'
                  go_simp
                  with_reducible rfl
                rotate_left
                · simp only [Act.put, List.setIfInBounds_toArray, List.set_cons_zero, List.set_cons_succ, i64_w, i32_w]
                  rfl
                refine pure_ (i := 22) (N := some 121) (v := ?_) (a' := ?_) #[true, true, true, true, true, true, true, true, true, true, true, true, true, true, true, true, true, true, true, true, true, true, true, false, false, false, false, false, false, false, false, false, false, false, false, false, false, false, false, false, false, false, false, false, false, false, false, false, false, false, false, false, false, false, false, false, false, false, false, false, false] rfl rfl (by kernel_rfl) (fun _ _ _ h => h) (Or.inl ⟨by rfl, ?_⟩) ?_ ?_
                rotate_left
                · intro w'
                  go_simp
                  with_reducible rfl
                rotate_left
                · simp only [Act.put, List.setIfInBounds_toArray, List.set_cons_zero, List.set_cons_succ, i64_w, i32_w]
                  rfl
                refine pure_ (i := 23) (N := some 122) (v := ?_) (a' := ?_) #[true, true, true, true, true, true, true, true, true, true, true, true, true, true, true, true, true, true, true, true, true, true, true, true, false, false, false, false, false, false, false, false, false, false, false, false, false, false, false, false, false, false, false, false, false, false, false, false, false, false, false, false, false, false, false, false, false, false, false, false, false] rfl rfl (by kernel_rfl) (fun _ _ _ h => h) (Or.inl ⟨by rfl, ?_⟩) ?_ ?_
                rotate_left
                · intro w'
                  go_simp
                  with_reducible rfl
                rotate_left
                · simp only [Act.put, List.setIfInBounds_toArray, List.set_cons_zero, List.set_cons_succ, i64_w, i32_w]
                  rfl
                refine pure_ (i := 24) (N := some 123) (v := ?_) (a' := ?_) #[true, true, true, true, true, true, true, true, true, true, true, true, true, true, true, true, true, true, true, true, true, true, true, true, true, false, false, false, false, false, false, false, false, false, false, false, false, false, false, false, false, false, false, false, false, false, false, false, false, false, false, false, false, false, false, false, false, false, false, false, false] rfl rfl (by kernel_rfl) (fun _ _ _ h => h) (Or.inl ⟨by rfl, ?_⟩) ?_ ?_
                rotate_left
                · intro w'
                  go_simp
                  with_reducible rfl
                rotate_left
                · simp only [Act.put, List.setIfInBounds_toArray, List.set_cons_zero, List.set_cons_succ, i64_w, i32_w]
                  rfl
                refine pure_ (i := 25) (N := some 124) (v := ?_) (a' := ?_) #[true, true, true, true, true, true, true, true, true, true, true, true, true, true, true, true, true, true, true, true, true, true, true, true, true, true, false, false, false, false, false, false, false, false, false, false, false, false, false, false, false, false, false, false, false, false, false, false, false, false, false, false, false, false, false, false, false, false, false, false, false] rfl rfl (by kernel_rfl) (fun _ _ _ h => h) (Or.inl ⟨by rfl, ?_⟩) ?_ ?_
                rotate_left
                · intro w'
                  go_simp
                  with_reducible rfl
                rotate_left
                · simp only [Act.put, List.setIfInBounds_toArray, List.set_cons_zero, List.set_cons_succ, i64_w, i32_w]
                  rfl
                refine pure_ (i := 26) (N := some 125) (v := ?_) (a' := ?_) #[true, true, true, true, true, true, true, true, true, true, true, true, true, true, true, true, true, true, true, true, true, true, true, true, true, true, true, false, false, false, false, false, false, false, false, false, false, false, false, false, false, false, false, false, false, false, false, false, false, false, false, false, false, false, false, false, false, false, false, false, false] rfl rfl (by kernel_rfl) (fun _ _ _ h => h) (Or.inl ⟨by rfl, ?_⟩) ?_ ?_
                rotate_left
                · intro w'
                  go_simp
                  with_reducible rfl
                rotate_left
                · simp only [Act.put, List.setIfInBounds_toArray, List.set_cons_zero, List.set_cons_succ, i64_w, i32_w]
                  rfl
                refine pure_ (i := 27) (N := some 126) (v := ?_) (a' := ?_) #[true, true, true, true, true, true, true, true, true, true, true, true, true, true, true, true, true, true, true, true, true, true, true, true, true, true, true, true, false, false, false, false, false, false, false, false, false, false, false, false, false, false, false, false, false, false, false, false, false, false, false, false, false, false, false, false, false, false, false, false, false] rfl rfl (by kernel_rfl) (fun _ _ _ h => h) (Or.inl ⟨by rfl, ?_⟩) ?_ ?_
                rotate_left
                · intro w'
                  go_simp
                  with_reducible rfl
                rotate_left
                · simp only [Act.put, List.setIfInBounds_toArray, List.set_cons_zero, List.set_cons_succ, i64_w, i32_w]
                  rfl
                refine pure_ (i := 29) (N := some 128) (v := ?_) (a' := ?_) #[true, true, true, true, true, true, true, true, true, true, true, true, true, true, true, true, true, true, true, true, true, true, true, true, true, true, true, true, false, true, false, false, false, false, false, false, false, false, false, false, false, false, false, false, false, false, false, false, false, false, false, false, false, false, false, false, false, false, false, false, false] rfl rfl (by kernel_rfl) (fun _ _ _ h => h) (Or.inl ⟨by rfl, ?_⟩) ?_ ?_
                rotate_left
                · intro w'
                  go_simp
                  with_reducible rfl
                rotate_left
                · simp only [Act.put, List.setIfInBounds_toArray, List.set_cons_zero, List.set_cons_succ, i64_w, i32_w]
                  rfl
                refine pure_ (i := 30) (N := some 129) (v := ?_) (a' := ?_) #[true, true, true, true, true, true, true, true, true, true, true, true, true, true, true, true, true, true, true, true, true, true, true, true, true, true, true, true, false, true, true, false, false, false, false, false, false, false, false, false, false, false, false, false, false, false, false, false, false, false, false, false, false, false, false, false, false, false, false, false, false] rfl rfl (by kernel_rfl) (fun _ _ _ h => h) (Or.inl ⟨by rfl, ?_⟩) ?_ ?_
                rotate_left
                · intro w'
                  go_simp
                  with_reducible rfl
                rotate_left
                · simp only [Act.put, List.setIfInBounds_toArray, List.set_cons_zero, List.set_cons_succ, i64_w, i32_w]
                  rfl
                refine pure_ (i := 31) (N := some 130) (v := ?_) (a' := ?_) #[true, true, true, true, true, true, true, true, true, true, true, true, true, true, true, true, true, true, true, true, true, true, true, true, true, true, true, true, false, true, true, true, false, false, false, false, false, false, false, false, false, false, false, false, false, false, false, false, false, false, false, false, false, false, false, false, false, false, false, false, false] rfl rfl (by kernel_rfl) (fun _ _ _ h => h) (Or.inl ⟨by rfl, ?_⟩) ?_ ?_
                rotate_left
                · intro w'
                  go_simp
                  with_reducible rfl
                rotate_left
                · simp only [Act.put, List.setIfInBounds_toArray, List.set_cons_zero, List.set_cons_succ, i64_w, i32_w]
                  rfl
                refine pure_ (i := 32) (N := some 131) (v := ?_) (a' := ?_) #[true, true, true, true, true, true, true, true, true, true, true, true, true, true, true, true, true, true, true, true, true, true, true, true, true, true, true, true, false, true, true, true, true, false, false, false, false, false, false, false, false, false, false, false, false, false, false, false, false, false, false, false, false, false, false, false, false, false, false, false, false] rfl rfl (by kernel_rfl) (fun _ _ _ h => h) (Or.inl ⟨by rfl, ?_⟩) ?_ ?_
                rotate_left
                · intro w'
                  go_simp
                  with_reducible rfl
                rotate_left
                · simp only [Act.put, List.setIfInBounds_toArray, List.set_cons_zero, List.set_cons_succ, i64_w, i32_w]
                  rfl
                refine take_ (i := 28) (N := some 127) (v := ?_) (a' := ?_) #[true, true, true, true, true, true, true, true, true, true, true, true, true, true, true, true, true, true, true, true, true, true, true, true, true, true, true, true, true, true, true, true, true, false, false, false, false, false, false, false, false, false, false, false, false, false, false, false, false, false, false, false, false, false, false, false, false, false, false, false, false] rfl rfl (by kernel_rfl) (fun _ _ _ h => h) (Or.inl ⟨by rfl, ?_⟩) hHeld ?_ ?_
                rotate_left
                · rintro w' ⟨s0, s1, s2, s3⟩
                  go_simp
                  with_reducible rfl
                rotate_left
                · simp only [Act.put, List.setIfInBounds_toArray, List.set_cons_zero, List.set_cons_succ, i64_w, i32_w]
                  rfl
                refine take_ (i := 33) (N := some 132) (v := ?_) (a' := ?_) #[true, true, true, true, true, true, true, true, true, true, true, true, true, true, true, true, true, true, true, true, true, true, true, true, true, true, true, true, true, true, true, true, true, true, false, false, false, false, false, false, false, false, false, false, false, false, false, false, false, false, false, false, false, false, false, false, false, false, false, false, false] rfl rfl (by kernel_rfl) (fun _ _ _ h => h) (Or.inl ⟨by rfl, ?_⟩) hHeld ?_ ?_
                rotate_left
                · rintro w' ⟨s0, s1, s2, s3⟩
                  go_simp
                  with_reducible rfl
                rotate_left
                · simp only [Act.put, List.setIfInBounds_toArray, List.set_cons_zero, List.set_cons_succ, i64_w, i32_w]
                  rfl
                refine pure_ (i := 34) (N := some 133) (v := ?_) (a' := ?_) #[true, true, true, true, true, true, true, true, true, true, true, true, true, true, true, true, true, true, true, true, true, true, true, true, true, true, true, true, true, true, true, true, true, true, true, false, false, false, false, false, false, false, false, false, false, false, false, false, false, false, false, false, false, false, false, false, false, false, false, false, false] rfl rfl (by kernel_rfl) (fun _ _ _ h => h) (Or.inl ⟨by rfl, ?_⟩) ?_ ?_
                rotate_left
                · intro w'
                  go_simp
                  with_reducible rfl
                rotate_left
                · simp only [Act.put, List.setIfInBounds_toArray, List.set_cons_zero, List.set_cons_succ, i64_w, i32_w]
                  rfl
                refine pure_ (i := 35) (N := some 134) (v := ?_) (a' := ?_) #[true, true, true, true, true, true, true, true, true, true, true, true, true, true, true, true, true, true, true, true, true, true, true, true, true, true, true, true, true, true, true, true, true, true, true, true, false, false, false, false, false, false, false, false, false, false, false, false, false, false, false, false, false, false, false, false, false, false, false, false, false] rfl rfl (by kernel_rfl) (fun _ _ _ h => h) (Or.inl ⟨by rfl, ?_⟩) ?_ ?_
                rotate_left
                · intro w'
                  go_simp
                  with_reducible rfl
                rotate_left
                · simp only [Act.put, List.setIfInBounds_toArray, List.set_cons_zero, List.set_cons_succ, i64_w, i32_w]
                  rfl
                refine pure_ (i := 36) (N := some 135) (v := ?_) (a' := ?_) #[true, true, true, true, true, true, true, true, true, true, true, true, true, true, true, true, true, true, true, true, true, true, true, true, true, true, true, true, true, true, true, true, true, true, true, true, true, false, false, false, false, false, false, false, false, false, false, false, false, false, false, false, false, false, false, false, false, false, false, false, false] rfl rfl (by kernel_rfl) (fun _ _ _ h => h) (Or.inl ⟨by rfl, ?_⟩) ?_ ?_
                rotate_left
                · intro w'
                  go_simp
                  with_reducible rfl
                rotate_left
                · simp only [Act.put, List.setIfInBounds_toArray, List.set_cons_zero, List.set_cons_succ, i64_w, i32_w]
                  rfl
                refine pure_ (i := 37) (N := some 136) (v := ?_) (a' := ?_) #[true, true, true, true, true, true, true, true, true, true, true, true, true, true, true, true, true, true, true, true, true, true, true, true, true, true, true, true, true, true, true, true, true, true, true, true, true, true, false, false, false, false, false, false, false, false, false, false, false, false, false, false, false, false, false, false, false, false, false, false, false] rfl rfl (by kernel_rfl) (fun _ _ _ h => h) (Or.inl ⟨by rfl, ?_⟩) ?_ ?_
                rotate_left
                · intro w'
                  go_simp
                  with_reducible rfl
                rotate_left
                · simp only [Act.put, List.setIfInBounds_toArray, List.set_cons_zero, List.set_cons_succ, i64_w, i32_w]
                  rfl
                refine pure_ (i := 38) (N := some 137) (v := ?_) (a' := ?_) #[true, true, true, true, true, true, true, true, true, true, true, true, true, true, true, true, true, true, true, true, true, true, true, true, true, true, true, true, true, true, true, true, true, true, true, true, true, true, true, false, false, false, false, false, false, false, false, false, false, false, false, false, false, false, false, false, false, false, false, false, false] rfl rfl (by kernel_rfl) (fun _ _ _ h => h) (Or.inl ⟨by rfl, ?_⟩) ?_ ?_
                rotate_left
                · intro w'
                  go_simp
                  with_reducible rfl
                rotate_left
                · simp only [Act.put, List.setIfInBounds_toArray, List.set_cons_zero, List.set_cons_succ, i64_w, i32_w]
                  rfl
                refine pure_ (i := 39) (N := some 138) (v := ?_) (a' := ?_) #[true, true, true, true, true, true, true, true, true, true, true, true, true, true, true, true, true, true, true, true, true, true, true, true, true, true, true, true, true, true, true, true, true, true, true, true, true, true, true, true, false, false, false, false, false, false, false, false, false, false, false, false, false, false, false, false, false, false, false, false, false] rfl rfl (by kernel_rfl) (fun _ _ _ h => h) (Or.inl ⟨by rfl, ?_⟩) ?_ ?_
                rotate_left
                · intro w'
                  go_simp
                  with_reducible rfl
                rotate_left
                · simp only [Act.put, List.setIfInBounds_toArray, List.set_cons_zero, List.set_cons_succ, i64_w, i32_w]
                  rfl
                refine pure_ (i := 40) (N := some 139) (v := ?_) (a' := ?_) #[true, true, true, true, true, true, true, true, true, true, true, true, true, true, true, true, true, true, true, true, true, true, true, true, true, true, true, true, true, true, true, true, true, true, true, true, true, true, true, true, true, false, false, false, false, false, false, false, false, false, false, false, false, false, false, false, false, false, false, false, false] rfl rfl (by kernel_rfl) (fun _ _ _ h => h) (Or.inl ⟨by rfl, ?_⟩) ?_ ?_
                rotate_left
                · intro w'
                  go_simp
                  with_reducible rfl
                rotate_left
                · simp only [Act.put, List.setIfInBounds_toArray, List.set_cons_zero, List.set_cons_succ, i64_w, i32_w]
                  rfl
                refine pure_ (i := 42) (N := some 141) (v := ?_) (a' := ?_) #[true, true, true, true, true, true, true, true, true, true, true, true, true, true, true, true, true, true, true, true, true, true, true, true, true, true, true, true, true, true, true, true, true, true, true, true, true, true, true, true, true, false, true, false, false, false, false, false, false, false, false, false, false, false, false, false, false, false, false, false, false] rfl rfl (by kernel_rfl) (fun _ _ _ h => h) (Or.inl ⟨by rfl, ?_⟩) ?_ ?_
                rotate_left
                · intro w'
                  go_simp
                  with_reducible rfl
                rotate_left
                · simp only [Act.put, List.setIfInBounds_toArray, List.set_cons_zero, List.set_cons_succ, i64_w, i32_w]
                  rfl
                refine pure_ (i := 43) (N := some 142) (v := ?_) (a' := ?_) #[true, true, true, true, true, true, true, true, true, true, true, true, true, true, true, true, true, true, true, true, true, true, true, true, true, true, true, true, true, true, true, true, true, true, true, true, true, true, true, true, true, false, true, true, false, false, false, false, false, false, false, false, false, false, false, false, false, false, false, false, false] rfl rfl (by kernel_rfl) (fun _ _ _ h => h) (Or.inl ⟨by rfl, ?_⟩) ?_ ?_
                rotate_left
                · intro w'
                  go_simp
                  with_reducible rfl
                rotate_left
                · simp only [Act.put, List.setIfInBounds_toArray, List.set_cons_zero, List.set_cons_succ, i64_w, i32_w]
                  rfl
                refine pure_ (i := 44) (N := some 143) (v := ?_) (a' := ?_) #[true, true, true, true, true, true, true, true, true, true, true, true, true, true, true, true, true, true, true, true, true, true, true, true, true, true, true, true, true, true, true, true, true, true, true, true, true, true, true, true, true, false, true, true, true, false, false, false, false, false, false, false, false, false, false, false, false, false, false, false, false] rfl rfl (by kernel_rfl) (fun _ _ _ h => h) (Or.inl ⟨by rfl, ?_⟩) ?_ ?_
                rotate_left
                · intro w'
                  go_simp
                  with_reducible rfl
                rotate_left
                · simp only [Act.put, List.setIfInBounds_toArray, List.set_cons_zero, List.set_cons_succ, i64_w, i32_w]
                  rfl
                refine pure_ (i := 45) (N := some 144) (v := ?_) (a' := ?_) #[true, true, true, true, true, true, true, true, true, true, true, true, true, true, true, true, true, true, true, true, true, true, true, true, true, true, true, true, true, true, true, true, true, true, true, true, true, true, true, true, true, false, true, true, true, true, false, false, false, false, false, false, false, false, false, false, false, false, false, false, false] rfl rfl (by kernel_rfl) (fun _ _ _ h => h) (Or.inl ⟨by rfl, ?_⟩) ?_ ?_
                rotate_left
                · intro w'
                  go_simp
                  with_reducible rfl
                rotate_left
                · simp only [Act.put, List.setIfInBounds_toArray, List.set_cons_zero, List.set_cons_succ, i64_w, i32_w]
                  rfl
                refine take_ (i := 41) (N := some 140) (v := ?_) (a' := ?_) #[true, true, true, true, true, true, true, true, true, true, true, true, true, true, true, true, true, true, true, true, true, true, true, true, true, true, true, true, true, true, true, true, true, true, true, true, true, true, true, true, true, true, true, true, true, true, false, false, false, false, false, false, false, false, false, false, false, false, false, false, false] rfl rfl (by kernel_rfl) (fun _ _ _ h => h) (Or.inl ⟨by rfl, ?_⟩) hHeld ?_ ?_
                rotate_left
                · rintro w' ⟨s0, s1, s2, s3⟩
                  go_simp
                  with_reducible rfl
                rotate_left
                · simp only [Act.put, List.setIfInBounds_toArray, List.set_cons_zero, List.set_cons_succ, i64_w, i32_w]
                  rfl
                refine take_ (i := 46) (N := some 145) (v := ?_) (a' := ?_) #[true, true, true, true, true, true, true, true, true, true, true, true, true, true, true, true, true, true, true, true, true, true, true, true, true, true, true, true, true, true, true, true, true, true, true, true, true, true, true, true, true, true, true, true, true, true, true, false, false, false, false, false, false, false, false, false, false, false, false, false, false] rfl rfl (by kernel_rfl) (fun _ _ _ h => h) (Or.inl ⟨by rfl, ?_⟩) hHeld ?_ ?_
                rotate_left
                · rintro w' ⟨s0, s1, s2, s3⟩
                  go_simp
                  with_reducible rfl
                rotate_left
                · simp only [Act.put, List.setIfInBounds_toArray, List.set_cons_zero, List.set_cons_succ, i64_w, i32_w]
                  rfl
                refine pure_ (i := 47) (N := some 146) (v := ?_) (a' := ?_) #[true, true, true, true, true, true, true, true, true, true, true, true, true, true, true, true, true, true, true, true, true, true, true, true, true, true, true, true, true, true, true, true, true, true, true, true, true, true, true, true, true, true, true, true, true, true, true, true, false, false, false, false, false, false, false, false, false, false, false, false, false] rfl rfl (by kernel_rfl) (fun _ _ _ h => h) (Or.inl ⟨by rfl, ?_⟩) ?_ ?_
                rotate_left
                · intro w'
                  go_simp
                  with_reducible rfl
                rotate_left
                · simp only [Act.put, List.setIfInBounds_toArray, List.set_cons_zero, List.set_cons_succ, i64_w, i32_w]
                  rfl
                refine pure_ (i := 48) (N := some 147) (v := ?_) (a' := ?_) #[true, true, true, true, true, true, true, true, true, true, true, true, true, true, true, true, true, true, true, true, true, true, true, true, true, true, true, true, true, true, true, true, true, true, true, true, true, true, true, true, true, true, true, true, true, true, true, true, true, false, false, false, false, false, false, false, false, false, false, false, false] rfl rfl (by kernel_rfl) (fun _ _ _ h => h) (Or.inl ⟨by rfl, ?_⟩) ?_ ?_
                rotate_left
                · intro w'
                  go_simp
                  with_reducible rfl
                rotate_left
                · simp only [Act.put, List.setIfInBounds_toArray, List.set_cons_zero, List.set_cons_succ, i64_w, i32_w]
                  rfl
                refine pure_ (i := 49) (N := some 148) (v := ?_) (a' := ?_) #[true, true, true, true, true, true, true, true, true, true, true, true, true, true, true, true, true, true, true, true, true, true, true, true, true, true, true, true, true, true, true, true, true, true, true, true, true, true, true, true, true, true, true, true, true, true, true, true, true, true, false, false, false, false, false, false, false, false, false, false, false] rfl rfl (by kernel_rfl) (fun _ _ _ h => h) (Or.inl ⟨by rfl, ?_⟩) ?_ ?_
                rotate_left
                · intro w'
                  go_simp
                  with_reducible rfl
                rotate_left
                · simp only [Act.put, List.setIfInBounds_toArray, List.set_cons_zero, List.set_cons_succ, i64_w, i32_w]
                  rfl
                refine pure_ (i := 50) (N := some 149) (v := ?_) (a' := ?_) #[true, true, true, true, true, true, true, true, true, true, true, true, true, true, true, true, true, true, true, true, true, true, true, true, true, true, true, true, true, true, true, true, true, true, true, true, true, true, true, true, true, true, true, true, true, true, true, true, true, true, true, false, false, false, false, false, false, false, false, false, false] rfl rfl (by kernel_rfl) (fun _ _ _ h => h) (Or.inl ⟨by rfl, ?_⟩) ?_ ?_
                rotate_left
                · intro w'
                  go_simp
                  with_reducible rfl
                rotate_left
                · simp only [Act.put, List.setIfInBounds_toArray, List.set_cons_zero, List.set_cons_succ, i64_w, i32_w]
                  rfl
                refine pure_ (i := 51) (N := some 150) (v := ?_) (a' := ?_) #[true, true, true, true, true, true, true, true, true, true, true, true, true, true, true, true, true, true, true, true, true, true, true, true, true, true, true, true, true, true, true, true, true, true, true, true, true, true, true, true, true, true, true, true, true, true, true, true, true, true, true, true, false, false, false, false, false, false, false, false, false] rfl rfl (by kernel_rfl) (fun _ _ _ h => h) (Or.inl ⟨by rfl, ?_⟩) ?_ ?_
                rotate_left
                · intro w'
                  go_simp
                  with_reducible rfl
                rotate_left
                · simp only [Act.put, List.setIfInBounds_toArray, List.set_cons_zero, List.set_cons_succ, i64_w, i32_w]
                  rfl
                refine pure_ (i := 52) (N := some 151) (v := ?_) (a' := ?_) #[true, true, true, true, true, true, true, true, true, true, true, true, true, true, true, true, true, true, true, true, true, true, true, true, true, true, true, true, true, true, true, true, true, true, true, true, true, true, true, true, true, true, true, true, true, true, true, true, true, true, true, true, true, false, false, false, false, false, false, false, false] rfl rfl (by kernel_rfl) (fun _ _ _ h => h) (Or.inl ⟨by rfl, ?_⟩) ?_ ?_
                rotate_left
                · intro w'
                  go_simp
                  with_reducible rfl
                rotate_left
                · simp only [Act.put, List.setIfInBounds_toArray, List.set_cons_zero, List.set_cons_succ, i64_w, i32_w]
                  rfl
                refine pure_ (i := 53) (N := some 152) (v := ?_) (a' := ?_) #[true, true, true, true, true, true, true, true, true, true, true, true, true, true, true, true, true, true, true, true, true, true, true, true, true, true, true, true, true, true, true, true, true, true, true, true, true, true, true, true, true, true, true, true, true, true, true, true, true, true, true, true, true, true, false, false, false, false, false, false, false] rfl rfl (by kernel_rfl) (fun _ _ _ h => h) (Or.inl ⟨by rfl, ?_⟩) ?_ ?_
                rotate_left
                · intro w'
                  go_simp
                  with_reducible rfl
                rotate_left
                · simp only [Act.put, List.setIfInBounds_toArray, List.set_cons_zero, List.set_cons_succ, i64_w, i32_w]
                  rfl
                refine pure_ (i := 55) (N := some 154) (v := ?_) (a' := ?_) #[true, true, true, true, true, true, true, true, true, true, true, true, true, true, true, true, true, true, true, true, true, true, true, true, true, true, true, true, true, true, true, true, true, true, true, true, true, true, true, true, true, true, true, true, true, true, true, true, true, true, true, true, true, true, false, true, false, false, false, false, false] rfl rfl (by kernel_rfl) (fun _ _ _ h => h) (Or.inl ⟨by rfl, ?_⟩) ?_ ?_
                rotate_left
                · intro w'
                  go_simp
                  with_reducible rfl
                rotate_left
                · simp only [Act.put, List.setIfInBounds_toArray, List.set_cons_zero, List.set_cons_succ, i64_w, i32_w]
                  rfl
                refine pure_ (i := 56) (N := some 155) (v := ?_) (a' := ?_) #[true, true, true, true, true, true, true, true, true, true, true, true, true, true, true, true, true, true, true, true, true, true, true, true, true, true, true, true, true, true, true, true, true, true, true, true, true, true, true, true, true, true, true, true, true, true, true, true, true, true, true, true, true, true, false, true, true, false, false, false, false] rfl rfl (by kernel_rfl) (fun _ _ _ h => h) (Or.inl ⟨by rfl, ?_⟩) ?_ ?_
                rotate_left
                · intro w'
                  go_simp
                  with_reducible rfl
                rotate_left
                · simp only [Act.put, List.setIfInBounds_toArray, List.set_cons_zero, List.set_cons_succ, i64_w, i32_w]
                  rfl
                refine pure_ (i := 57) (N := some 156) (v := ?_) (a' := ?_) #[true, true, true, true, true, true, true, true, true, true, true, true, true, true, true, true, true, true, true, true, true, true, true, true, true, true, true, true, true, true, true, true, true, true, true, true, true, true, true, true, true, true, true, true, true, true, true, true, true, true, true, true, true, true, false, true, true, true, false, false, false] rfl rfl (by kernel_rfl) (fun _ _ _ h => h) (Or.inl ⟨by rfl, ?_⟩) ?_ ?_
                rotate_left
                · intro w'
                  go_simp
                  with_reducible rfl
                rotate_left
                · simp only [Act.put, List.setIfInBounds_toArray, List.set_cons_zero, List.set_cons_succ, i64_w, i32_w]
                  rfl
                refine take_ (i := 54) (N := some 153) (v := ?_) (a' := ?_) #[true, true, true, true, true, true, true, true, true, true, true, true, true, true, true, true, true, true, true, true, true, true, true, true, true, true, true, true, true, true, true, true, true, true, true, true, true, true, true, true, true, true, true, true, true, true, true, true, true, true, true, true, true, true, true, true, true, true, false, false, false] rfl rfl (by kernel_rfl) (fun _ _ _ h => h) (Or.inl ⟨by rfl, ?_⟩) hHeld ?_ ?_
                rotate_left
                · rintro w' ⟨s0, s1, s2, s3⟩
                  go_simp
                  with_reducible rfl
                rotate_left
                · simp only [Act.put, List.setIfInBounds_toArray, List.set_cons_zero, List.set_cons_succ, i64_w, i32_w]
                  rfl
                refine take_ (i := 58) (N := some 157) (v := ?_) (a' := ?_) #[true, true, true, true, true, true, true, true, true, true, true, true, true, true, true, true, true, true, true, true, true, true, true, true, true, true, true, true, true, true, true, true, true, true, true, true, true, true, true, true, true, true, true, true, true, true, true, true, true, true, true, true, true, true, true, true, true, true, true, false, false] rfl rfl (by kernel_rfl) (fun _ _ _ h => h) (Or.inl ⟨by rfl, ?_⟩) hHeld ?_ ?_
                rotate_left
                · rintro w' ⟨s0, s1, s2, s3⟩
                  go_simp
                  with_reducible rfl
                rotate_left
                · simp only [Act.put, List.setIfInBounds_toArray, List.set_cons_zero, List.set_cons_succ, i64_w, i32_w]
                  rfl
                refine pure_ (i := 59) (N := some 158) (v := ?_) (a' := ?_) #[true, true, true, true, true, true, true, true, true, true, true, true, true, true, true, true, true, true, true, true, true, true, true, true, true, true, true, true, true, true, true, true, true, true, true, true, true, true, true, true, true, true, true, true, true, true, true, true, true, true, true, true, true, true, true, true, true, true, true, true, false] rfl rfl (by kernel_rfl) (fun _ _ _ h => h) (Or.inl ⟨by rfl, ?_⟩) ?_ ?_
                rotate_left
                · intro w'
                  go_simp
                  with_reducible rfl
                rotate_left
                · simp only [Act.put, List.setIfInBounds_toArray, List.set_cons_zero, List.set_cons_succ, i64_w, i32_w]
                  rfl
                refine pure_ (i := 60) (N := some 159) (v := ?_) (a' := ?_) #[true, true, true, true, true, true, true, true, true, true, true, true, true, true, true, true, true, true, true, true, true, true, true, true, true, true, true, true, true, true, true, true, true, true, true, true, true, true, true, true, true, true, true, true, true, true, true, true, true, true, true, true, true, true, true, true, true, true, true, true, true] rfl rfl (by kernel_rfl) (fun _ _ _ h => h) (Or.inl ⟨by rfl, ?_⟩) ?_ ?_
                rotate_left
                · intro w'
                  go_simp
                  with_reducible rfl
                rotate_left
                · simp only [Act.put, List.setIfInBounds_toArray, List.set_cons_zero, List.set_cons_succ, i64_w, i32_w]
                  rfl
                refine done_ (by kernel_rfl) ?_
                go_wp2
                go_roundg k2
                case measure => omega
                case rel => exact ⟨wrap64 (i + 1), rfl, ⟨by have h1 := HJ.out; unfold wrap64; omega⟩, ⟨by (with_reducible repeat (first | apply Kd.R_alloc | apply Kd.R_drewN | apply Kd.R_drew)); exact HA.out⟩, ⟨by (with_reducible repeat (first | refine blk_drewN ?_ _ | refine blk_drew ?_ | refine blk_alloc ?_ _)); exact BK.out⟩, ⟨(by repeat (first | (with_reducible first | exact HB.out | apply below_alloc | apply pw_below_drewN | apply below_drew1 | refine below_set ?_ GE.out) | exact HB.out))⟩⟩
            · have c6 : decide (i < (m : Int)) = false := decide_eq_false cj
              clear cj
              have z1 : (N == N) = true := by simp
              have z2 : ((m : Int) == (m : Int)) = true := by simp
              go_wp2_with (first | (go_at_call 18; (with_reducible refine (tries_calls _ g a0 N m BK.out).mono ?_); rintro e w2 ⟨rfl, hb⟩; have n0_ := Aside0.mk (blk_below BK.out hb); have n1_ := Aside0.mk (below_step HB.out hb); clear BK HB hb; have BK := n0_; have HB := n1_; clear n0_ n1_) | (go_at_call 19; (with_reducible refine (sent_calls _ g a0 N m BK.out).mono ?_); rintro e w2 ⟨rfl, hb⟩; have n0_ := Aside0.mk (blk_below BK.out hb); have n1_ := Aside0.mk (below_step HB.out hb); clear BK HB hb; have BK := n0_; have HB := n1_; clear n0_ n1_))
              go_ret
              exact ⟨rfl, HB.out⟩
end Go.Proofs.Ytheklcdaanojaaa.Mine
