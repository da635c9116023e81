/- The walk of ShuttleErased. Condition: the bytes lie in their range; the taps lie as their initialiser lays them. -/
import Derived.Test.YteomnlkfnfgkkaaDoorErc
namespace Go.Proofs.YteomnlkfnfgkkaaDoor.Q
open Go.RowKit Go.Proofs.YteomnlkfnfgkkaaDoorW.PrintWords Go.Proofs.YteomnlkfnfgkkaaDoorW.PrintLast Go.Proofs.YteomnlkfnfgkkaaDoorW.PrintMore
open Go.Proofs.YteomnlkfnfgkkaaDoor.Pure
attribute [local go_sem] max2_int min2_int max_two min_two max_three min_three max_four min_four   -- for this text's walks alone
set_option linter.unusedVariables false
set_option linter.unusedSimpArgs false
theorem n_top {l : List Int} {n T N : Nat} (k : Lk l n T N) : N ≤ 280 ∧ 24 ≤ N := by
  have h1 := k.top
  have h2 := k.steps
  have h3 := k.cells
  omega
theorem wr_nat (p : Nat) (h : p ≤ 1000) : wrap64 (p : Int) = (p : Int) := wr_id _ (by omega) (by omega)
theorem wr_add (i N : Nat) (h : i < N) (hN : N ≤ 280) : wrap64 ((i : Int) + 1) = ((i + 1 : Nat) : Int) := by rw [wr_id _ (by omega) (by omega)]; rfl
theorem q_div (i : Nat) : ((i : Int)).tdiv 4 = ((i / 4 : Nat) : Int) := by rw [Int.tdiv_eq_ediv_of_nonneg (Int.natCast_nonneg i)]; rfl
theorem q_ediv (i : Nat) : (i : Int) / 4 = ((i / 4 : Nat) : Int) := rfl
theorem r_mod (q m : Nat) : ((q : Int)).tmod (m : Int) = ((q % m : Nat) : Int) := by rw [Int.tmod_eq_emod_of_nonneg (Int.natCast_nonneg q)]; rfl
theorem u_mod (u : Int) (p : Nat) (h0 : 0 ≤ u) (h : (p : Int) = u % 4) : u.tmod 4 = (p : Int) := by rw [Int.tmod_eq_emod_of_nonneg h0, h]
theorem four_mod (i : Nat) : ((i : Int)).tmod 4 = ((i % 4 : Nat) : Int) := by rw [Int.tmod_eq_emod_of_nonneg (Int.natCast_nonneg i)]; rfl
set_option maxHeartbeats 8000000 in
set_option maxRecDepth 100000 in
theorem erased_calls (A0 A1 : Option Addr) (c0 c1 : Nat) (l0 l1 : List Int) (w : World) (hT : Aside0 (TapOk w)) (hr0 : Kd.C (Kd.int .u8) w A0 l0.length l0) (hc0 : l0.length ≤ c0) (hr1 : Kd.C (Kd.int .u8) w A1 l1.length l1) (hb0 : ∀ x ∈ l0, 0 ≤ x ∧ x ≤ 255) (hb1 : ∀ x ∈ l1, 0 ≤ x ∧ x ≤ 255) :
    Calls Tryd.prog 3 #[.slice A0 l0.length c0, .slice A1 l1.length c1] w fun e w' => e = .returned (.bool true) ∧ Below w.heap.size w w' := by
  have HB := Aside0.mk (Below.refl w.heap.size w)
  have HR0 := Aside0.mk hr0
  have HC0 := Aside0.mk hc0
  have HB1 := Aside0.mk hb1
  obtain ⟨m, hm⟩ : ∃ m, l1.length = m := ⟨_, rfl⟩
  have HM := Aside0.mk hm
  rw [hm] at hr1 ⊢
  have HR1 := Aside0.mk hr1
  obtain ⟨l, hl, hl64, hbit⟩ := bits_in l0 hb0
  obtain ⟨x, hx⟩ : ∃ x, l0.take 8 = x := ⟨_, rfl⟩
  rw [hx] at hl
  obtain ⟨n, hn⟩ : ∃ n, l.length = n := ⟨_, rfl⟩
  obtain ⟨T, hTT⟩ : ∃ T, n + 6 = T := ⟨_, rfl⟩
  obtain ⟨N, hN⟩ : ∃ N, 4 * T = N := ⟨_, rfl⟩
  have K := Aside0.mk (Lk.mk hn (hn ▸ hl64) hTT hN hbit)
  have KN := Aside0.mk (n_top K.out)
  have HX := Aside0.mk hx
  have HL := Aside0.mk hl
  have HLN := Aside0.mk hn
  have ha : wrap64 ((n : Int) + 6) = (T : Int) := by have h1 := K.out.top; rw [wr_id _ (by omega) (by omega), ← hTT]; rfl
  clear hr0 hc0 hr1 hb0 hb1 hm hl hl64 hbit hx hn hTT hN
  go_enter Tryd.func3, Tryd.ntmps3
  go_upto_region 2 with (first | ((with_reducible refine gate_callee (f := 5) rfl ?_); refine goesL_ (some 17) rfl rfl Tryd.func5 (by kernel_rfl) rfl #[.slice A0 l0.length c0, .int .i64 8] rfl (by (try simp only [List.map_toArray, List.map_cons, List.map_nil]); first | done | rfl) ?_; (with_reducible refine (cut_c A0 c0 l0 x _ HR0.out HC0.out HX.out).mono ?_); rintro e w1 ⟨Ax, cx, rfl, hr, hb⟩; refine ⟨_, rfl, ?_⟩; have n0_ := Aside0.mk (below_step HB.out hb); have HXR := Aside0.mk hr; clear HB hb hr; have HB := n0_; clear n0_) | ((with_reducible refine gate_callee (f := 4) rfl ?_); refine goesL_ (some 18) rfl rfl Tryd.func4 (by kernel_rfl) rfl #[.slice Ax x.length cx] rfl (by (try simp only [List.map_toArray, List.map_cons, List.map_nil]); first | done | rfl) ?_; (with_reducible refine (of_c Ax cx n x l _ HXR.out HL.out HLN.out).mono ?_); rintro e w2 ⟨AL, cL, rfl, hr, hb⟩; refine ⟨_, rfl, ?_⟩; have HO := Aside0.mk (Kd.R_lower hr (below_size HB.out)); have n0_ := Aside0.mk (below_step HB.out hb); clear HB hb hr HXR; have HB := n0_; clear n0_))
  go_upto_region 3 with (first | ((with_reducible refine gate_callee (f := 6) rfl ?_); refine goesL_ (some 21) rfl rfl Tryd.func6 (by kernel_rfl) rfl #[.slice AL n cL] rfl (by (try simp only [List.map_toArray, List.map_cons, List.map_nil]); first | done | rfl) ?_; (with_reducible refine (code_c AL cL n T N l _ (TapA.below hT HB.out) HO.out K.out).mono ?_); rintro e w3 ⟨AC, cC, rfl, hr, hb⟩; refine ⟨_, rfl, ?_⟩; have n0_ := Aside0.mk (Kd.R_below HO.out hb); have HC := Aside0.mk (Kd.R_lower hr (below_size HB.out)); have n1_ := Aside0.mk (below_step HB.out hb); clear HB HO hb hr; have HB := n1_; have HO := n0_; clear n0_ n1_))
  go_upto_region 4 with (first | ((with_reducible refine gate_callee (f := 7) rfl ?_); refine goesL_ (some 26) rfl rfl Tryd.func7 (by kernel_rfl) rfl #[.slice AL n cL] rfl (by (try simp only [List.map_toArray, List.map_cons, List.map_nil]); first | done | rfl) ?_; (with_reducible refine (path_c AL cL n T N l _ (TapA.below hT HB.out) HO.out K.out).mono ?_); rintro e w4 ⟨AP, cP, rfl, hb⟩; refine ⟨_, rfl, ?_⟩; have n0_ := Aside0.mk (Kd.R_below HO.out hb); have n2_ := Aside0.mk (Kd.R_below HC.out hb); have n1_ := Aside0.mk (below_step HB.out hb); clear HB HO HC hb; have HB := n1_; have HO := n0_; have HC := n2_; clear n0_ n1_ n2_))
  go_upto_region 6 with (first | ((with_reducible refine gate_callee (f := 8) rfl ?_); refine goesL_ (some 29) rfl rfl Tryd.func8 (by kernel_rfl) rfl #[] rfl (by (try simp only [List.map_toArray, List.map_cons, List.map_nil]); first | done | rfl) ?_; (with_reducible refine (stands_calls _).mono ?_); rintro e w5 ⟨rfl, hb⟩; refine ⟨_, rfl, ?_⟩; have n0_ := Aside0.mk (Kd.R_below HO.out hb); have n2_ := Aside0.mk (Kd.R_below HC.out hb); have n1_ := Aside0.mk (below_step HB.out hb); clear HB HO HC hb; have HB := n1_; have HO := n0_; have HC := n2_; clear n0_ n1_ n2_))
  go_wp2_with (first | ((with_reducible refine gate_callee (f := 9) rfl ?_); refine goesL_ (some 48) rfl rfl Tryd.func9 (by kernel_rfl) rfl #[.slice AC N cC] rfl (by (try simp only [List.map_toArray, List.map_cons, List.map_nil]); first | done | rfl) ?_; (with_reducible refine (all_c AC cC n T N l _ HC.out K.out).mono ?_); rintro e w6 ⟨g, cS, rfl, hg, hr, hb⟩; refine ⟨_, rfl, ?_⟩; have n0_ := Aside0.mk (Kd.R_below HO.out hb); have HS := Aside0.mk (Kd.R_lower hr (below_size HB.out)); have GE := Aside0.mk (Nat.le_trans (below_size HB.out) hg); have n1_ := Aside0.mk (below_step HB.out hb); clear HB HO HC hb hr hg; have HB := n1_; have HO := n0_; clear n0_ n1_))
  obtain ⟨s, hs⟩ : ∃ s, (codeL l T).map sg = s := ⟨_, rfl⟩
  rw [hs] at HS
  have HSS := Aside0.mk hs
  clear hs ha
  go_loopg [11, 12] (N + 1) (fun kq v11 v12 w' => ∃ (i : Nat), v11 = .int .i64 (i : Int) ∧ Aside0 (i + kq = N + 1 ∧ i ≤ N) ∧ Aside0 (Kd.R (Kd.int .i64) 3 w' w.heap.size (fun _ => True) (.slice (some ⟨g, 0, none⟩) N cS) (xS s (kpL l1) i)) ∧ Aside0 (Kd.R (Kd.int .u8) 5 w' w.heap.size (fun _ => True) (.slice AL n cL) l) ∧ Aside0 (Below w.heap.size w w'))
  case atStart => exact ⟨0, rfl, ⟨by omega⟩, HS, HO, HB⟩
  case round =>
    clear HB HO HS
    obtain ⟨i, rfl, HI, HS, HO, HB⟩ := hrel
    cases gk with
    | zero => exact absurd HI.out (by omega)
    | succ k1 =>
      by_cases cl : (i : Int) < (N : Int)
      · have c5 : decide ((i : Int) < (N : Int)) = true := decide_eq_true cl
        have c6 : decide (i < N) = true := decide_eq_true (by omega)
        have CL := Aside0.mk cl
        clear cl
        go_upto_if 57 with (fail)
        go_cut [12] (fun v12 wc => v12 = .int .i64 ((kpL l1 (i / 4) : Nat) : Int) ∧ wc = wr)
        case first =>
          by_cases cn : (0 : Int) < (m : Int)
          · have c7 : decide ((0 : Int) < (m : Int)) = true := decide_eq_true cn
            have hp : 0 < m := Int.ofNat_lt.mp cn
            have c8 : decide (0 < m) = true := decide_eq_true hp
            obtain ⟨q, hq⟩ : ∃ q, i / 4 = q := ⟨_, rfl⟩
            obtain ⟨r, hr⟩ : ∃ r, q % m = r := ⟨_, rfl⟩
            have hrlt : r < m := by rw [← hr]; exact Nat.mod_lt _ hp
            have hrl : r < l1.length := by rw [HM.out]; exact hrlt
            have HK := kpL_some (l1 := l1) (by rw [HM.out]; exact hp) q
            rw [HM.out, hr] at HK
            obtain ⟨ad, e1, hx⟩ := Kd.at_int HR1.out (r : Int) (Int.natCast_nonneg r) (Int.ofNat_lt.mpr hrlt)
            cases e1
            obtain ⟨u, hu⟩ : ∃ u, rd l1 (r : Int) = u := ⟨_, rfl⟩
            rw [hu] at hx HK
            have hub : 0 ≤ u ∧ u ≤ 255 := by
              rw [← hu, rd_at l1 r hrl]
              exact HB1.out _ (List.getElem_mem hrl)
            rw [Int.toNat_natCast] at hx
            have hx2 := (HB.out.cell (World.block_lt_of_cell? w _ hx)).trans hx
            have d1 := q_div i
            have d0 := q_ediv i
            rw [hq] at d1 d0
            have hiN : i < N := Int.ofNat_lt.mp CL.out
            have hqN : q ≤ 1000 := by rw [← hq]; exact Nat.le_trans (Nat.div_le_self i 4) (Nat.le_trans (Nat.le_of_lt hiN) (Nat.le_trans KN.out.1 (by decide)))
            have d2 := wr_nat q hqN
            have d3 := r_mod q m
            rw [hr] at d3
            have d4 := wr_nat r (by rw [← hr]; exact Nat.le_trans (Nat.mod_le q m) hqN)
            obtain ⟨p, hpp⟩ : ∃ p, kpL l1 q = p := ⟨_, rfl⟩
            have hp4 := kpL_lt l1 q
            rw [hpp] at HK hp4
            have d5 := u_mod u p hub.1 HK
            have d9 := wr_nat p (Nat.le_trans (Nat.le_of_lt hp4) (by decide))
            have d6 : ((m : Int) == 0) = false := by rw [beq_eq_false_iff_ne]; omega
            have d7 : ((m : Int) = 0) = False := eq_false (by omega)
            have d8 : (m = 0) = False := eq_false (by omega)
            have q0 : ((r : Int) < (m : Int)) = True := eq_true (Int.ofNat_lt.mpr hrlt)
            have q1 : (r < m) = True := eq_true hrlt
            have HP := Aside0.mk (show kpL l1 (i / 4) = p by rw [hq]; exact hpp)
            have CN := Aside0.mk cn
            clear cn hp hq hr hrlt hrl HK hu hub hpp hx hiN hqN hp4
            go_wp2
            all_goals try (exfalso; have := CN.out; omega)
            go_meet
            case rel => exact ⟨by rw [HP.out], rfl⟩
          · have c7 : decide ((0 : Int) < (m : Int)) = false := decide_eq_false cn
            have c8 : decide (0 < m) = false := decide_eq_false (by omega)
            have HZ := Aside0.mk (kpL_none (l1 := l1) (by rw [HM.out]; omega) (i / 4))
            have CN := Aside0.mk cn
            clear cn
            go_wp2
            all_goals try (exfalso; have := CN.out; omega)
            go_meet
            case rel => exact ⟨by rw [HZ.out]; rfl, rfl⟩
        case rest =>
          obtain ⟨rfl, rfl⟩ := hcut
          have hiN : i < N := Int.ofNat_lt.mp CL.out
          obtain ⟨p, hpp⟩ : ∃ p, kpL l1 (i / 4) = p := ⟨_, rfl⟩
          obtain ⟨j, hj⟩ : ∃ j, i % 4 = j := ⟨_, rfl⟩
          have h4 := four_mod i
          have h4e : (i : Int) % 4 = ((i % 4 : Nat) : Int) := rfl
          rw [hj] at h4 h4e
          have hj4 := wr_nat j (by rw [← hj]; exact Nat.le_trans (Nat.le_of_lt (Nat.mod_lt i (by decide))) (by decide))
          have HW := Aside0.mk (wr_add i N hiN KN.out.1)
          rw [hpp]
          have HX1 : Aside0 (xS s (kpL l1) (i + 1) = if j = p then xS s (kpL l1) i else (xS s (kpL l1) i).set i 0) := ⟨by rw [xS, hpp, hj]⟩
          have HIN := Aside0.mk hiN
          clear hpp hj hiN
          by_cases ce : j = p
          · subst ce
            have e1 : ((j : Int) != (j : Int)) = false := by simp
            have HE : Aside0 (xS s (kpL l1) (i + 1) = xS s (kpL l1) i) := ⟨by rw [HX1.out, if_pos rfl]⟩
            go_wp2
            go_roundg k1
            case measure => omega
            case rel => exact ⟨i + 1, by rw [HW.out], ⟨by have h1 := HI.out; have h2 := HIN.out; omega⟩, ⟨by rw [HE.out]; exact HS.out⟩, HO, HB⟩
          · have e1 : ((j : Int) != (p : Int)) = true := by rw [bne_iff_ne]; omega
            have e2 : (j != p) = true := by rw [bne_iff_ne]; exact ce
            have HE : Aside0 (xS s (kpL l1) (i + 1) = (xS s (kpL l1) i).set i 0) := ⟨by rw [HX1.out, if_neg ce]⟩
            have hcf := Kd.R_celln (0 : Int) HS.out (i : Int) (Int.natCast_nonneg i) CL.out
            rw [Int.toNat_natCast] at hcf
            obtain ⟨hc, hf⟩ := hcf
            obtain ⟨z, hz⟩ : ∃ z, rdOf (0 : Int) (xS s (kpL l1) i) (i : Int) = z := ⟨_, rfl⟩
            rw [hz] at hc
            have hc2 : World.cell? _ ⟨g, i, none⟩ = some (Value.int .i64 z) := hc
            have q0 : ((i : Int) < (N : Int)) = True := eq_true CL.out
            have q1 : (i < N) = True := eq_true HIN.out
            clear hc hz ce
            go_wp2
            go_roundg k1
            case measure => omega
            case rel =>
              obtain ⟨cells, hcl⟩ := Kd.R_typed HS.out g rfl
              have hst := (Kd.R_putg HS.out (i : Int) (0 : Int)).1
              rw [Int.toNat_natCast] at hst
              exact ⟨i + 1, by rw [HW.out], ⟨by have h1 := HI.out; have h2 := HIN.out; omega⟩, ⟨by rw [HE.out]; exact hst⟩, ⟨Kd.R_set HO.out hcl (fun q hq => by cases hq with | head => decide | tail _ h => cases h) i (.int .i64 0)⟩, ⟨below_set HB.out GE.out⟩⟩
      · have c5 : decide ((i : Int) < (N : Int)) = false := decide_eq_false cl
        have c6 : decide (i < N) = false := decide_eq_false (by omega)
        obtain rfl : i = N := by have := HI.out; omega
        have HKP := Aside0.mk (kpL_lt l1)
        rw [← HSS.out] at HS
        clear cl
        go_upto_region 16 with (first | ((with_reducible refine gate_callee (f := 10) rfl ?_); refine goesL_ (some 77) rfl rfl Tryd.func10 (by kernel_rfl) rfl #[.slice (some ⟨g, 0, none⟩) i cS] rfl (by (try simp only [List.map_toArray, List.map_cons, List.map_nil]); first | done | rfl) ?_; (with_reducible refine (dec_c g cS n T i l (kpL l1) _ (TapA.below hT HB.out) HS.out K.out HKP.out).mono ?_); rintro e w7 ⟨AD, cD, rfl, hr, hb⟩; refine ⟨_, rfl, ?_⟩; have n0_ := Aside0.mk (Kd.R_below HO.out hb); have HD := Aside0.mk (Kd.R_lower hr (below_size HB.out)); have n1_ := Aside0.mk (below_step HB.out hb); clear HB HO HS hb hr; have HB := n1_; have HO := n0_; clear n0_ n1_))
        have hcvD := own_string (P := Tryd.prog) Tryd.underlying22 Tryd.underlying5 Tryd.underlying9 (Kd.own_of_R HD.out)
        have hcvDn := own_string_n (P := Tryd.prog) Tryd.underlying22 Tryd.underlying5 Tryd.underlying9 (Kd.own_of_R HD.out)
        have hcvO := own_string (P := Tryd.prog) Tryd.underlying22 Tryd.underlying5 Tryd.underlying9 (Kd.own_of_R HO.out)
        have hcvOn := own_string_n (P := Tryd.prog) Tryd.underlying22 Tryd.underlying5 Tryd.underlying9 (Kd.own_of_R HO.out)
        go_wp2
        go_ret
        exact ⟨rfl, HB.out⟩
end Go.Proofs.YteomnlkfnfgkkaaDoor.Q
