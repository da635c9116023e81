/- The walk of ShuttleBursts. Condition: the bytes lie in their range. -/
import Derived.Test.YtdakfabdegiboaaCut
import Derived.Test.YtdakfabdegiboaaStands
import Derived.Test.YtdakfabdegiboaaBurstLaw
namespace Go.Proofs.Ytdakfabdegiboaa.Q
open Go.RowKit Go.Proofs.YtdakfabdegiboaaW.PrintWords Go.Proofs.YtdakfabdegiboaaW.PrintLast Go.Proofs.YtdakfabdegiboaaW.PrintMore
open Go.Proofs.Ytdakfabdegiboaa.Pure Go.Proofs.Ytdakfabdegiboaa.Pure.Puts Go.Proofs.Ytdakfabdegiboaa.Pure.Bursts
attribute [local go_sem] max2_int min2_int max_two min_two max_three min_three max_four min_four   -- for this text's walks alone
set_option linter.unusedVariables false
set_option linter.unusedSimpArgs false
theorem cut_200 (l : List Int) : ∃ lc, shuttletop_cut.f l 200 = some lc ∧ lc.length ≤ 200 := by
  have h : mn (l.length : Int) 200 ≤ l.length ∧ 0 ≤ mn (l.length : Int) 200 ∧ mn (l.length : Int) 200 ≤ 200 := by unfold mn; split <;> omega
  generalize hm : mn (l.length : Int) 200 = m at h
  refine ⟨l.take m.toNat, ?_, by rw [List.length_take]; omega⟩
  unfold shuttletop_cut.f
  rw [hm, Option.bind_some, if_pos h.2.1, if_pos h.1, if_pos (by rw [List.length_take]; simp; omega), List.nil_append]
theorem rows_b (a : Int) : ∃ b : Nat, wrap64 (2 + wrap64 ((IntKind.u64.wrap a).tmod 10)) = (b : Int) ∧ 2 ≤ b ∧ b ≤ 11 := by
  have h : 0 ≤ IntKind.u64.wrap a := by simp [IntKind.wrap, IntKind.signed, IntKind.bits]; omega
  rw [Int.tmod_eq_emod_of_nonneg h]
  refine ⟨(2 + IntKind.u64.wrap a % 10).toNat, ?_⟩
  unfold wrap64
  omega
theorem wide_b (n b : Nat) (hn : n ≤ 200) (hz : n ≠ 0) (hb : 2 ≤ b ∧ b ≤ 11) : ∃ H Q : Nat, wrap64 ((wrap64 (wrap64 ((n : Int) + b) - 1)).tdiv b) = (H : Int) ∧ 1 ≤ H ∧ wrap64 ((n : Int) / (H : Int)) = (Q : Int) ∧ H = (n + b - 1) / b ∧ (1 ≤ Q ∧ Q = n / H ∧ Q ≤ n) ∧ IntKind.u64.wrap (Q : Int) = Q := by
  refine ⟨(n + b - 1) / b, n / ((n + b - 1) / b), ?_⟩
  have hp := wide_facts n b (by omega) (by omega)
  have h1 : (n + b - 1) / b ≤ n := by
    refine Nat.div_le_of_le_mul ?_
    have : n * 2 ≤ n * b := Nat.mul_le_mul_left n hb.1
    have h2 : 1 * b ≤ n * b := Nat.mul_le_mul_right b (by omega)
    have : b * n = n * b := Nat.mul_comm _ _
    rcases Nat.lt_or_ge 1 n with g | g
    · have : 2 * b ≤ n * b := Nat.mul_le_mul_right b (by omega)
      omega
    · have : n = 1 := by omega
      subst this
      omega
  have h2 : n / ((n + b - 1) / b) ≤ n := Nat.div_le_self _ _
  have h3 : 1 ≤ n / ((n + b - 1) / b) := (Nat.le_div_iff_mul_le hp.1).mpr (by omega)
  have e1 : (wrap64 (wrap64 ((n : Int) + b) - 1)) = ((n + b - 1 : Nat) : Int) := by unfold wrap64; omega
  rw [e1, ← Int.ofNat_tdiv, ← Int.natCast_ediv]
  refine ⟨by rw [wr_id] <;> omega, hp.1, by rw [wr_id] <;> omega, rfl, ⟨h3, rfl, h2⟩, ?_⟩
  generalize n / ((n + b - 1) / b) = q at h2
  simp [IntKind.wrap, IntKind.signed, IntKind.bits]
  omega
theorem burst_n (a : Int) (Q : Nat) (h1 : 1 ≤ Q) (h2 : Q ≤ 200) : ∃ N : Nat, wrap64 (1 + wrap64 ((IntKind.u64.wrap a).tmod Q)) = (N : Int) ∧ 1 ≤ N ∧ N ≤ Q := by
  have h : 0 ≤ IntKind.u64.wrap a := by simp [IntKind.wrap, IntKind.signed, IntKind.bits]; omega
  rw [Int.tmod_eq_emod_of_nonneg h]
  have g0 := Int.emod_nonneg (IntKind.u64.wrap a) (show (Q : Int) ≠ 0 by omega)
  have g1 := Int.emod_lt_of_pos (IntKind.u64.wrap a) (show 0 < (Q : Int) by omega)
  generalize IntKind.u64.wrap a % (Q : Int) = r at g0 g1
  refine ⟨(1 + r).toNat, ?_⟩
  unfold wrap64
  omega
theorem burst_at (a : Int) (Q : Nat) (h1 : 1 ≤ Q) (h2 : Q ≤ 200) : ∃ N : Nat, wrap64 ((IntKind.u64.wrap a).tmod Q) = (N : Int) ∧ N < Q := by
  have h : 0 ≤ IntKind.u64.wrap a := by simp [IntKind.wrap, IntKind.signed, IntKind.bits]; omega
  rw [Int.tmod_eq_emod_of_nonneg h]
  have g0 := Int.emod_nonneg (IntKind.u64.wrap a) (show (Q : Int) ≠ 0 by omega)
  have g1 := Int.emod_lt_of_pos (IntKind.u64.wrap a) (show 0 < (Q : Int) by omega)
  generalize IntKind.u64.wrap a % (Q : Int) = r at g0 g1
  refine ⟨r.toNat, ?_⟩
  unfold wrap64
  omega
theorem cnt_le (t l : List Int) : ∀ i, cntT t l i ≤ i ∧ cntB t l i ≤ i := by
  intro i
  induction i with
  | zero => exact ⟨Nat.le_refl _, Nat.le_refl _⟩
  | succ i ih =>
    rw [cntT, cntB]
    constructor
    · split <;> omega
    · split
      · omega
      · split <;> omega
theorem put_calls (A : Option Addr) (n c : Nat) (l : List Int) (b : Nat) (w : World) (hr : Kd.C (Kd.int .u8) w A l.length l) (hn : l.length = n) (hc : n ≤ c) (h0 : 0 < b) (hb : b ≤ 64) (hx : n ≤ 60000) :
    Calls Try.prog 8 #[.slice A n c, .int .i64 (b : Int)] w fun e w' => ∃ W0 A' c', W0 = w ∧ e = .returned (.tuple #[.slice A' n c', .int .i64 0]) ∧ Kd.R (Kd.int .u8) 5 w' W0.heap.size (fun _ => True) (.slice A' n c') (putN l b) ∧ Below W0.heap.size W0 w' := by
  subst hn
  refine (shuffle_Put.calls 5000000 A c l b (putN l b) 0 w hr hc (put_right l b hx h0 hb 5000000 (Nat.le_refl _))).mono ?_
  rintro e w' ⟨v, rfl, h, hb'⟩
  obtain ⟨A', c', rfl⟩ := Kd.R_slice h
  rw [put_len l b h0] at h ⊢
  exact ⟨w, A', c', rfl, rfl, h, hb'⟩
theorem take_calls (A : Option Addr) (n c : Nat) (l : List Int) (b : Nat) (w : World) (hr : Kd.C (Kd.int .u8) w A l.length l) (hn : l.length = n) (hc : n ≤ c) (h0 : 0 < b) (hb : b ≤ 64) (hx : n ≤ 60000) :
    Calls Try.prog 10 #[.slice A n c, .int .i64 (b : Int)] w fun e w' => ∃ W0 A' c', W0 = w ∧ e = .returned (.tuple #[.slice A' n c', .int .i64 0]) ∧ Kd.R (Kd.int .u8) 5 w' W0.heap.size (fun _ => True) (.slice A' n c') (takeN l b) ∧ Below W0.heap.size W0 w' := by
  subst hn
  refine (shuffle_Take.calls 5000000 A c l b (takeN l b) 0 w hr hc (take_right l b hx h0 hb 5000000 (Nat.le_refl _))).mono ?_
  rintro e w' ⟨v, rfl, h, hb'⟩
  obtain ⟨A', c', rfl⟩ := Kd.R_slice h
  rw [take_len l b] at h ⊢
  exact ⟨w, A', c', rfl, rfl, h, hb'⟩
set_option maxHeartbeats 8000000 in
set_option maxRecDepth 100000 in
theorem bursts_calls (A0 : Option Addr) (c0 : Nat) (l0 : List Int) (a1 b0 b1 : Int) (w : World) (hr0 : Kd.C (Kd.int .u8) w A0 l0.length l0) (hc0 : l0.length ≤ c0) :
    Calls Try.prog 3 #[.slice A0 l0.length c0, .int .i64 a1, .agg #[.int .i64 b0, .int .i64 b1]] w fun e w' => e = .returned (.bool true) ∧ Below w.heap.size w w' := by
  have HB := Aside0.mk (Below.refl w.heap.size w)
  have HR0 := Aside0.mk hr0
  have HC0 := Aside0.mk hc0
  clear hr0 hc0
  obtain ⟨lc, hcut, hlen⟩ : ∃ lc, shuttletop_cut.f l0 200 = some lc ∧ lc.length ≤ 200 := cut_200 l0
  have HCUT := Aside0.mk hcut
  have HLEN := Aside0.mk hlen
  clear hcut hlen
  go_enter Try.func3, Try.ntmps3
  go_upto_region 3 with (first | ((with_reducible refine gate_dst (N := 5) rfl ?_); refine box_event ?hg (N := 5) ?hd (cs := #[.int .i64 b0, .int .i64 b1]) (t := 23) ?hr ?_; (case hd => rfl); (case hg => rfl); (case hr => first | (go_simp; done) | (go_simp; rfl)); intro g hg w3 hbox hb; have n0_ := Aside0.mk (below_step HB.out hb); have GE := Aside0.mk ((by rw [hg]; exact (below_size HB.out)) : w.heap.size ≤ g); have BK := Aside0.mk hbox; clear HB hb hbox hg; have HB := n0_; clear n0_) | ((with_reducible refine gate_callee (f := 7) rfl ?_); refine goesL_ (some 20) rfl rfl Try.func7 (by kernel_rfl) rfl #[.slice A0 l0.length c0, .int .i64 200] rfl (by (try simp only [List.map_toArray, List.map_cons, List.map_nil]); first | done | rfl) ?_; (with_reducible refine (shuttletop_cut.calls A0 c0 l0 200 lc _ (Kd.C_below HR0.out HB.out) HC0.out HCUT.out).mono ?_); rintro e w4 ⟨v0, rfl, hr, hb⟩; refine ⟨_, rfl, ?_⟩; have n0_ := Aside0.mk (below_step HB.out hb); have n1_ := Aside0.mk (blk_below BK.out hb); have HL := Aside0.mk (Kd.R_lower hr (below_size HB.out)); clear HB BK hb hr; have HB := n0_; have BK := n1_; clear n0_ n1_; obtain ⟨AL, cL, eL⟩ := Kd.R_slice HL.out; subst eL))
  obtain ⟨b, hb, hb2⟩ : ∃ b : Nat, wrap64 (2 + wrap64 ((IntKind.u64.wrap a1).tmod 10)) = (b : Int) ∧ 2 ≤ b ∧ b ≤ 11 := rows_b a1
  rw [hb]
  have BB := Aside0.mk hb2
  clear hb hb2
  go_wp2
  go_loopg [7] (lc.length + 1) (fun kq v7 w' => ∃ (i : Nat) (x : Int), v7 = .int .i64 x ∧ Aside0 (x = i ∧ i ≤ lc.length ∧ i + kq = lc.length + 1) ∧ Aside0 (Kd.R (Kd.int .u8) 5 w' w.heap.size (fun _ => True) (.slice AL lc.length cL) (mod2 lc i)) ∧ Aside0 (w'.heap[g]? = some (.cells #[.int .i64 b0, .int .i64 b1] 23 (0, 0))) ∧ Aside0 (Below w.heap.size w w'))
  case atStart => exact ⟨0, 0, rfl, ⟨by omega⟩, HL, BK, HB⟩
  case round =>
    clear HL BK HB
    obtain ⟨i, x, rfl, HI, HL, BK, HB⟩ := hrel
    cases gk with
    | zero => exact absurd HI.out (by omega)
    | succ k1 =>
      by_cases cl : x < (lc.length : Int)
      · have c5 : decide (x < (lc.length : Int)) = true := decide_eq_true cl
        have p0 : 0 ≤ x := by have := HI.out; omega
        obtain ⟨gl, cl', el, hgl, _, gcs, hgc⟩ := Kd.R_form HL.out (by rw [mod2_len]; omega)
        rw [mod2_len] at el
        obtain ⟨rfl, _, rfl⟩ : AL = some ⟨gl, 0, none⟩ ∧ True ∧ cL = cl' := by injection el with e1 e2 e3; exact ⟨e1, trivial, e3⟩
        clear el
        have GL := Aside0.mk hgl
        have NE := Aside0.mk (blk_ne BK.out hgc (by decide))
        clear hgl hgc
        obtain ⟨hx, hf⟩ := Kd.R_celln 0 HL.out x p0 cl
        obtain ⟨v, hv⟩ : ∃ v_, rd (mod2 lc i) x = v_ := ⟨_, rfl⟩
        replace hx : wr.cell? ⟨gl, x.toNat, none⟩ = some (.int .u8 v) := hx.trans (congrArg (fun z => some (Value.int .u8 z)) hv)
        have HV := Aside0.mk hv
        have CL := Aside0.mk cl
        have P0 := Aside0.mk p0
        replace p0 := eq_true p0
        have q0 := eq_true cl
        clear cl hv
        go_wp2
        repeat (go_quiet (fail); try go_wp2)
        go_roundg k1
        case measure => omega
        case rel =>
          have h4 := (Kd.R_putg HL.out x (Int.tmod v 2)).1
          have e4 : (mod2 lc i).set x.toNat (Int.tmod v 2) = mod2 lc (i + 1) := by
            have h1 := HI.out
            rw [mod2, ← h1.1, HV.out, show x.toNat = i by omega]
          rw [e4] at h4
          exact ⟨i + 1, wrap64 (x + 1), rfl, ⟨by have h1 := HI.out; have h2 := CL.out; have h3 := HLEN.out; unfold wrap64; omega⟩, ⟨h4⟩, ⟨blk_far (p := ⟨gl, x.toNat, none⟩) BK.out NE.out _⟩, ⟨below_set HB.out GL.out⟩⟩
      · have c5 : decide (x < (lc.length : Int)) = false := decide_eq_false cl
        have ei : i = lc.length := by have h1 := HI.out; omega
        subst ei
        clear cl
        obtain ⟨l1, hl1⟩ : ∃ z, mod2 lc lc.length = z := ⟨_, rfl⟩
        rw [hl1] at HL
        have NL := Aside0.mk (show l1.length = lc.length by rw [← hl1, mod2_len])
        have L1 := Aside0.mk hl1
        clear hl1
        by_cases hz : lc.length = 0
        · have hz1 : ((lc.length : Int) == 0) = true := by rw [hz]; rfl
          clear hz
          go_upto_region 8 with (first | ((with_reducible refine gate_callee (f := 8) rfl ?_); refine goesL_ (some 43) rfl rfl Try.func8 (by kernel_rfl) rfl #[.slice AL lc.length cL, .int .i64 (b : Int)] rfl (by (try simp only [List.map_toArray, List.map_cons, List.map_nil]); first | done | rfl) ?_; (with_reducible refine (put_calls AL lc.length cL l1 b _ (by have := Kd.R_reads' HL.out; exact this.2.2) NL.out (Kd.R_reads' HL.out).2.1 (by have := BB.out; omega) (by have := BB.out; omega) (by have := HLEN.out; omega)).mono ?_); rintro e wp ⟨W0, AP, cP, hW, rfl, hr, hb⟩; refine ⟨_, rfl, ?_⟩; have HP := Aside0.mk hr; have HB2 := Aside0.mk hb; have HB0 : Aside0 (Below w.heap.size w W0) := ⟨by rw [hW]; exact HB.out⟩; have LS : Aside0 (Kd.C (Kd.int .u8) W0 AL l1.length l1) := ⟨by rw [hW]; exact (Kd.R_reads' HL.out).2.2⟩; have BS : Aside0 (W0.heap[g]? = some (.cells #[.int .i64 b0, .int .i64 b1] 23 (0, 0))) := ⟨by rw [hW]; exact BK.out⟩; clear HL HB BK hr hb hW))
          go_upto_region 9 with (first | ((with_reducible refine gate_callee (f := 9) rfl ?_); refine goesL_ (some 46) rfl rfl Try.func9 (by kernel_rfl) rfl #[] rfl (by (try simp only [List.map_toArray, List.map_cons, List.map_nil]); first | done | rfl) ?_; (with_reducible refine (stands_calls _).mono ?_); rintro e ws ⟨rfl, hb⟩; refine ⟨_, rfl, ?_⟩; have n1_ := Aside0.mk (below_step HB2.out hb); have n4_ := Aside0.mk (Kd.R_below HP.out hb); clear HB2 HP hb; have HB2 := n1_; have HP := n4_; clear n1_ n4_))
          go_wp2_with (first | ((with_reducible refine gate_callee (f := 9) rfl ?_); refine goesL_ (some 57) rfl rfl Try.func9 (by kernel_rfl) rfl #[] rfl (by (try simp only [List.map_toArray, List.map_cons, List.map_nil]); first | done | rfl) ?_; (with_reducible refine (stands_calls _).mono ?_); rintro e ws ⟨rfl, hb⟩; refine ⟨_, rfl, ?_⟩; have n1_ := Aside0.mk (below_step HB2.out hb); have n4_ := Aside0.mk (Kd.R_below HP.out hb); clear HB2 HP hb; have HB2 := n1_; have HP := n4_; clear n1_ n4_))
          go_ret
          exact ⟨rfl, below_step HB0.out HB2.out⟩
        · have hz1 : ((lc.length : Int) == 0) = false := by rw [beq_eq_false_iff_ne]; omega
          have HZ := Aside0.mk hz
          clear hz
          go_upto_region 8 with (first | ((with_reducible refine gate_callee (f := 8) rfl ?_); refine goesL_ (some 43) rfl rfl Try.func8 (by kernel_rfl) rfl #[.slice AL lc.length cL, .int .i64 (b : Int)] rfl (by (try simp only [List.map_toArray, List.map_cons, List.map_nil]); first | done | rfl) ?_; (with_reducible refine (put_calls AL lc.length cL l1 b _ (by have := Kd.R_reads' HL.out; exact this.2.2) NL.out (Kd.R_reads' HL.out).2.1 (by have := BB.out; omega) (by have := BB.out; omega) (by have := HLEN.out; omega)).mono ?_); rintro e wp ⟨W0, AP, cP, hW, rfl, hr, hb⟩; refine ⟨_, rfl, ?_⟩; have HP := Aside0.mk hr; have HB2 := Aside0.mk hb; have HB0 : Aside0 (Below w.heap.size w W0) := ⟨by rw [hW]; exact HB.out⟩; have LS : Aside0 (Kd.C (Kd.int .u8) W0 AL l1.length l1) := ⟨by rw [hW]; exact (Kd.R_reads' HL.out).2.2⟩; have BS : Aside0 (W0.heap[g]? = some (.cells #[.int .i64 b0, .int .i64 b1] 23 (0, 0))) := ⟨by rw [hW]; exact BK.out⟩; clear HL HB BK hr hb hW))
          go_upto_region 10 with (first | ((with_reducible refine gate_callee (f := 9) rfl ?_); refine goesL_ (some 46) rfl rfl Try.func9 (by kernel_rfl) rfl #[] rfl (by (try simp only [List.map_toArray, List.map_cons, List.map_nil]); first | done | rfl) ?_; (with_reducible refine (stands_calls _).mono ?_); rintro e ws ⟨rfl, hb⟩; refine ⟨_, rfl, ?_⟩; have n1_ := Aside0.mk (below_step HB2.out hb); have n4_ := Aside0.mk (Kd.R_below HP.out hb); clear HB2 HP hb; have HB2 := n1_; have HP := n4_; clear n1_ n4_))
          clear hz1
          have hb0 : ((b : Int) == 0) = false := by have := BB.out; rw [beq_eq_false_iff_ne]; omega
          have hb1 : ((b : Int) = 0) = False := by have := BB.out; exact eq_false (by omega)
          have hb2 : (b = 0) = False := by have := BB.out; exact eq_false (by omega)
          go_upto_region 11 with (fail)
          obtain ⟨H, Q, hH, hH2, hQ, hH3, hQ2, hQ3⟩ := wide_b lc.length b HLEN.out HZ.out BB.out
          rw [hH]
          clear hH
          have HH := Aside0.mk hH2
          have HH3 := Aside0.mk hH3
          have HQ2 := Aside0.mk hQ2
          have hh0 : ((H : Int) == 0) = false := by rw [beq_eq_false_iff_ne]; omega
          have hh1 : ((H : Int) = 0) = False := eq_false (by omega)
          have hh2 : (H = 0) = False := eq_false (by omega)
          have hq0 : ((Q : Int) == 0) = false := by rw [beq_eq_false_iff_ne]; omega
          have hq1 : ((Q : Int) = 0) = False := eq_false (by omega)
          have hq2 : (Q = 0) = False := eq_false (by omega)
          have hl0 : ((lc.length : Int) == 0) = false := by have := HZ.out; rw [beq_eq_false_iff_ne]; omega
          have hl1 : ((lc.length : Int) = 0) = False := by have := HZ.out; exact eq_false (by omega)
          have hl2 : (lc.length = 0) = False := eq_false HZ.out
          have hl4 : IntKind.u64.wrap (lc.length : Int) = (lc.length : Int) := by have := HLEN.out; simp [IntKind.wrap, IntKind.signed, IntKind.bits]; omega
          have hc0 : ws.cell? ⟨g, 0, none⟩ = some (.int .i64 b0) := (blk_cell (blk_below BS.out HB2.out) 0).trans rfl
          have hc1 : ws.cell? ⟨g, 1, none⟩ = some (.int .i64 b1) := (blk_cell (blk_below BS.out HB2.out) 1).trans rfl
          clear hH2 hQ2 hH3 hb0 hb1 hb2
          go_wp2
          go_quiet (fail)
          obtain ⟨N, hN, hN2⟩ := burst_n b0 Q HQ2.out.1 (by have h1 := HQ2.out; have h2 := HLEN.out; omega)
          obtain ⟨S, hS, hS2⟩ := burst_at b1 lc.length (by have h1 := HZ.out; omega) (by have h2 := HLEN.out; omega)
          have HN2 := Aside0.mk hN2
          have HS2 := Aside0.mk hS2
          obtain ⟨E, hE⟩ : ∃ E : Nat, E = S + N := ⟨_, rfl⟩
          have hE1 : wrap64 ((S : Int) + (N : Int)) = (E : Int) := by have h1 := HQ2.out; have h2 := HLEN.out; unfold wrap64; omega
          have HE := Aside0.mk hE
          obtain ⟨M, hM⟩ : ∃ M : Nat, M = min N (lc.length - S) := ⟨_, rfl⟩
          have HM := Aside0.mk hM
          clear hM hE hN2 hS2 hq0 hq1 hq2 hc0 hc1 hh0 hh1 hh2 hQ3 hQ
          have n1_ := Aside0.mk (Kd.R_drewN HP.out nq)
          have n2_ := Aside0.mk (pw_below_drewN HB2.out nq)
          clear HP HB2
          have HP := n1_
          have HB2 := n2_
          clear n1_ n2_
          generalize hwq : World.drewN ws nq = wq at HP HB2 ⊢
          clear hwq
          have hc1 : wq.cell? ⟨g, 1, none⟩ = some (.int .i64 b1) := (blk_cell (blk_below BS.out HB2.out) 1).trans rfl
          go_upto_block 2 with (fail)
          rw [hN, hS]
          clear hN hS hl0 hl1 hl2 hl4 hc1
          go_cut [13] (fun v13 wc => Aside0 (Kd.R (Kd.int .u8) 5 wc W0.heap.size (fun _ => True) (.slice AP lc.length cP) (xorN (putN l1 b) S M)) ∧ Aside0 (Below W0.heap.size W0 wc))
          case first =>
            go_wp2
            go_loopg [13] (lc.length + 1) (fun kq v13 w' => ∃ (i : Nat) (y : Int), v13 = .int .i64 y ∧ Aside0 (y = S + i ∧ i ≤ N ∧ S + i ≤ lc.length ∧ i + kq = lc.length + 1) ∧ Aside0 (Kd.R (Kd.int .u8) 5 w' W0.heap.size (fun _ => True) (.slice AP lc.length cP) (xorN (putN l1 b) S i)) ∧ Aside0 (Below W0.heap.size W0 w'))
            case atStart => exact ⟨0, S, rfl, ⟨by have := HS2.out; omega⟩, HP, HB2⟩
            case round =>
              clear HP HB2
              obtain ⟨i, y, rfl, HI2, HP, HB2⟩ := hrel
              cases gk with
              | zero => exact absurd HI2.out (by have := HS2.out; have := HN2.out; have := HQ2.out; omega)
              | succ k2 =>
                by_cases c1 : y < (E : Int)
                · have c1b : decide (y < (E : Int)) = true := decide_eq_true c1
                  by_cases c2 : y < (lc.length : Int)
                  · have c2b : decide (y < (lc.length : Int)) = true := decide_eq_true c2
                    have p0 : 0 ≤ y := by have := HI2.out; omega
                    have hpl : (xorN (putN l1 b) S i).length = lc.length := by rw [xorN_len, put_len l1 b (by have := BB.out; omega)]; exact NL.out
                    obtain ⟨gl, cl', el, hgl, _, gcs, hgc⟩ := Kd.R_form HP.out (by rw [hpl]; omega)
                    rw [hpl] at el
                    obtain ⟨rfl, _, rfl⟩ : AP = some ⟨gl, 0, none⟩ ∧ True ∧ cP = cl' := by injection el with e1 e2 e3; exact ⟨e1, trivial, e3⟩
                    clear el
                    have GL := Aside0.mk hgl
                    clear hgl hgc hpl
                    obtain ⟨hx, hf⟩ := Kd.R_celln 0 HP.out y p0 c2
                    obtain ⟨v, hv⟩ : ∃ v_, rd (xorN (putN l1 b) S i) y = v_ := ⟨_, rfl⟩
                    replace hx : wr.cell? ⟨gl, y.toNat, none⟩ = some (.int .u8 v) := hx.trans (congrArg (fun z => some (Value.int .u8 z)) hv)
                    have HV := Aside0.mk hv
                    have C1 := Aside0.mk c1
                    have C2 := Aside0.mk c2
                    replace p0 := eq_true p0
                    have q0 := eq_true c2
                    clear c1 c2 hv
                    go_wp2
                    repeat (go_quiet (fail); try go_wp2)
                    go_roundg k2
                    case measure => omega
                    case rel =>
                      have h4 := (Kd.R_putg HP.out y (Go.bits .xor .u8 v 1)).1
                      have e4 : (xorN (putN l1 b) S i).set y.toNat (Go.bits .xor .u8 v 1) = xorN (putN l1 b) S (i + 1) := by
                        have h1 := HI2.out
                        rw [xorN, ← HV.out, show y.toNat = S + i by omega, show y = ((S + i : Nat) : Int) by omega]
                      rw [e4] at h4
                      exact ⟨i + 1, wrap64 (y + 1), rfl, ⟨by have h1 := HI2.out; have h2 := C1.out; have h3 := C2.out; have h4 := HLEN.out; have h5 := HE.out; unfold wrap64; omega⟩, ⟨h4⟩, ⟨HB2.out.setCell GL.out _⟩⟩
                  · have c2b : decide (y < (lc.length : Int)) = false := decide_eq_false c2
                    have C2 := Aside0.mk c2
                    clear c1 c2
                    go_wp2
                    repeat (go_quiet (fail); try go_wp2)
                    go_meet
                    case rel =>
                      obtain rfl : i = M := by have h1 := HI2.out; have h2 := C2.out; have h3 := HM.out; have h4 := HE.out; omega
                      exact ⟨HP, HB2⟩
                · have c1b : decide (y < (E : Int)) = false := decide_eq_false c1
                  have C1 := Aside0.mk c1
                  clear c1
                  go_wp2
                  repeat (go_quiet (fail); try go_wp2)
                  go_meet
                  case rel =>
                    obtain rfl : i = M := by have h1 := HI2.out; have h2 := C1.out; have h3 := HM.out; have h4 := HE.out; omega
                    exact ⟨HP, HB2⟩
          case rest =>
            clear HP HB2
            obtain ⟨HP, HB2⟩ := hcut
            go_upto_region 18 with (first | ((with_reducible refine gate_callee (f := 10) rfl ?_); refine goesL_ (some 111) rfl rfl Try.func10 (by kernel_rfl) rfl #[.slice AP lc.length cP, .int .i64 (b : Int)] rfl (by (try simp only [List.map_toArray, List.map_cons, List.map_nil]); first | done | rfl) ?_; (with_reducible refine (take_calls AP lc.length cP (xorN (putN l1 b) S M) b _ (by have := Kd.R_reads' HP.out; exact this.2.2) (by rw [xorN_len, put_len l1 b (by have := BB.out; omega)]; exact NL.out) (Kd.R_reads' HP.out).2.1 (by have := BB.out; omega) (by have := BB.out; omega) (by have := HLEN.out; omega)).mono ?_); rintro e wt ⟨W1, AT, cT, hW, rfl, hr, hb⟩; refine ⟨_, rfl, ?_⟩; have HB3 : Aside0 (Below W0.heap.size W0 wt) := ⟨by rw [hW] at hb; exact below_step HB2.out hb⟩; have HT := Aside0.mk hr; clear HP HB2 hr hb hW))
            obtain ⟨t, ht⟩ : ∃ t_, takeN (xorN (putN l1 b) S M) b = t_ := ⟨_, rfl⟩
            rw [ht] at HT
            have TL : Aside0 (t.length = lc.length) := ⟨by rw [← ht, take_len, xorN_len, put_len l1 b (by have := BB.out; omega)]; exact NL.out⟩
            have LAW : Aside0 (cntT t l1 lc.length = M ∧ (3 ≤ H → cntB t l1 lc.length = 0)) := ⟨by
              have h1 := HZ.out; have h2 := HLEN.out; have h3 := BB.out; have h4 := HQ2.out; have h5 := HN2.out; have h6 := HS2.out
              have := burst_law lc b S N h3.1 h6 (by rw [← HH3.out, ← h4.2.1]; exact h5.2)
              rw [L1.out, ← HM.out, ht, ← HH3.out] at this
              exact this⟩
            clear ht
            go_wp2
            go_loopg [16, 17, 18] (lc.length + 1) (fun kq v16 v17 v18 w' => ∃ (i : Nat) (y p q : Int), v18 = .int .i64 y ∧ v16 = .int .i64 p ∧ v17 = .int .i64 q ∧ Aside0 (y = i ∧ i ≤ lc.length ∧ i + kq = lc.length + 1 ∧ p = cntT t l1 i ∧ q = cntB t l1 i) ∧ Aside0 (Kd.R (Kd.int .u8) 5 w' W1.heap.size (fun _ => True) (.slice AT lc.length cT) t) ∧ Aside0 (Below W0.heap.size W0 w'))
            case atStart => exact ⟨0, 0, 0, 0, rfl, rfl, rfl, ⟨by simp [cntT, cntB]⟩, HT, HB3⟩
            case round =>
              clear HT HB3
              obtain ⟨i, y, p, q, rfl, rfl, rfl, HI3, HT, HB3⟩ := hrel
              cases gk with
              | zero => exact absurd HI3.out (by omega)
              | succ k3 =>
                by_cases cl : y < (lc.length : Int)
                · have c6 : decide (y < (lc.length : Int)) = true := decide_eq_true cl
                  have p0 : 0 ≤ y := by have := HI3.out; omega
                  have q1 : y < (t.length : Int) := by rw [TL.out]; exact cl
                  have q2 : y < (l1.length : Int) := by rw [NL.out]; exact cl
                  obtain ⟨adT, eT, hxT⟩ := Kd.at_int (Kd.R_reads' HT.out).2.2 y p0 q1
                  obtain ⟨adL, eL, hxL⟩ := Kd.at_int (Kd.C_below LS.out HB3.out) y p0 q2
                  cases eT
                  cases eL
                  have CNT := Aside0.mk (cnt_le t l1 i)
                  have CL := Aside0.mk cl
                  have P0 := Aside0.mk p0
                  replace p0 := eq_true p0
                  have q0 := eq_true cl
                  clear q1 q2
                  by_cases ceq : rd t y = rd l1 y
                  · have CE := Aside0.mk ceq
                    rw [ceq] at hxT
                    obtain ⟨lv, hlv⟩ : ∃ v_, rd l1 y = v_ := ⟨_, rfl⟩
                    rw [hlv] at hxT hxL
                    have hee : (lv == lv) = true := by simp
                    clear ceq cl hlv
                    go_wp2
                    repeat (go_quiet (fail); try go_wp2)
                    go_roundg k3
                    case measure => omega
                    case rel =>
                      refine ⟨i + 1, wrap64 (y + 1), p, q, rfl, rfl, rfl, ⟨?_⟩, ⟨Kd.R_drewN HT.out _⟩, ⟨pw_below_drewN HB3.out _⟩⟩
                      have h1 := HI3.out; have h2 := CL.out; have h3 := HLEN.out; have h4 := CE.out
                      rw [h1.1] at h4
                      rw [cntT, cntB, if_pos h4, if_pos h4]
                      unfold wrap64; omega
                  · have CE := Aside0.mk ceq
                    obtain ⟨lv, hlv⟩ : ∃ v_, rd l1 y = v_ := ⟨_, rfl⟩
                    obtain ⟨tv, htv⟩ : ∃ v_, rd t y = v_ := ⟨_, rfl⟩
                    have hne : (tv == lv) = false := by rw [beq_eq_false_iff_ne, ← hlv, ← htv]; exact ceq
                    rw [htv] at hxT
                    rw [hlv] at hxL
                    clear ceq cl hlv htv
                    by_cases cp : 0 < y
                    · have cpb : decide (0 < y) = true := decide_eq_true cp
                      obtain ⟨y1, hy1⟩ : ∃ y1, wrap64 (y - 1) = y1 := ⟨_, rfl⟩
                      have hy2 : y1 = y - 1 := by have h1 := HI3.out; have h3 := HLEN.out; rw [← hy1]; unfold wrap64; omega
                      have r0 : 0 ≤ y1 := by omega
                      have r1 : y1 < (lc.length : Int) := by have := CL.out; omega
                      have HY2 := Aside0.mk hy2
                      obtain ⟨adT2, eT, hxT2⟩ := Kd.at_int (Kd.R_reads' HT.out).2.2 y1 r0 (by rw [TL.out]; exact r1)
                      obtain ⟨adL2, eL, hxL2⟩ := Kd.at_int (Kd.C_below LS.out HB3.out) y1 r0 (by rw [NL.out]; exact r1)
                      cases eT
                      cases eL
                      replace r0 := eq_true r0
                      replace r1 := eq_true r1
                      have CP := Aside0.mk cp
                      clear hy2 cp
                      by_cases ce2 : rd t y1 = rd l1 y1
                      · have CE2 := Aside0.mk ce2
                        rw [ce2] at hxT2
                        obtain ⟨lv2, hlv2⟩ : ∃ v_, rd l1 y1 = v_ := ⟨_, rfl⟩
                        rw [hlv2] at hxT2 hxL2
                        have hee2 : (lv2 != lv2) = false := by simp
                        clear ce2 hlv2
                        go_wp2
                        repeat (go_quiet (fail); try go_wp2)
                        go_roundg k3
                        case measure => omega
                        case rel =>
                          refine ⟨i + 1, wrap64 (y + 1), wrap64 (p + 1), q, rfl, rfl, rfl, ⟨?_⟩, ⟨by first | exact HT.out | exact Kd.R_drewN HT.out _ | exact Kd.R_drewN (Kd.R_drewN HT.out _) _⟩, ⟨by first | exact HB3.out | exact pw_below_drewN HB3.out _ | exact pw_below_drewN (pw_below_drewN HB3.out _) _⟩⟩
                          have h1 := HI3.out; have h2 := CL.out; have h3 := HLEN.out; have h4 := CE.out; have h5 := CNT.out
                          rw [h1.1] at h4
                          rw [cntT, cntB, if_neg h4, if_neg h4, if_neg (by rintro ⟨_, g2⟩; have h6 := CE2.out; rw [HY2.out, h1.1] at h6; apply g2; rw [show ((i - 1 : Nat) : Int) = (i : Int) - 1 by have := CP.out; omega]; exact h6)]
                          unfold wrap64; omega
                      · have CE2 := Aside0.mk ce2
                        obtain ⟨lv2, hlv2⟩ : ∃ v_, rd l1 y1 = v_ := ⟨_, rfl⟩
                        obtain ⟨tv2, htv2⟩ : ∃ v_, rd t y1 = v_ := ⟨_, rfl⟩
                        have hne2 : (tv2 != lv2) = true := by rw [bne_iff_ne, ← hlv2, ← htv2]; exact ce2
                        rw [htv2] at hxT2
                        rw [hlv2] at hxL2
                        clear ce2 hlv2 htv2
                        go_wp2
                        repeat (go_quiet (fail); try go_wp2)
                        go_roundg k3
                        case measure => omega
                        case rel =>
                          refine ⟨i + 1, wrap64 (y + 1), wrap64 (p + 1), wrap64 (q + 1), rfl, rfl, rfl, ⟨?_⟩, ⟨by first | exact HT.out | exact Kd.R_drewN HT.out _ | exact Kd.R_drewN (Kd.R_drewN HT.out _) _⟩, ⟨by first | exact HB3.out | exact pw_below_drewN HB3.out _ | exact pw_below_drewN (pw_below_drewN HB3.out _) _⟩⟩
                          have h1 := HI3.out; have h2 := CL.out; have h3 := HLEN.out; have h4 := CE.out; have h5 := CNT.out
                          rw [h1.1] at h4
                          rw [cntT, cntB, if_neg h4, if_neg h4, if_pos (by have h6 := CE2.out; rw [HY2.out, h1.1] at h6; have h7 := CP.out; exact ⟨by omega, by rw [show ((i - 1 : Nat) : Int) = (i : Int) - 1 by omega]; exact h6⟩)]
                          unfold wrap64; omega
                    · have cpb : decide (0 < y) = false := decide_eq_false cp
                      have CP := Aside0.mk cp
                      clear cp
                      go_wp2
                      repeat (go_quiet (fail); try go_wp2)
                      go_roundg k3
                      case measure => omega
                      case rel =>
                        refine ⟨i + 1, wrap64 (y + 1), wrap64 (p + 1), q, rfl, rfl, rfl, ⟨?_⟩, ⟨by first | exact HT.out | exact Kd.R_drewN HT.out _ | exact Kd.R_drewN (Kd.R_drewN HT.out _) _⟩, ⟨by first | exact HB3.out | exact pw_below_drewN HB3.out _ | exact pw_below_drewN (pw_below_drewN HB3.out _) _⟩⟩
                        have h1 := HI3.out; have h2 := CL.out; have h3 := HLEN.out; have h4 := CE.out; have h5 := CNT.out
                        rw [h1.1] at h4
                        rw [cntT, cntB, if_neg h4, if_neg h4, if_neg (by rintro ⟨g1, _⟩; have h7 := CP.out; omega)]
                        unfold wrap64; omega
                · have c6 : decide (y < (lc.length : Int)) = false := decide_eq_false cl
                  have LW := LAW.out
                  obtain rfl : i = lc.length := by have h1 := HI3.out; omega
                  have hp : p = (M : Int) := by have h1 := HI3.out; omega
                  subst hp
                  obtain ⟨R, hR⟩ : ∃ R : Nat, R = lc.length - S := ⟨_, rfl⟩
                  have hR1 : wrap64 ((lc.length : Int) - (S : Int)) = (R : Int) := by have h1 := HS2.out; have h2 := HLEN.out; unfold wrap64; omega
                  have hmn : (if (R : Int) < (N : Int) then (R : Int) else (N : Int)) = (M : Int) := by have h1 := HM.out; split <;> omega
                  by_cases cw : (H : Int) < 3
                  · have cwb : decide ((H : Int) < 3) = true := decide_eq_true cw
                    clear cl cw
                    go_wp2
                    all_goals (go_ret; exact ⟨rfl, below_step HB0.out HB3.out⟩)
                  · have cwb : decide ((H : Int) < 3) = false := decide_eq_false cw
                    have hq : q = 0 := by have h1 := HI3.out; have h2 := LW.2 (by omega); omega
                    subst hq
                    clear cl cw
                    go_wp2
                    all_goals (go_ret; exact ⟨rfl, below_step HB0.out HB3.out⟩)
end Go.Proofs.Ytdakfabdegiboaa.Q
