/- The walk of conv.Code at lists of bits. Condition: the taps lie as their initialiser lays them. -/
import Derived.Test.YteomnlkfnfgkkaaDoorDec
namespace Go.Proofs.YteomnlkfnfgkkaaDoor.Q
open Go.RowKit Go.Proofs.YteomnlkfnfgkkaaDoorW.PrintWords Go.Proofs.YteomnlkfnfgkkaaDoorW.PrintLast Go.Proofs.YteomnlkfnfgkkaaDoorW.PrintMore
attribute [local go_sem] max2_int min2_int max_two min_two max_three min_three max_four min_four   -- for this text's walks alone
set_option linter.unusedVariables false
set_option linter.unusedSimpArgs false
/-- The bit told at a step: of the list, or 0 behind it. -/
def inB (l : List Int) (i : Nat) : Nat := (rd l (i : Int)).toNat
theorem inB_lt {l : List Int} (h : ∀ x ∈ l, 0 ≤ x ∧ x ≤ 1) (i : Nat) : inB l i < 2 := by
  unfold inB rd
  rw [Int.toNat_natCast, List.getD_eq_getElem?_getD]
  rcases Nat.lt_or_ge i l.length with hi | hi
  · rw [List.getElem?_eq_getElem hi, Option.getD_some]
    have := h _ (List.getElem_mem hi)
    omega
  · rw [List.getElem?_eq_none hi]
    decide
theorem inB_rd {l : List Int} (h : ∀ x ∈ l, 0 ≤ x ∧ x ≤ 1) (i : Nat) (hi : i < l.length) : rd l (i : Int) = (inB l i : Int) := by
  unfold inB rd
  rw [Int.toNat_natCast, List.getD_eq_getElem?_getD, List.getElem?_eq_getElem hi, Option.getD_some]
  have := h _ (List.getElem_mem hi)
  omega
theorem inB_far {l : List Int} (i : Nat) (hi : l.length ≤ i) : inB l i = 0 := by
  unfold inB rd
  rw [Int.toNat_natCast, List.getD_eq_getElem?_getD, List.getElem?_eq_none hi]
  rfl
def stS (l : List Int) : Nat → Nat
  | 0 => 0
  | i + 1 => toS (stS l i) (inB l i)
theorem stS_lt {l : List Int} (h : ∀ x ∈ l, 0 ≤ x ∧ x ≤ 1) : ∀ i, stS l i < 64
  | 0 => Nat.zero_lt_succ 63
  | i + 1 => toS_lt _ _ (stS_lt h i) (inB_lt h i)
def fourL (x : Nat) : List Int := [ob x 0, ob x 1, ob x 2, ob x 3]
def codeL (l : List Int) : Nat → List Int
  | 0 => []
  | i + 1 => codeL l i ++ fourL (wd (stS l i) (inB l i))
theorem codeL_len (l : List Int) : ∀ i, (codeL l i).length = 4 * i
  | 0 => rfl
  | i + 1 => by rw [codeL, List.length_append, codeL_len l i]; show 4 * i + 4 = _; omega
theorem C_four {W : World} {g : Nat} {o0 o1 o2 o3 : Int} (h : W.heap[g]? = some (.cells #[.int .u8 o0, .int .u8 o1, .int .u8 o2, .int .u8 o3] 41 (0, 0))) : Kd.C (Kd.int .u8) W (some ⟨g, 0, none⟩) 4 [o0, o1, o2, o3] :=
  Kd.C_of_reads (d := (0 : Int)) (h1 := fun _ => rfl) ⟨rfl, by decide, fun _ => ⟨_, rfl, fun j hj => by
    refine Eq.trans (b := World.cell? _ ⟨g, j, none⟩) (by by_cases e : j = 0 <;> simp [Addr.add, e]) ((blk_cell h j).trans ?_)
    rcases j with _ | _ | _ | _ | j
    all_goals first | rfl | omega⟩⟩
set_option maxHeartbeats 8000000 in
set_option maxRecDepth 100000 in
theorem code_calls (w : World) (A0 : Option Addr) (c0 : Nat) (l : List Int) (hT : Aside0 (TapOk w)) (hr0 : Kd.C (Kd.int .u8) w A0 l.length l) (hl : l.length ≤ 10000) (hb : ∀ x ∈ l, 0 ≤ x ∧ x ≤ 1) :
    Calls Tryd.prog 6 #[.slice A0 l.length c0] w fun e w' => ∃ v0, e = .returned (.tuple #[v0, .int .i64 0]) ∧ Kd.R (Kd.int .u8) 5 w' w.heap.size (fun _ => True) v0 (codeL l (l.length + 6)) ∧ Below w.heap.size w w' := by
  have HB := Aside0.mk (Below.refl w.heap.size w)
  have HR := Aside0.mk hr0
  have HL := Aside0.mk hl
  have HBT := Aside0.mk hb
  have HRT := Aside0.mk (right_calls A0 c0 l w hr0 (by omega) (fun x hx => (hb x hx).2))
  obtain ⟨n, hn⟩ : ∃ n, l.length = n := ⟨_, rfl⟩
  obtain ⟨T, hTT⟩ : ∃ T, n + 6 = T := ⟨_, rfl⟩
  rw [hn] at HR HRT hl ⊢
  rw [hTT]
  have HST := Aside0.mk (fun (w' : World) => conv_Steps.calls (n : Int) (T : Int) w' (by unfold conv_Steps.f; rw [if_neg (by omega)]; congr 1; unfold wrap64; omega))
  have HN := Aside0.mk hn
  have HTT := Aside0.mk hTT
  have HLN := Aside0.mk hl
  have a1 : decide ((n : Int) > 16384) = false := decide_eq_false (by omega)
  have a2 : decide (16384 < (n : Int)) = false := decide_eq_false (by omega)
  clear hr0 hl hb hn hTT
  go_enter Tryd.func6, Tryd.ntmps6
  go_wp2_with (first | ((with_reducible refine gate_callee (f := 11) rfl ?_); refine goesL_ (some 12) rfl rfl Tryd.func11 (by kernel_rfl) rfl #[.slice A0 n c0] rfl (by (try simp only [List.map_toArray, List.map_cons, List.map_nil]); first | done | rfl) ?_; (with_reducible refine HRT.out.mono ?_); rintro e w2 ⟨rfl, hb⟩; refine ⟨_, rfl, ?_⟩; have n1_ := Aside0.mk (below_step HB.out hb); clear HB hb; have HB := n1_; clear n1_) | ((with_reducible refine gate_callee (f := 12) rfl ?_); refine goesL_ (some 20) rfl rfl Tryd.func12 (by kernel_rfl) rfl #[.int .i64 (n : Int)] rfl (by (try simp only [List.map_toArray, List.map_cons, List.map_nil]); first | done | rfl) ?_; (with_reducible refine (HST.out _).mono ?_); rintro e wq ⟨rfl, ⟨nd, rfl⟩⟩; refine ⟨_, rfl, ?_⟩; have n1_ := Aside0.mk (pw_below_drewN HB.out nd); clear HB; have HB := n1_; clear n1_) | ((with_reducible refine (HST.out _).mono ?_); rintro e wq ⟨rfl, ⟨nd, rfl⟩⟩; have n1_ := Aside0.mk (pw_below_drewN HB.out nd); clear HB; have HB := n1_; clear n1_))
  go_loopg [4, 5, 6, 7, 8, 9, 21] (T + 1) (fun kq v4 v5 v6 v7 v8 v9 v21 w' => ∃ (i : Nat), v21 = .int .i64 (i : Int) ∧ v5 = .int .i64 ((stS l i : Nat) : Int) ∧ Aside0 (i + kq = T + 1 ∧ i ≤ T) ∧ Aside0 (Kd.R (Kd.int .u8) 5 w' w.heap.size (fun _ => True) v4 (codeL l i)) ∧ Aside0 (Below w.heap.size w w'))
  case atStart => exact ⟨0, rfl, rfl, ⟨by omega⟩, ⟨Kd.R_nil _ _ _ _ _⟩, HB⟩
  case round =>
    clear HB
    obtain ⟨i, rfl, rfl, HI, HO, HB⟩ := hrel
    cases gk with
    | zero => exact absurd HI.out (by omega)
    | succ k1 =>
      by_cases cl : (i : Int) < (T : Int)
      · have c5 : decide ((i : Int) < (T : Int)) = true := decide_eq_true cl
        have c6 : decide (i < T) = true := decide_eq_true (by omega)
        have CL := Aside0.mk cl
        clear cl
        go_upto_if 27 with (fail)
        go_cut [7] (fun v7 wc => v7 = .int .u8 ((inB l i : Nat) : Int) ∧ wc = wr)
        case first =>
          by_cases cn : (i : Int) < (n : Int)
          · have c7 : decide ((i : Int) < (n : Int)) = true := decide_eq_true cn
            have c8 : decide (i < n) = true := decide_eq_true (by omega)
            have hin : i < l.length := by have := HN.out; omega
            have HX : Aside0 (∃ ad, A0 = some ad ∧ wr.cell? (ad.add i) = some (.int .u8 ((inB l i : Nat) : Int))) := ⟨by
              obtain ⟨ad, e1, hx⟩ := Kd.at_int HR.out (i : Int) (Int.natCast_nonneg i) cn
              refine ⟨ad, e1, (HB.out.cell (World.block_lt_of_cell? w _ hx)).trans (hx.trans ?_)⟩
              rw [inB_rd HBT.out i hin]⟩
            obtain ⟨ad, e1, hx⟩ := HX.out
            cases e1
            clear HX
            have q0 := eq_true cn
            have q1 : (i < n) = True := eq_true (by omega)
            have CN := Aside0.mk cn
            clear cn hin
            go_wp2
            all_goals try (exfalso; have := CN.out; omega)
            go_meet
            case rel => exact ⟨rfl, rfl⟩
          · have c7 : decide ((i : Int) < (n : Int)) = false := decide_eq_false cn
            have c8 : decide (i < n) = false := decide_eq_false (by omega)
            have hz := inB_far (l := l) i (by have := HN.out; omega)
            go_wp2
            all_goals try (exfalso; omega)
            go_meet
            case rel => exact ⟨by rw [hz]; rfl, rfl⟩
        case rest =>
          obtain ⟨rfl, rfl⟩ := hcut
          have hs := stS_lt HBT.out i
          have hb := inB_lt HBT.out i
          obtain ⟨s, hse⟩ : ∃ s, stS l i = s := ⟨_, rfl⟩
          obtain ⟨b, hbe⟩ : ∃ b, inB l i = b := ⟨_, rfl⟩
          obtain ⟨x, hxe⟩ : ∃ x, wd s b = x := ⟨_, rfl⟩
          obtain ⟨t, hte⟩ : ∃ t, x / 2 = t := ⟨_, rfl⟩
          rw [hse] at hs ⊢
          rw [hbe] at hb ⊢
          have hx := wd_lt hs hb
          have hw := word_f s b hs hb
          rw [hxe] at hx hw
          have HW := Aside0.mk hw
          have HX := Aside0.mk hx
          obtain ⟨o0, h0⟩ : ∃ o, ob x 0 = o := ⟨_, rfl⟩
          obtain ⟨o1, h1⟩ : ∃ o, ob x 1 = o := ⟨_, rfl⟩
          obtain ⟨o2, h2⟩ : ∃ o, ob x 2 = o := ⟨_, rfl⟩
          obtain ⟨o3, h3⟩ : ∃ o, ob x 3 = o := ⟨_, rfl⟩
          have HO4 := Aside0.mk (And.intro h0 (And.intro h1 (And.intro h2 h3)))
          have HE : Aside0 (codeL l (i + 1) = codeL l i ++ [o0, o1, o2, o3]) := ⟨by rw [codeL, hse, hbe, hxe, fourL, h0, h1, h2, h3]⟩
          have HS : Aside0 (stS l (i + 1) = t) := ⟨by rw [stS, hse, hbe, toS, hxe, hte]⟩
          have hw2 : wrap64 ((x : Int) / 2) = (t : Int) := by unfold wrap64; omega
          have hw3 : (x : Int) / 2 = (t : Int) := by omega
          have hw4 : wrap64 (t : Int) = (t : Int) := (congrArg wrap64 hw3.symm).trans hw2
          have hw1 : wrap64 ((i : Int) + 1) = (i : Int) + 1 := by have := HTT.out; have := CL.out; have := HLN.out; unfold wrap64; omega
          clear hse hbe hxe hte hx hw h0 h1 h2 h3 hs hb
          go_wp2_with (first | ((with_reducible refine gate_callee (f := 13) rfl ?_); refine goesL_ (some 34) rfl rfl Tryd.func13 (by kernel_rfl) rfl #[.int .i64 (s : Int), .int .u8 (b : Int)] rfl (by (try simp only [List.map_toArray, List.map_cons, List.map_nil]); first | done | rfl) ?_; (with_reducible refine (conv_word.calls (s : Int) (b : Int) (x : Int) _ HW.out).mono ?_); rintro e wq ⟨rfl, hd⟩; have hb := drawn_below hd; clear hd; refine ⟨_, rfl, ?_⟩; have k1_ := Aside0.mk (Kd.R_below HO.out hb); have n1_ := Aside0.mk (below_step HB.out hb); clear HO; have HO := k1_; clear k1_; clear HB hb; have HB := n1_; clear n1_) | ((with_reducible refine gate_callee (f := 14) rfl ?_); refine goesL_ (some 36) rfl rfl Tryd.func14 (by kernel_rfl) rfl #[.int .u64 (x : Int)] rfl (by (try simp only [List.map_toArray, List.map_cons, List.map_nil]); first | done | rfl) ?_; (with_reducible refine (out_calls2 _ x HX.out (TapA.below hT HB.out) o0 o1 o2 o3 HO4.out.1 HO4.out.2.1 HO4.out.2.2.1 HO4.out.2.2.2).mono ?_); rintro e wq ⟨rfl, hb⟩; refine ⟨_, rfl, ?_⟩; have k1_ := Aside0.mk (Kd.R_below HO.out hb); have n1_ := Aside0.mk (below_step HB.out hb); clear HO; have HO := k1_; clear k1_; clear HB hb; have HB := n1_; clear n1_) | ((with_reducible refine gate_dst (N := 9) rfl ?_); refine box_event ?hg (N := 9) ?hd (cs := zero4) (t := 41) ?hr ?_; (case hd => rfl); (case hg => rfl); (case hr => first | (go_simp; done) | (go_simp; rfl)); intro g9 hg w9 hbox hb; have k0_ := Aside0.mk (Kd.R_below HO.out hb); clear HO; have HO := k0_; clear k0_; have n1_ := Aside0.mk (below_step HB.out hb); have GE9 := Aside0.mk ((by rw [hg]; exact (below_size HB.out)) : w.heap.size ≤ g9); have B9 := Aside0.mk hbox; clear HB hb hbox hg; have HB := n1_; clear n1_) | ((with_reducible refine gate_store (t := 41) (p := 9) rfl ?_); refine wpList_store_row rfl 41 (.tmp 9) (.tmp 36) rfl g9 #[.int .u8 o0, .int .u8 o1, .int .u8 o2, .int .u8 o3] rfl rfl 41 zero4 B9.out (by kernel_rfl) rfl (by simp [Value.oneCell']) ?_; have kb_ := Aside0.mk (setRow_heap _ g9 zero4 #[.int .u8 o0, .int .u8 o1, .int .u8 o2, .int .u8 o3] 41 (0, 0) B9.out); have k0_ := Aside0.mk (moveR HO.out (fun k hk hlt => setRow_other _ g9 k #[.int .u8 o0, .int .u8 o1, .int .u8 o2, .int .u8 o3] (fun e => row_ne HO.out B9.out (by decide) (by rw [hk, e])))); have n1_ := Aside0.mk (below_row (g := g9) (cs := #[.int .u8 o0, .int .u8 o1, .int .u8 o2, .int .u8 o3]) HB.out GE9.out); clear HB B9 HO; have HB := n1_; have B9 := kb_; have HO := k0_; clear n1_ kb_ k0_) | ((with_reducible refine gate_builtin (b := .append) (xs := #[.tmp 37, .tmp 38]) rfl ?_); at_builtin; refine Kd.R_append_rows (Kd.int .u8) (w0 := w) w.heap.size rfl (.tmp 37) (.tmp 38) 22 5 (.int .u8 0) 1 rfl Tryd.underlying22 info5 rfl (by decide) (by omega) u4 (codeL l i) [o0, o1, o2, o3] _ _ _ (fun _ => True) (fun _ => False) rfl rfl ?aO ?aR (fun _ _ h => h) (fun _ h => h.elim) ?aF ?aB ?aS ?aL ?_; (case aR => exact C_four B9.out); (case aB => exact (by repeat (first | (with_reducible first | exact HB.out | apply below_alloc | apply pw_below_drewN | apply below_drew1) | exact HB.out))); (case aF => exact (fun _ _ => trivial)); (case aO => exact HO.out); (case aS => exact (below_size (by repeat (first | (with_reducible first | exact HB.out | apply below_alloc | apply pw_below_drewN | apply below_drew1) | exact HB.out)))); (case aL => have := HI.out; have := HTT.out; have := HLN.out; rw [codeL_len]; omega); intro v9_ w9_ ho hb hg hat; have n1_ := Aside0.mk hb; have n2_ := Aside0.mk ho; clear HB HO B9 ho hb hg hat; have HB := n1_; have HO := n2_; clear n1_ n2_))
          go_roundg k1
          case measure => omega
          case rel => exact ⟨i + 1, by first | (rw [hw1]; rfl) | rfl | (simp; done), by rw [HS.out, hw4], ⟨by have h1 := HI.out; have h2 := CL.out; omega⟩, ⟨by rw [HE.out]; exact HO.out⟩, HB⟩
      · have c5 : decide ((i : Int) < (T : Int)) = false := decide_eq_false cl
        have c6 : decide (i < T) = false := decide_eq_false (by omega)
        obtain rfl : i = T := by have := HI.out; omega
        clear cl
        go_wp2
        go_ret2
        exact ⟨_, rfl, HO.out, HB.out⟩
end Go.Proofs.YteomnlkfnfgkkaaDoor.Q
