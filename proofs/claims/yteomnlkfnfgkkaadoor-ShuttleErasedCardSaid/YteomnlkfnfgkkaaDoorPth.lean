/- The walk of trellis.Path at lists of bits: how many edges it tells. Condition: the taps lie as their initialiser lays them. -/
import Derived.Test.YteomnlkfnfgkkaaDoorCod
namespace Go.Proofs.YteomnlkfnfgkkaaDoor.Q
open Go.RowKit Go.Proofs.YteomnlkfnfgkkaaDoorW.PrintWords Go.Proofs.YteomnlkfnfgkkaaDoorW.PrintLast Go.Proofs.YteomnlkfnfgkkaaDoorW.PrintMore
attribute [local go_sem] max2_int min2_int max_two min_two max_three min_three max_four min_four   -- for this text's walks alone
set_option linter.unusedVariables false
set_option linter.unusedSimpArgs false
theorem infE : (Tryd.prog.info? 44).map (fun i => (i.zero, i.size, i.bytes)) = some (some (.agg zero7), 7, 24) := by kernel_rfl
/-- An edge, of which nothing but its seven cells is told. -/
def kdE : Kd Unit where
  sz := 7
  E := []
  K := fun _ _ cs => cs.length = 7 ∧ ∀ u ∈ cs, u.oneCell' = true
  M := fun _ _ _ _ cs => cs.length = 7 ∧ ∀ u ∈ cs, u.oneCell' = true
  K_len := fun h => h.1
  K_one := fun h => h.2
  K_below := fun _ h => h
  K_of_M := fun h => h
  M_mono := fun _ h => h
  M_bound := fun h => h
  M_move := fun _ h => h
  M_lower := fun _ h => h
theorem moveE {w w1 : World} {base : Nat} {ok : Nat → Prop} {v : Value} {xs : List Unit} (h : Kd.R kdE 44 w base ok v xs) (hm : ∀ k, v.ownBlock = some k → k < w.heap.size → w1.heap[k]? = w.heap[k]?) : Kd.R kdE 44 w1 base ok v xs := by
  have h2 : Kd.R kdE 44 w base (fun k => v.ownBlock = some k) v xs := ⟨fun k hk => hk, h.2⟩
  exact Kd.R_mono (Kd.R_step h2 hm) (fun k hk => h.1 k hk)
set_option maxHeartbeats 8000000 in
set_option maxRecDepth 100000 in
theorem path_calls (w : World) (A0 : Option Addr) (c0 : Nat) (l : List Int) (hT : Aside0 (TapOk w)) (hr0 : Kd.C (Kd.int .u8) w A0 l.length l) (hl : l.length ≤ 10000) (hb : ∀ x ∈ l, 0 ≤ x ∧ x ≤ 1) :
    Calls Tryd.prog 7 #[.slice A0 l.length c0] w fun e w' => ∃ (A : Option Addr) (c : Nat), e = .returned (.tuple #[.slice A (l.length + 6) c, .int .i64 0]) ∧ Below w.heap.size w w' := by
  have HB := Aside0.mk (Below.refl w.heap.size w)
  have HR := Aside0.mk hr0
  have HL := Aside0.mk hl
  have HBT := Aside0.mk hb
  have HCD := Aside0.mk (code_calls w A0 c0 l hT hr0 hl hb)
  obtain ⟨n, hn⟩ : ∃ n, l.length = n := ⟨_, rfl⟩
  obtain ⟨T, hTT⟩ : ∃ T, n + 6 = T := ⟨_, rfl⟩
  rw [hn] at HR HCD hl ⊢
  rw [hTT]
  have HST := Aside0.mk (fun (w' : World) => conv_Steps.calls (n : Int) (T : Int) w' (by unfold conv_Steps.f; rw [if_neg (by omega)]; congr 1; unfold wrap64; omega))
  have HN := Aside0.mk hn
  have HTT := Aside0.mk hTT
  have HLN := Aside0.mk hl
  clear hr0 hl hb hn hTT
  go_enter Tryd.func7, Tryd.ntmps7
  go_wp2_with (first | ((with_reducible refine gate_callee (f := 6) rfl ?_); refine goesL_ (some 14) rfl rfl Tryd.func6 (by kernel_rfl) rfl #[.slice A0 n c0] rfl (by (try simp only [List.map_toArray, List.map_cons, List.map_nil]); first | done | rfl) ?_; (with_reducible refine HCD.out.mono ?_); rintro e w2 ⟨v0, rfl, ho_, hb⟩; refine ⟨_, rfl, ?_⟩; have n1_ := Aside0.mk (below_step HB.out hb); clear HB hb ho_; have HB := n1_; clear n1_) | ((with_reducible refine gate_callee (f := 12) rfl ?_); refine goesL_ (some 22) rfl rfl Tryd.func12 (by kernel_rfl) rfl #[.int .i64 (n : Int)] rfl (by (try simp only [List.map_toArray, List.map_cons, List.map_nil]); first | done | rfl) ?_; (with_reducible refine (HST.out _).mono ?_); rintro e wq ⟨rfl, ⟨nd, rfl⟩⟩; refine ⟨_, rfl, ?_⟩; have n1_ := Aside0.mk (pw_below_drewN HB.out nd); clear HB; have HB := n1_; clear n1_) | ((with_reducible refine (HST.out _).mono ?_); rintro e wq ⟨rfl, ⟨nd, rfl⟩⟩; have n1_ := Aside0.mk (pw_below_drewN HB.out nd); clear HB; have HB := n1_; clear n1_))
  go_loopg [6, 7, 8, 9, 10, 11, 23] (T + 1) (fun kq v6 v7 v8 v9 v10 v11 v23 w' => ∃ (i : Nat), v23 = .int .i64 (i : Int) ∧ v7 = .int .i64 ((stS l i : Nat) : Int) ∧ Aside0 (i + kq = T + 1 ∧ i ≤ T) ∧ Aside0 (Kd.R kdE 44 w' w.heap.size (fun _ => True) v6 (List.replicate i ())) ∧ Aside0 (Below w.heap.size w w'))
  case atStart => exact ⟨0, rfl, rfl, ⟨by omega⟩, ⟨Kd.R_nil _ _ _ _ _⟩, HB⟩
  case round =>
    clear HB
    obtain ⟨i, rfl, rfl, HI, HO, HB⟩ := hrel
    cases gk with
    | zero => exact absurd HI.out (by omega)
    | succ k1 =>
      by_cases cl : (i : Int) < (T : Int)
      · have c5 : decide ((i : Int) < (T : Int)) = true := decide_eq_true cl
        have c6 : decide (i < T) = true := decide_eq_true (by omega)
        have CL := Aside0.mk cl
        clear cl
        go_upto_if 29 with (fail)
        go_cut [9] (fun v9 wc => v9 = .int .u8 ((inB l i : Nat) : Int) ∧ wc = wr)
        case first =>
          by_cases cn : (i : Int) < (n : Int)
          · have c7 : decide ((i : Int) < (n : Int)) = true := decide_eq_true cn
            have c8 : decide (i < n) = true := decide_eq_true (by omega)
            have hin : i < l.length := by have := HN.out; omega
            have HX : Aside0 (∃ ad, A0 = some ad ∧ wr.cell? (ad.add i) = some (.int .u8 ((inB l i : Nat) : Int))) := ⟨by
              obtain ⟨ad, e1, hx⟩ := Kd.at_int HR.out (i : Int) (Int.natCast_nonneg i) cn
              refine ⟨ad, e1, (HB.out.cell (World.block_lt_of_cell? w _ hx)).trans (hx.trans ?_)⟩
              rw [inB_rd HBT.out i hin]⟩
            obtain ⟨ad, e1, hx⟩ := HX.out
            cases e1
            clear HX
            have q0 := eq_true cn
            have q1 : (i < n) = True := eq_true (by omega)
            have CN := Aside0.mk cn
            clear cn hin
            go_wp2
            all_goals try (exfalso; have := CN.out; omega)
            go_meet
            case rel => exact ⟨rfl, rfl⟩
          · have c7 : decide ((i : Int) < (n : Int)) = false := decide_eq_false cn
            have c8 : decide (i < n) = false := decide_eq_false (by omega)
            have hz := inB_far (l := l) i (by have := HN.out; omega)
            go_wp2
            all_goals try (exfalso; omega)
            go_meet
            case rel => exact ⟨by rw [hz]; rfl, rfl⟩
        case rest =>
          obtain ⟨rfl, rfl⟩ := hcut
          have hs := stS_lt HBT.out i
          have hb := inB_lt HBT.out i
          obtain ⟨s, hse⟩ : ∃ s, stS l i = s := ⟨_, rfl⟩
          obtain ⟨b, hbe⟩ : ∃ b, inB l i = b := ⟨_, rfl⟩
          obtain ⟨x, hxe⟩ : ∃ x, wd s b = x := ⟨_, rfl⟩
          obtain ⟨t, hte⟩ : ∃ t, x / 2 = t := ⟨_, rfl⟩
          rw [hse] at hs ⊢
          rw [hbe] at hb ⊢
          obtain ⟨o0, h0⟩ : ∃ o, ob x 0 = o := ⟨_, rfl⟩
          obtain ⟨o1, h1⟩ : ∃ o, ob x 1 = o := ⟨_, rfl⟩
          obtain ⟨o2, h2⟩ : ∃ o, ob x 2 = o := ⟨_, rfl⟩
          obtain ⟨o3, h3⟩ : ∃ o, ob x 3 = o := ⟨_, rfl⟩
          have HO4 := Aside0.mk (And.intro h0 (And.intro h1 (And.intro h2 h3)))
          have HS3 := Aside0.mk (And.intro hs (And.intro hb (And.intro hxe hte)))
          have HS : Aside0 (stS l (i + 1) = t) := ⟨by rw [stS, hse, hbe, toS, hxe, hte]⟩
          have hw1 : wrap64 ((i : Int) + 1) = (i : Int) + 1 := by have := HTT.out; have := CL.out; have := HLN.out; unfold wrap64; omega
          clear hse hbe hxe hte h0 h1 h2 h3 hs hb
          go_wp2_with (first | ((with_reducible refine gate_callee (f := 15) rfl ?_); refine goesL_ (some 37) rfl rfl Tryd.func15 (by kernel_rfl) rfl #[.int .i64 (s : Int), .int .u8 (b : Int)] rfl (by (try simp only [List.map_toArray, List.map_cons, List.map_nil]); first | done | rfl) ?_; (with_reducible refine (edge_calls _ s b x t HS3.out.1 HS3.out.2.1 HS3.out.2.2.1 HS3.out.2.2.2 (TapA.below hT HB.out) o0 o1 o2 o3 HO4.out.1 HO4.out.2.1 HO4.out.2.2.1 HO4.out.2.2.2).mono ?_); rintro e wq ⟨rfl, hb⟩; refine ⟨_, rfl, ?_⟩; have k1_ := Aside0.mk (Kd.R_below HO.out hb); have n1_ := Aside0.mk (below_step HB.out hb); clear HO; have HO := k1_; clear k1_; clear HB hb; have HB := n1_; clear n1_) | ((with_reducible refine gate_dst (N := 10) rfl ?_); refine box_event ?hg (N := 10) ?hd (cs := zero7) (t := 44) ?hr ?_; (case hd => rfl); (case hg => rfl); (case hr => first | (go_simp; done) | (go_simp; rfl)); intro g10 hg w10 hbox hb; have k0_ := Aside0.mk (Kd.R_below HO.out hb); have NE10 : Aside0 (some g10 ≠ u6.ownBlock) := ⟨by rw [hg]; exact Kd.R_ne_new HO.out 0⟩; clear HO; have HO := k0_; clear k0_; have n1_ := Aside0.mk (below_step HB.out hb); have GE10 := Aside0.mk ((by rw [hg]; exact (below_size HB.out)) : w.heap.size ≤ g10); have B10 := Aside0.mk hbox; clear HB hb hbox hg; have HB := n1_; clear n1_) | ((with_reducible refine gate_store (t := 44) (p := 10) rfl ?_); refine wpList_store_row rfl 44 (.tmp 10) (.tmp 38) rfl g10 #[.int .i64 (s : Int), .int .i64 (t : Int), .int .u8 (b : Int), .int .u8 o0, .int .u8 o1, .int .u8 o2, .int .u8 o3] rfl rfl 44 zero7 B10.out (by kernel_rfl) rfl (by simp [Value.oneCell']) ?_; have kb_ := Aside0.mk (setRow_heap _ g10 zero7 #[.int .i64 (s : Int), .int .i64 (t : Int), .int .u8 (b : Int), .int .u8 o0, .int .u8 o1, .int .u8 o2, .int .u8 o3] 44 (0, 0) B10.out); have k0_ := Aside0.mk (moveE HO.out (fun k hk hlt => setRow_other _ g10 k #[.int .i64 (s : Int), .int .i64 (t : Int), .int .u8 (b : Int), .int .u8 o0, .int .u8 o1, .int .u8 o2, .int .u8 o3] (fun e => NE10.out (by rw [hk, e])))); have n1_ := Aside0.mk (below_row (g := g10) (cs := #[.int .i64 (s : Int), .int .i64 (t : Int), .int .u8 (b : Int), .int .u8 o0, .int .u8 o1, .int .u8 o2, .int .u8 o3]) HB.out GE10.out); clear HB B10 HO; have HB := n1_; have B10 := kb_; have HO := k0_; clear n1_ kb_ k0_; generalize World.setRow _ g10 _ = wk at HB HO B10 ⊢) | ((with_reducible refine gate_dst (N := 44) rfl ?_); refine wpList_load_row rfl 44 (.tmp 10) rfl g10 rfl 44 #[.int .i64 (s : Int), .int .i64 (t : Int), .int .u8 (b : Int), .int .u8 o0, .int .u8 o1, .int .u8 o2, .int .u8 o3] (0, 0) _ B10.out Tryd.underlying44 rfl (by kernel_rfl) ?_) | ((with_reducible refine gate_builtin (b := .append) (xs := #[.tmp 43, .tmp 45]) rfl ?_); at_builtin; refine Kd.R_append kdE (w0 := w) w.heap.size rfl (.tmp 43) (.tmp 45) 28 44 (.agg zero7) 24 rfl Tryd.underlying28 infE rfl (by decide) (by omega) u6 (List.replicate i ()) () [.int .i64 (s : Int), .int .i64 (t : Int), .int .u8 (b : Int), .int .u8 o0, .int .u8 o1, .int .u8 o2, .int .u8 o3] (fun _ => True) (fun _ => False) rfl rfl ?aP (fun _ hk => hk.elim) ?aF ?aO ?aB ?aS ?aL ?_; (case aP => exact ⟨rfl, by simp [Value.oneCell']⟩); (case aB => exact (by repeat (first | (with_reducible first | exact HB.out | apply below_alloc | apply pw_below_drewN | apply below_drew1) | exact HB.out))); (case aF => exact (fun _ _ => trivial)); (case aO => exact HO.out); (case aS => exact (below_size (by repeat (first | (with_reducible first | exact HB.out | apply below_alloc | apply pw_below_drewN | apply below_drew1) | exact HB.out)))); (case aL => have := HI.out; have := HTT.out; have := HLN.out; rw [List.length_replicate]; omega); intro v9_ w9_ ho hb hg hat; have n0_ := Aside0.mk (blk_grown B10.out hg NE10.out); have n1_ := Aside0.mk hb; have n2_ := Aside0.mk ho; clear HB HO B10 NE10 ho hb hg hat; have HB := n1_; have HO := n2_; have B10 := n0_; clear n0_ n1_ n2_; have hcx := (blk_cell B10.out 1).trans (show (#[.int .i64 (s : Int), .int .i64 (t : Int), .int .u8 (b : Int), .int .u8 o0, .int .u8 o1, .int .u8 o2, .int .u8 o3] : Array Value)[1]? = some (.int .i64 (t : Int)) from rfl)))
          go_roundg k1
          case measure => omega
          case rel => exact ⟨i + 1, by first | (rw [hw1]; rfl) | rfl | (simp; done), by rw [HS.out], ⟨by have h1 := HI.out; have h2 := CL.out; omega⟩, ⟨by rw [List.replicate_succ']; exact HO.out⟩, HB⟩
      · have c5 : decide ((i : Int) < (T : Int)) = false := decide_eq_false cl
        have c6 : decide (i < T) = false := decide_eq_false (by omega)
        obtain rfl : i = T := by have := HI.out; omega
        clear cl
        have HZ : Aside0 (∃ A c, u6 = .slice A i c) := ⟨by
          obtain ⟨inner, ho⟩ := Kd.R_own HO.out
          rcases ho.2 with ⟨h1, h2⟩ | ⟨g', cap, cur, h1, _⟩
          · have h3 : i = 0 := by simpa using h2
            exact ⟨none, 0, by rw [h1, h3]⟩
          · exact ⟨some ⟨g', 0, none⟩, cap, by rw [h1, List.length_replicate]⟩⟩
        go_wp2
        go_ret2
        obtain ⟨A, c, h⟩ := HZ.out
        exact ⟨A, c, by rw [h]; rfl, HB.out⟩
end Go.Proofs.YteomnlkfnfgkkaaDoor.Q
