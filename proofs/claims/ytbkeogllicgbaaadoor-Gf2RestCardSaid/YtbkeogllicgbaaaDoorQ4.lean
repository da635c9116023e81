/- Machine side of the statements of this seat: of each function what it computes, and that the code computes it (lines made by a program of ours on the pattern of the print). No condition of our own. -/
import Derived.Test.YtbkeogllicgbaaaDoorQ0
import Derived.Test.YtbkeogllicgbaaaDoorQ1
import Derived.Test.YtbkeogllicgbaaaDoorQ3
namespace Go.Proofs.YtbkeogllicgbaaaDoor.Q
open Go.RowKit Go.Proofs.YtbkeogllicgbaaaDoorW.PrintWords Go.Proofs.YtbkeogllicgbaaaDoorW.PrintLast Go.Proofs.YtbkeogllicgbaaaDoorW.PrintMore
attribute [local go_sem] max2_int min2_int max_two min_two max_three min_three max_four min_four   -- for this text's walks alone
set_option linter.unusedVariables false
set_option linter.unusedSimpArgs false

/-! ### shuttlelaw03_Gf2Rest: function 7 -/
def shuttlelaw03_Gf2Rest.j0 : Nat → List Int → Int → Int → Int → Bool → Bool → Option (Bool)
  | 0, _, _, _, _, _, _ => none
  | k + 1, x0, x1, x2, x8, x9, x48 => if x48 = true then (some false) else (if x9 = true then ((shuttleref03_Coefficients.f k x2).bind fun t180 => ((gf2_Rest.f k t180 x1).bind fun bt183 => ((gf2_Over.f k x2 x1).bind fun bt185 => ((shuttleref03_Rest.f k x0 x1).bind fun t188 => (if x8 = t188 then (if bt183.2 = true then (if bt185.2.2 = true then (some (bt183.1 == bt185.2.1)) else (some false)) else (some false)) else (some false)))))) else (some (x8 == 0)))
def shuttlelaw03_Gf2Rest.f (k : Nat) (l0 : List Int) (a1 : Int) (a2 : Int) : Option (Bool) := (some (([] : List Int) : List Int)).bind fun y169 => (if 0 ≤ (mn (l0.length : Int) 300) then (if (mn (l0.length : Int) 300) ≤ (l0.length : Int) then (if y169.length + (l0.take ((mn (l0.length : Int) 300) : Int).toNat).length < 140737488355328 then ((some (y169 ++ (l0.take ((mn (l0.length : Int) 300) : Int).toNat) : List Int)).bind fun y173 => ((gf2_Rest.f k y173 a1).bind fun bt176 => ((shuttlelaw03_polys.f k).bind fun t178 => (if t178 = true then (if a1 = 0 then (if (bt176.2 != false) = true then (shuttlelaw03_Gf2Rest.j0 k y173 a1 a2 bt176.1 bt176.2 true) else (shuttlelaw03_Gf2Rest.j0 k y173 a1 a2 bt176.1 bt176.2 ((strOfNums y173).toList != (strOfNums y173).toList))) else ((shuttleref03_Degree.f k a1).bind fun t179 => (if (bt176.2 != (decide (t179 < 63))) = true then (shuttlelaw03_Gf2Rest.j0 k y173 a1 a2 bt176.1 bt176.2 true) else (shuttlelaw03_Gf2Rest.j0 k y173 a1 a2 bt176.1 bt176.2 ((strOfNums y173).toList != (strOfNums y173).toList))))) else (shuttlelaw03_Gf2Rest.j0 k y173 a1 a2 bt176.1 bt176.2 true))))) else (none)) else (none)) else (none))
theorem shuttlelaw03_Gf2Rest.mono_l : ∀ k, (∀ y0 y1 y2 y3 y4 y5, LeO (shuttlelaw03_Gf2Rest.j0 k y0 y1 y2 y3 y4 y5) (shuttlelaw03_Gf2Rest.j0 (k + 1) y0 y1 y2 y3 y4 y5))
  | 0 => fun _ _ _ _ _ _ r h => by simp [shuttlelaw03_Gf2Rest.j0] at h
  | k + 1 => by
    have ih0 := shuttlelaw03_Gf2Rest.mono_l k
    · intro y0 y1 y2 y3 y4 y5
      unfold shuttlelaw03_Gf2Rest.j0
      repeat' first
      | (with_reducible exact ih0 _ _ _ _ _ _)
      | (with_reducible exact gf2_Over.mono _ _ _)
      | (with_reducible exact gf2_Rest.mono _ _ _)
      | (with_reducible exact shuttlelaw03_polys.mono _)
      | (with_reducible exact shuttleref03_Coefficients.mono _ _)
      | (with_reducible exact shuttleref03_Degree.mono _ _)
      | (with_reducible exact shuttleref03_Rest.mono _ _ _)
      | (with_reducible exact LeO.refl _)
      | (with_reducible exact LeO.none _)
      | (with_reducible refine LeO.ite ?_ ?_)
      | (with_reducible refine LeO.bind ?_ (fun _ => ?_))
      | exact ih0 _ _ _ _ _ _
      | exact gf2_Over.mono _ _ _
      | exact gf2_Rest.mono _ _ _
      | exact shuttlelaw03_polys.mono _
      | exact shuttleref03_Coefficients.mono _ _
      | exact shuttleref03_Degree.mono _ _
      | exact shuttleref03_Rest.mono _ _ _
      | exact LeO.none _
      | refine LeO.ite ?_ ?_
      | refine LeO.bind ?_ (fun _ => ?_)
theorem shuttlelaw03_Gf2Rest.mono : ∀ a0 a1 a2 k, LeO (shuttlelaw03_Gf2Rest.f k a0 a1 a2) (shuttlelaw03_Gf2Rest.f (k + 1) a0 a1 a2) := by
  intro a0 a1 a2 k
  have ih0 := shuttlelaw03_Gf2Rest.mono_l k
  unfold shuttlelaw03_Gf2Rest.f
  repeat' first
      | (with_reducible exact ih0 _ _ _ _ _ _)
      | (with_reducible exact gf2_Over.mono _ _ _)
      | (with_reducible exact gf2_Rest.mono _ _ _)
      | (with_reducible exact shuttlelaw03_polys.mono _)
      | (with_reducible exact shuttleref03_Coefficients.mono _ _)
      | (with_reducible exact shuttleref03_Degree.mono _ _)
      | (with_reducible exact shuttleref03_Rest.mono _ _ _)
      | (with_reducible exact LeO.refl _)
      | (with_reducible exact LeO.none _)
      | (with_reducible refine LeO.ite ?_ ?_)
      | (with_reducible refine LeO.bind ?_ (fun _ => ?_))
      | exact ih0 _ _ _ _ _ _
      | exact gf2_Over.mono _ _ _
      | exact gf2_Rest.mono _ _ _
      | exact shuttlelaw03_polys.mono _
      | exact shuttleref03_Coefficients.mono _ _
      | exact shuttleref03_Degree.mono _ _
      | exact shuttleref03_Rest.mono _ _ _
      | exact LeO.none _
      | refine LeO.ite ?_ ?_
      | refine LeO.bind ?_ (fun _ => ?_)
set_option maxHeartbeats 8000000 in
set_option maxRecDepth 100000 in
theorem shuttlelaw03_Gf2Rest.calls (k : Nat) (A0 : Option Addr) (c0 : Nat) (l0 : List Int) (a1 : Int) (a2 : Int) (r : Bool) (w : World) (hr0 : Kd.C (Kd.int .u8) w A0 l0.length l0) (hc0 : l0.length ≤ c0) (hT : Aside0 (TabOk w)) (h : shuttlelaw03_Gf2Rest.f k l0 a1 a2 = some r) :
    Calls Tryd.prog 7 #[.slice A0 l0.length c0, .int .u64 a1, .int .u64 a2] w fun e w' => e = .returned (.bool r) ∧ Below w.heap.size w w' := by
  have HR0 := Aside0.mk hr0
  have HC0 := Aside0.mk hc0
  clear hr0 hc0
  have HB := Aside0.mk (Below.refl w.heap.size w)
  have H : ((some (([] : List Int) : List Int)).bind fun y169 => (if 0 ≤ (mn (l0.length : Int) 300) then (if (mn (l0.length : Int) 300) ≤ (l0.length : Int) then (if y169.length + (l0.take ((mn (l0.length : Int) 300) : Int).toNat).length < 140737488355328 then ((some (y169 ++ (l0.take ((mn (l0.length : Int) 300) : Int).toNat) : List Int)).bind fun y173 => ((gf2_Rest.f k y173 a1).bind fun bt176 => ((shuttlelaw03_polys.f k).bind fun t178 => (if t178 = true then (if a1 = 0 then (if (bt176.2 != false) = true then (shuttlelaw03_Gf2Rest.j0 k y173 a1 a2 bt176.1 bt176.2 true) else (shuttlelaw03_Gf2Rest.j0 k y173 a1 a2 bt176.1 bt176.2 ((strOfNums y173).toList != (strOfNums y173).toList))) else ((shuttleref03_Degree.f k a1).bind fun t179 => (if (bt176.2 != (decide (t179 < 63))) = true then (shuttlelaw03_Gf2Rest.j0 k y173 a1 a2 bt176.1 bt176.2 true) else (shuttlelaw03_Gf2Rest.j0 k y173 a1 a2 bt176.1 bt176.2 ((strOfNums y173).toList != (strOfNums y173).toList))))) else (shuttlelaw03_Gf2Rest.j0 k y173 a1 a2 bt176.1 bt176.2 true))))) else (none)) else (none)) else (none))) = some r := h
  clear h
  obtain ⟨y169, hy169⟩ : ∃ y_ : List Int, y_ = (([] : List Int)) := ⟨_, rfl⟩
  replace H : (if 0 ≤ (mn (l0.length : Int) 300) then (if (mn (l0.length : Int) 300) ≤ (l0.length : Int) then (if y169.length + (l0.take ((mn (l0.length : Int) 300) : Int).toNat).length < 140737488355328 then ((some (y169 ++ (l0.take ((mn (l0.length : Int) 300) : Int).toNat) : List Int)).bind fun y173 => ((gf2_Rest.f k y173 a1).bind fun bt176 => ((shuttlelaw03_polys.f k).bind fun t178 => (if t178 = true then (if a1 = 0 then (if (bt176.2 != false) = true then (shuttlelaw03_Gf2Rest.j0 k y173 a1 a2 bt176.1 bt176.2 true) else (shuttlelaw03_Gf2Rest.j0 k y173 a1 a2 bt176.1 bt176.2 ((strOfNums y173).toList != (strOfNums y173).toList))) else ((shuttleref03_Degree.f k a1).bind fun t179 => (if (bt176.2 != (decide (t179 < 63))) = true then (shuttlelaw03_Gf2Rest.j0 k y173 a1 a2 bt176.1 bt176.2 true) else (shuttlelaw03_Gf2Rest.j0 k y173 a1 a2 bt176.1 bt176.2 ((strOfNums y173).toList != (strOfNums y173).toList))))) else (shuttlelaw03_Gf2Rest.j0 k y173 a1 a2 bt176.1 bt176.2 true))))) else (none)) else (none)) else (none)) = some r := by first | (rw [hy169]; with_reducible exact H) | (have H2_ := (Option.bind_some _ _).symm.trans H; rw [hy169]; with_reducible exact H2_) | (have H2_ := (Option.bind_some _ _).symm.trans H; with_reducible exact H2_) | with_reducible exact H | (rw [hy169]; exact H) | exact H
  have Ny169 := Aside0.mk hy169
  clear hy169
  obtain ⟨ji4, hji4⟩ : ∃ j_ : Int, (mn (l0.length : Int) 300) = j_ := ⟨_, rfl⟩
  replace H : (if 0 ≤ (ji4) then (if (ji4) ≤ (l0.length : Int) then (if y169.length + (l0.take ((ji4) : Int).toNat).length < 140737488355328 then ((some (y169 ++ (l0.take ((ji4) : Int).toNat) : List Int)).bind fun y173 => ((gf2_Rest.f k y173 a1).bind fun bt176 => ((shuttlelaw03_polys.f k).bind fun t178 => (if t178 = true then (if a1 = 0 then (if (bt176.2 != false) = true then (shuttlelaw03_Gf2Rest.j0 k y173 a1 a2 bt176.1 bt176.2 true) else (shuttlelaw03_Gf2Rest.j0 k y173 a1 a2 bt176.1 bt176.2 ((strOfNums y173).toList != (strOfNums y173).toList))) else ((shuttleref03_Degree.f k a1).bind fun t179 => (if (bt176.2 != (decide (t179 < 63))) = true then (shuttlelaw03_Gf2Rest.j0 k y173 a1 a2 bt176.1 bt176.2 true) else (shuttlelaw03_Gf2Rest.j0 k y173 a1 a2 bt176.1 bt176.2 ((strOfNums y173).toList != (strOfNums y173).toList))))) else (shuttlelaw03_Gf2Rest.j0 k y173 a1 a2 bt176.1 bt176.2 true))))) else (none)) else (none)) else (none)) = some r := by first | (rw [hji4] at H; exact H) | (simp only [hji4] at H ⊢; exact H)
  (try (have hji4h : ji4 ≤ 300 := by (rw [← hji4]; unfold mn; (repeat' split) <;> omega)))
  (try (have hji4g : ji4 ≤ 64 := by omega))
  (try (have hji4l : 0 ≤ ji4 := by (rw [← hji4]; unfold mn; (repeat' split) <;> omega)))
  (try (have hji4m : 0 ≤ ji4 := by omega))
  have hji4_ : (if 300 < (l0.length : Int) then 300 else (l0.length : Int)) = ji4 := hji4
  by_cases c5 : 0 ≤ (ji4)
  · rw [if_pos c5] at H
    have c5b0 := eq_true c5
    have c5b1 : decide (0 ≤ (ji4)) = true := decide_eq_true c5
    clear c5
    by_cases c6 : (ji4) ≤ (l0.length : Int)
    · rw [if_pos c6] at H
      have c6b0 := eq_true c6
      have c6b1 : decide ((ji4) ≤ (l0.length : Int)) = true := decide_eq_true c6
      clear c6
      by_cases c7 : y169.length + (l0.take ((ji4) : Int).toNat).length < 140737488355328
      · rw [if_pos c7] at H
        have LMc7 := Aside0.mk c7
        clear c7
        obtain ⟨y173, hy173⟩ : ∃ y_ : List Int, y_ = (y169 ++ (l0.take ((ji4) : Int).toNat)) := ⟨_, rfl⟩
        replace H : ((gf2_Rest.f k y173 a1).bind fun bt176 => ((shuttlelaw03_polys.f k).bind fun t178 => (if t178 = true then (if a1 = 0 then (if (bt176.2 != false) = true then (shuttlelaw03_Gf2Rest.j0 k y173 a1 a2 bt176.1 bt176.2 true) else (shuttlelaw03_Gf2Rest.j0 k y173 a1 a2 bt176.1 bt176.2 ((strOfNums y173).toList != (strOfNums y173).toList))) else ((shuttleref03_Degree.f k a1).bind fun t179 => (if (bt176.2 != (decide (t179 < 63))) = true then (shuttlelaw03_Gf2Rest.j0 k y173 a1 a2 bt176.1 bt176.2 true) else (shuttlelaw03_Gf2Rest.j0 k y173 a1 a2 bt176.1 bt176.2 ((strOfNums y173).toList != (strOfNums y173).toList))))) else (shuttlelaw03_Gf2Rest.j0 k y173 a1 a2 bt176.1 bt176.2 true)))) = some r := by first | (rw [hy173]; with_reducible exact H) | (have H2_ := (Option.bind_some _ _).symm.trans H; rw [hy173]; with_reducible exact H2_) | (have H2_ := (Option.bind_some _ _).symm.trans H; with_reducible exact H2_) | with_reducible exact H | (rw [hy173]; exact H) | exact H
        have Ny173 := Aside0.mk hy173
        clear hy173
        replace H := Option.bind_eq_some_iff.mp H
        obtain ⟨⟨t176, t177⟩, A80, H⟩ := H
        replace H : ((shuttlelaw03_polys.f k).bind fun t178 => (if t178 = true then (if a1 = 0 then (if (t177 != false) = true then (shuttlelaw03_Gf2Rest.j0 k y173 a1 a2 t176 t177 true) else (shuttlelaw03_Gf2Rest.j0 k y173 a1 a2 t176 t177 ((strOfNums y173).toList != (strOfNums y173).toList))) else ((shuttleref03_Degree.f k a1).bind fun t179 => (if (t177 != (decide (t179 < 63))) = true then (shuttlelaw03_Gf2Rest.j0 k y173 a1 a2 t176 t177 true) else (shuttlelaw03_Gf2Rest.j0 k y173 a1 a2 t176 t177 ((strOfNums y173).toList != (strOfNums y173).toList))))) else (shuttlelaw03_Gf2Rest.j0 k y173 a1 a2 t176 t177 true))) = some r := H
        have A8 := Aside0.mk A80
        clear A80
        have HC9 := Aside0.mk H
        clear H
        go_enter Tryd.func7, Tryd.ntmps7
        go_upto_region 4 with (first | ((with_reducible refine gate_dst (N := 15) rfl ?_); refine Kd.R_lit (Kd.int .u8) _ 5 ?hg (N := 15) ?hd (xs := ([] : List Int)) (inner := []) (ok := fun _ => True) (okp := fun _ => True) ?hr ?hp (fun _ hk => hk) trivial (Below.refl _ _) (Nat.le_refl _) (by simp) ?_; (case hd => rfl); (case hg => rfl); (case hr => first | (go_simp; done) | (go_simp; rfl)); (case hp => exact (Reps.none _ _)); intro v170 w10 ho11 hb hg_ hnew_; clear hg_ hnew_; (first | rw [← Ny169.out] at ho11 | (simp only [Int.reduceToNat] at ho11; rw [← Ny169.out] at ho11)); have n0_ := Aside0.mk (Kd.R_lower ho11 (below_size (by repeat (first | (with_reducible first | exact HB.out | apply below_alloc | apply pw_below_drewN | apply below_drew1) | exact HB.out)))); have n1_ := Aside0.mk (below_step (by repeat (first | (with_reducible first | exact HB.out | apply below_alloc | apply pw_below_drewN | apply below_drew1) | exact HB.out)) hb); clear HB; have HO171 := n0_; have HB := n1_; clear n0_ n1_; clear hb ho11; obtain ⟨i012, hi012, _, hsz12, _⟩ := info_parts info5; obtain ⟨hcut12, hA12, hC12⟩ := print_take_of (P := Tryd.prog) (Value.int .u8) 0 36 5 .i64 Tryd.underlying36 hi012 hsz12 A0 c0 l0 (ji4) (of_decide_eq_true (by first | (with_reducible assumption) | assumption)) (of_decide_eq_true (by first | (with_reducible assumption) | assumption)) HC0.out; have HR172 := Aside0.mk (Kd.C_of_reads (h1 := fun _ => rfl) (hA12 _ (Kd.reads_of_C HR0.out))); have HC172 := Aside0.mk hC12; clear hA12 hC12 hi012 hsz12) | ((with_reducible refine gate_builtin (b := .append) (xs := #[.tmp 15, .tmp 20]) rfl ?_); at_builtin; refine Kd.R_append_rows (Kd.int .u8) (w0 := w) w.heap.size rfl (.tmp 15) (.tmp 20) 36 5 (.int .u8 0) 1 rfl Tryd.underlying36 info5 rfl (by decide) (by omega) v170 y169 (l0.take ((ji4) : Int).toNat) _ _ _ (fun _ => True) (fun _ => False) rfl rfl ?aO ?aR (fun _ _ h => h) (fun _ h => h.elim) ?aF ?aB ?aS ?aL ?_; (case aR => first | (refine rr_len ?_ (show (l0.take ((ji4) : Int).toNat).length = (ji4).toNat from (by rw [List.length_take]; have h_ : ((ji4) : Int) ≤ (l0.length : Int) := of_decide_eq_true (by first | (with_reducible assumption) | assumption); omega)); repeat (first | exact (Kd.C_below HR172.out HB.out) | (with_reducible refine Kd.C_alloc ?_ _) | (with_reducible refine Kd.C_drewN ?_ _) | (with_reducible refine Kd.C_drew ?_))) | (repeat (first | exact (Kd.C_below HR172.out HB.out) | (with_reducible refine Kd.C_alloc ?_ _) | (with_reducible refine Kd.C_drewN ?_ _) | (with_reducible refine Kd.C_drew ?_)))); (case aB => exact (by repeat (first | (with_reducible first | exact HB.out | apply below_alloc | apply pw_below_drewN | apply below_drew1) | exact HB.out))); (case aF => exact (fun _ _ => trivial)); (case aO => exact (by (with_reducible repeat (first | apply Kd.R_alloc | apply Kd.R_drewN | apply Kd.R_drew)); exact HO171.out)); (case aS => exact (below_size (by repeat (first | (with_reducible first | exact HB.out | apply below_alloc | apply pw_below_drewN | apply below_drew1) | exact HB.out)))); (case aL => have := LMc7.out; have hlx_ := (show (l0.take ((ji4) : Int).toNat).length = (ji4).toNat from (by rw [List.length_take]; have h_ : ((ji4) : Int) ≤ (l0.length : Int) := of_decide_eq_true (by first | (with_reducible assumption) | assumption); omega)); omega); intro v174 w13 ho hb hg hat; rw [← Ny173.out] at ho; have n0_ := Aside0.mk (hb); have n1_ := Aside0.mk (ho); clear HB; clear HO171; have HB := n0_; have HO175 := n1_; clear n0_ n1_; clear ho hb hg hat; have hcv14 := own_string (P := Tryd.prog) Tryd.underlying36 Tryd.underlying5 Tryd.underlying9 (Kd.own_of_R HO175.out); have hcv14n := own_string_n (P := Tryd.prog) Tryd.underlying36 Tryd.underlying5 Tryd.underlying9 (Kd.own_of_R HO175.out); obtain ⟨Ao15, co15, eo15⟩ := Kd.R_slice HO175.out; subst eo15) | ((with_reducible refine gate_callee (f := 16) rfl ?_); refine goesL_ (some 27) rfl rfl Tryd.func16 (by kernel_rfl) rfl #[.slice Ao15 y173.length co15, .int .u64 a1] rfl (by (try simp only [List.map_toArray, List.map_cons, List.map_nil]); first | done | rfl | (simp only [List.length_drop, List.length_take]; rfl)) ?_; (with_reducible refine (gf2_Rest.calls k _ _ y173 a1 t176 t177 _ ?side1 ?side2 A8.out).mono ?_); (case side1 => repeat (first | exact (Kd.R_reads' HO175.out).2.2 | (with_reducible refine Kd.C_alloc ?_ _) | (with_reducible refine Kd.C_drewN ?_ _) | (with_reducible refine Kd.C_drew ?_))); (case side2 => exact (Kd.R_reads' HO175.out).2.1); rintro e w' ⟨rfl, ⟨nd, rfl⟩⟩; refine ⟨_, rfl, ?_⟩))
        (try simp only [Act.put, List.setIfInBounds_toArray, List.set_cons_zero, List.set_cons_succ])
        go_cut [48] (fun v48 wc => ∃ (kq : Nat) (x48_8 : Bool), v48 = .bool x48_8 ∧ Aside0 (shuttlelaw03_Gf2Rest.j0 kq y173 a1 a2 t176 t177 x48_8 = some r) ∧ Aside0 (kq ≤ k) ∧ Aside0 (Kd.R (Kd.int .u8) 5 wc w.heap.size (fun _ => True) (.slice Ao15 y173.length co15) y173) ∧ Aside0 (Below w.heap.size w wc))
        case first =>
          have H := HC9.out
          clear HC9
          replace H := Option.bind_eq_some_iff.mp H
          obtain ⟨t178, A160, H⟩ := H
          replace H : (if t178 = true then (if a1 = 0 then (if (t177 != false) = true then (shuttlelaw03_Gf2Rest.j0 k y173 a1 a2 t176 t177 true) else (shuttlelaw03_Gf2Rest.j0 k y173 a1 a2 t176 t177 ((strOfNums y173).toList != (strOfNums y173).toList))) else ((shuttleref03_Degree.f k a1).bind fun t179 => (if (t177 != (decide (t179 < 63))) = true then (shuttlelaw03_Gf2Rest.j0 k y173 a1 a2 t176 t177 true) else (shuttlelaw03_Gf2Rest.j0 k y173 a1 a2 t176 t177 ((strOfNums y173).toList != (strOfNums y173).toList))))) else (shuttlelaw03_Gf2Rest.j0 k y173 a1 a2 t176 t177 true)) = some r := H
          have A16 := Aside0.mk A160
          clear A160
          by_cases c17 : t178 = true
          · subst c17
            have H1 : (if a1 = 0 then (if (t177 != false) = true then (shuttlelaw03_Gf2Rest.j0 k y173 a1 a2 t176 t177 true) else (shuttlelaw03_Gf2Rest.j0 k y173 a1 a2 t176 t177 ((strOfNums y173).toList != (strOfNums y173).toList))) else ((shuttleref03_Degree.f k a1).bind fun t179 => (if (t177 != (decide (t179 < 63))) = true then (shuttlelaw03_Gf2Rest.j0 k y173 a1 a2 t176 t177 true) else (shuttlelaw03_Gf2Rest.j0 k y173 a1 a2 t176 t177 ((strOfNums y173).toList != (strOfNums y173).toList))))) = some r := by rw [if_pos rfl] at H; exact H
            clear H
            have H := H1
            clear H1
            by_cases c18 : a1 = 0
            · rw [if_pos c18] at H
              have c18b0 : (a1 == 0) = true := beq_iff_eq.mpr c18
              have c18b1 : (a1 != 0) = false := bne_eq_false_iff_eq.mpr c18
              clear c18
              (first | rw [c18b0] | (simp only [i64_w, i32_w]; rw [c18b0]) | skip)
              by_cases c19 : (t177 != false) = true
              · rw [if_pos c19] at H
                obtain rfl : t177 = true := by simpa using c19
                clear c19
                have H' := Aside0.mk H
                clear H
                go_wp2_with (first | ((with_reducible refine gate_callee (f := 9) rfl ?_); refine goesL_ (some 30) rfl rfl Tryd.func9 (by kernel_rfl) rfl #[] rfl (by (try simp only [List.map_toArray, List.map_cons, List.map_nil]); first | done | rfl | (simp only [List.length_drop, List.length_take]; rfl)) ?_; (with_reducible refine (shuttlelaw03_polys.calls k  true _ (by refine TabA.below hT ?_; repeat (first | (with_reducible first | exact HB.out | apply below_alloc | apply pw_below_drewN | apply below_drew1) | exact HB.out)) A16.out).mono ?_); rintro e w' ⟨rfl, ⟨nd, rfl⟩⟩; refine ⟨_, rfl, ?_⟩))
                go_meet
                case rel => exact ⟨_, (true), (by first | rfl | (simp; done) | (simp [*]; done)), H', ⟨by first | omega | exact Nat.le_refl _⟩, ⟨by (with_reducible repeat (first | apply Kd.R_alloc | apply Kd.R_drewN | apply Kd.R_drew)); exact HO175.out⟩, ⟨by repeat (first | (with_reducible first | exact HB.out | apply below_alloc | apply pw_below_drewN | apply below_drew1) | exact HB.out)⟩⟩
              · rw [if_neg c19] at H
                obtain rfl : t177 = false := by simpa using c19
                clear c19
                have H' := Aside0.mk H
                clear H
                go_wp2_with (first | ((with_reducible refine gate_callee (f := 9) rfl ?_); refine goesL_ (some 30) rfl rfl Tryd.func9 (by kernel_rfl) rfl #[] rfl (by (try simp only [List.map_toArray, List.map_cons, List.map_nil]); first | done | rfl | (simp only [List.length_drop, List.length_take]; rfl)) ?_; (with_reducible refine (shuttlelaw03_polys.calls k  true _ (by refine TabA.below hT ?_; repeat (first | (with_reducible first | exact HB.out | apply below_alloc | apply pw_below_drewN | apply below_drew1) | exact HB.out)) A16.out).mono ?_); rintro e w' ⟨rfl, ⟨nd, rfl⟩⟩; refine ⟨_, rfl, ?_⟩; have hcv20 := own_string (P := Tryd.prog) Tryd.underlying36 Tryd.underlying5 Tryd.underlying9 (Kd.own_of_R HO175.out); have hcv20n := own_string_n (P := Tryd.prog) Tryd.underlying36 Tryd.underlying5 Tryd.underlying9 (Kd.own_of_R HO175.out)))
                go_meet
                case rel => exact ⟨_, (((strOfNums y173).toList != (strOfNums y173).toList)), (by first | rfl | (simp; done) | (simp [*]; done)), H', ⟨by first | omega | exact Nat.le_refl _⟩, ⟨by (with_reducible repeat (first | apply Kd.R_alloc | apply Kd.R_drewN | apply Kd.R_drew)); exact HO175.out⟩, ⟨by repeat (first | (with_reducible first | exact HB.out | apply below_alloc | apply pw_below_drewN | apply below_drew1) | exact HB.out)⟩⟩
            · rw [if_neg c18] at H
              have c18b0 : (a1 == 0) = false := beq_eq_false_iff_ne.mpr c18
              have c18b1 : (a1 != 0) = true := bne_iff_ne.mpr c18
              (first | rw [c18b0] | (simp only [i64_w, i32_w]; rw [c18b0]) | skip)
              replace H := Option.bind_eq_some_iff.mp H
              obtain ⟨t179, A210, H⟩ := H
              replace H : (if (t177 != (decide (t179 < 63))) = true then (shuttlelaw03_Gf2Rest.j0 k y173 a1 a2 t176 t177 true) else (shuttlelaw03_Gf2Rest.j0 k y173 a1 a2 t176 t177 ((strOfNums y173).toList != (strOfNums y173).toList))) = some r := H
              have A21 := Aside0.mk A210
              clear A210
              by_cases c22 : (t177 != (decide (t179 < 63))) = true
              · rw [if_pos c22] at H
                have c22b0 : (t177 != (decide (t179 < 63))) = true := c22
                (try (have c22b1 : decide (t177 = (decide (t179 < 63))) = false := by simpa using c22))
                (try (have c22b2 : (t177 == (decide (t179 < 63))) = false := by simpa using c22))
                (try (have c22b3 : ¬ (t177 = (decide (t179 < 63))) := by simpa using c22))
                clear c22
                have H' := Aside0.mk H
                clear H
                go_wp2_with (first | ((with_reducible refine gate_callee (f := 9) rfl ?_); refine goesL_ (some 30) rfl rfl Tryd.func9 (by kernel_rfl) rfl #[] rfl (by (try simp only [List.map_toArray, List.map_cons, List.map_nil]); first | done | rfl | (simp only [List.length_drop, List.length_take]; rfl)) ?_; (with_reducible refine (shuttlelaw03_polys.calls k  true _ (by refine TabA.below hT ?_; repeat (first | (with_reducible first | exact HB.out | apply below_alloc | apply pw_below_drewN | apply below_drew1) | exact HB.out)) A16.out).mono ?_); rintro e w' ⟨rfl, ⟨nd, rfl⟩⟩; refine ⟨_, rfl, ?_⟩) | (go_at_call 11; (with_reducible refine (shuttleref03_Degree.calls k a1 t179 _ A21.out).mono ?_); rintro e w' ⟨rfl, ⟨nd, rfl⟩⟩))
                go_meet
                case rel => exact ⟨_, (true), (by first | rfl | (simp; done) | (simp [*]; done)), H', ⟨by first | omega | exact Nat.le_refl _⟩, ⟨by (with_reducible repeat (first | apply Kd.R_alloc | apply Kd.R_drewN | apply Kd.R_drew)); exact HO175.out⟩, ⟨by repeat (first | (with_reducible first | exact HB.out | apply below_alloc | apply pw_below_drewN | apply below_drew1) | exact HB.out)⟩⟩
              · rw [if_neg c22] at H
                have c22b0 : (t177 != (decide (t179 < 63))) = false := by simpa using c22
                (try (have c22b1 : decide (t177 = (decide (t179 < 63))) = true := by simpa using c22))
                (try (have c22b2 : (t177 == (decide (t179 < 63))) = true := by simpa using c22))
                clear c22
                have H' := Aside0.mk H
                clear H
                go_wp2_with (first | ((with_reducible refine gate_callee (f := 9) rfl ?_); refine goesL_ (some 30) rfl rfl Tryd.func9 (by kernel_rfl) rfl #[] rfl (by (try simp only [List.map_toArray, List.map_cons, List.map_nil]); first | done | rfl | (simp only [List.length_drop, List.length_take]; rfl)) ?_; (with_reducible refine (shuttlelaw03_polys.calls k  true _ (by refine TabA.below hT ?_; repeat (first | (with_reducible first | exact HB.out | apply below_alloc | apply pw_below_drewN | apply below_drew1) | exact HB.out)) A16.out).mono ?_); rintro e w' ⟨rfl, ⟨nd, rfl⟩⟩; refine ⟨_, rfl, ?_⟩) | (go_at_call 11; (with_reducible refine (shuttleref03_Degree.calls k a1 t179 _ A21.out).mono ?_); rintro e w' ⟨rfl, ⟨nd, rfl⟩⟩; have hcv23 := own_string (P := Tryd.prog) Tryd.underlying36 Tryd.underlying5 Tryd.underlying9 (Kd.own_of_R HO175.out); have hcv23n := own_string_n (P := Tryd.prog) Tryd.underlying36 Tryd.underlying5 Tryd.underlying9 (Kd.own_of_R HO175.out)))
                go_meet
                case rel => exact ⟨_, (((strOfNums y173).toList != (strOfNums y173).toList)), (by first | rfl | (simp; done) | (simp [*]; done)), H', ⟨by first | omega | exact Nat.le_refl _⟩, ⟨by (with_reducible repeat (first | apply Kd.R_alloc | apply Kd.R_drewN | apply Kd.R_drew)); exact HO175.out⟩, ⟨by repeat (first | (with_reducible first | exact HB.out | apply below_alloc | apply pw_below_drewN | apply below_drew1) | exact HB.out)⟩⟩
          · replace c17 := Bool.eq_false_iff.mpr c17
            subst c17
            have H1 : (shuttlelaw03_Gf2Rest.j0 k y173 a1 a2 t176 t177 true) = some r := by rw [if_neg (show ¬ (false = true) by decide)] at H; exact H
            clear H
            have H := H1
            clear H1
            have H' := Aside0.mk H
            clear H
            go_wp2_with (first | ((with_reducible refine gate_callee (f := 9) rfl ?_); refine goesL_ (some 30) rfl rfl Tryd.func9 (by kernel_rfl) rfl #[] rfl (by (try simp only [List.map_toArray, List.map_cons, List.map_nil]); first | done | rfl | (simp only [List.length_drop, List.length_take]; rfl)) ?_; (with_reducible refine (shuttlelaw03_polys.calls k  false _ (by refine TabA.below hT ?_; repeat (first | (with_reducible first | exact HB.out | apply below_alloc | apply pw_below_drewN | apply below_drew1) | exact HB.out)) A16.out).mono ?_); rintro e w' ⟨rfl, ⟨nd, rfl⟩⟩; refine ⟨_, rfl, ?_⟩))
            go_meet
            case rel => exact ⟨_, (true), (by first | rfl | (simp; done) | (simp [*]; done)), H', ⟨by first | omega | exact Nat.le_refl _⟩, ⟨by (with_reducible repeat (first | apply Kd.R_alloc | apply Kd.R_drewN | apply Kd.R_drew)); exact HO175.out⟩, ⟨by repeat (first | (with_reducible first | exact HB.out | apply below_alloc | apply pw_below_drewN | apply below_drew1) | exact HB.out)⟩⟩
        case rest =>
          clear HC9
          try clear c1
          try clear hcv1
          try clear c2
          try clear p2
          try clear hcv2
          try clear c5
          try clear c5b0
          try clear c5b1
          try clear c6
          try clear c6b0
          try clear c6b1
          try clear c7
          try clear c9
          try clear hcv14
          try clear c16
          try clear c17
          try clear c18
          try clear c18b0
          try clear c18b1
          try clear c19
          try clear c19b0
          try clear c19b1
          try clear c19b2
          try clear hcv20
          try clear c22
          try clear c22b0
          try clear c22b1
          try clear c22b2
          try clear hcv23
          obtain ⟨kq, x48_8, rfl, HA, HJ8, HO_0, HB⟩ := hcut
          cases kq with
          | zero => exact absurd HA.out (by simp [shuttlelaw03_Gf2Rest.j0])
          | succ kj8 =>
            have H := HA.out
            clear HA
            simp only [shuttlelaw03_Gf2Rest.j0] at H
            by_cases c24 : x48_8 = true
            · subst c24
              have H1 : (some false) = some r := by rw [if_pos rfl] at H; exact H
              clear H
              have H := H1
              clear H1
              obtain rfl := Option.some.inj H
              go_wp2
              go_ret
              exact ⟨by first | rfl | (simp [errW_none, errW_some] <;> rfl) | (simp only [← hji4]; first | rfl | (simp [errW_none, errW_some] <;> rfl)) | (simp [*, errW_none, errW_some] <;> rfl), by repeat (first | (with_reducible first | exact HB.out | apply below_alloc | apply pw_below_drewN | apply below_drew1) | exact HB.out)⟩
            · replace c24 := Bool.eq_false_iff.mpr c24
              subst c24
              have H1 : (if t177 = true then ((shuttleref03_Coefficients.f kj8 a2).bind fun t180 => ((gf2_Rest.f kj8 t180 a1).bind fun bt183 => ((gf2_Over.f kj8 a2 a1).bind fun bt185 => ((shuttleref03_Rest.f kj8 y173 a1).bind fun t188 => (if t176 = t188 then (if bt183.2 = true then (if bt185.2.2 = true then (some (bt183.1 == bt185.2.1)) else (some false)) else (some false)) else (some false)))))) else (some (t176 == 0))) = some r := by rw [if_neg (show ¬ (false = true) by decide)] at H; exact H
              clear H
              have H := H1
              clear H1
              by_cases c25 : t177 = true
              · subst c25
                have H1 : ((shuttleref03_Coefficients.f kj8 a2).bind fun t180 => ((gf2_Rest.f kj8 t180 a1).bind fun bt183 => ((gf2_Over.f kj8 a2 a1).bind fun bt185 => ((shuttleref03_Rest.f kj8 y173 a1).bind fun t188 => (if t176 = t188 then (if bt183.2 = true then (if bt185.2.2 = true then (some (bt183.1 == bt185.2.1)) else (some false)) else (some false)) else (some false)))))) = some r := by rw [if_pos rfl] at H; exact H
                clear H
                have H := H1
                clear H1
                replace H := Option.bind_eq_some_iff.mp H
                obtain ⟨t180, A260, H⟩ := H
                replace H : ((gf2_Rest.f kj8 t180 a1).bind fun bt183 => ((gf2_Over.f kj8 a2 a1).bind fun bt185 => ((shuttleref03_Rest.f kj8 y173 a1).bind fun t188 => (if t176 = t188 then (if bt183.2 = true then (if bt185.2.2 = true then (some (bt183.1 == bt185.2.1)) else (some false)) else (some false)) else (some false))))) = some r := H
                have A26 := Aside0.mk A260
                clear A260
                replace H := Option.bind_eq_some_iff.mp H
                obtain ⟨⟨t183, t184⟩, A270, H⟩ := H
                replace H : ((gf2_Over.f kj8 a2 a1).bind fun bt185 => ((shuttleref03_Rest.f kj8 y173 a1).bind fun t188 => (if t176 = t188 then (if t184 = true then (if bt185.2.2 = true then (some (t183 == bt185.2.1)) else (some false)) else (some false)) else (some false)))) = some r := H
                have A27 := Aside0.mk A270
                clear A270
                replace H := Option.bind_eq_some_iff.mp H
                obtain ⟨⟨t185, t186, t187⟩, A280, H⟩ := H
                replace H : ((shuttleref03_Rest.f kj8 y173 a1).bind fun t188 => (if t176 = t188 then (if t184 = true then (if t187 = true then (some (t183 == t186)) else (some false)) else (some false)) else (some false))) = some r := H
                have A28 := Aside0.mk A280
                clear A280
                replace H := Option.bind_eq_some_iff.mp H
                obtain ⟨t188, A290, H⟩ := H
                replace H : (if t176 = t188 then (if t184 = true then (if t187 = true then (some (t183 == t186)) else (some false)) else (some false)) else (some false)) = some r := H
                have A29 := Aside0.mk A290
                clear A290
                by_cases c30 : t176 = t188
                · rw [if_pos c30] at H
                  have c30b0 : (t176 == t188) = true := beq_iff_eq.mpr c30
                  have c30b1 : (t176 != t188) = false := bne_eq_false_iff_eq.mpr c30
                  clear c30
                  by_cases c31 : t184 = true
                  · subst c31
                    have H1 : (if t187 = true then (some (t183 == t186)) else (some false)) = some r := by rw [if_pos rfl] at H; exact H
                    clear H
                    have H := H1
                    clear H1
                    by_cases c32 : t187 = true
                    · subst c32
                      have H1 : (some (t183 == t186)) = some r := by rw [if_pos rfl] at H; exact H
                      clear H
                      have H := H1
                      clear H1
                      obtain rfl := Option.some.inj H
                      go_wp2_with (first | ((with_reducible refine gate_callee (f := 17) rfl ?_); refine goesL_ (some 55) rfl rfl Tryd.func17 (by kernel_rfl) rfl #[.int .u64 a2] rfl (by (try simp only [List.map_toArray, List.map_cons, List.map_nil]); first | done | rfl | (simp only [List.length_drop, List.length_take]; rfl)) ?_; (with_reducible refine (shuttleref03_Coefficients.calls kj8 a2 t180 _ A26.out).mono ?_); rintro e w33 ⟨v181, rfl, ho0, hb⟩; refine ⟨_, rfl, ?_⟩; have n0_ := Aside0.mk (Kd.R_elder' (by (with_reducible repeat (first | apply Kd.R_alloc | apply Kd.R_drewN | apply Kd.R_drew)); exact HO_0.out) (Kd.R_base ho0) hb); have n1_ := Aside0.mk (Kd.R_lower (Kd.R_new' ho0 (Kd.R_lt (by (with_reducible repeat (first | apply Kd.R_alloc | apply Kd.R_drewN | apply Kd.R_drew)); exact HO_0.out))) (below_size (by repeat (first | (with_reducible first | exact HB.out | apply below_alloc | apply pw_below_drewN | apply below_drew1) | exact HB.out)))); have n2_ := Aside0.mk (below_step (by repeat (first | (with_reducible first | exact HB.out | apply below_alloc | apply pw_below_drewN | apply below_drew1) | exact HB.out)) hb); clear HO_0; clear HB; have HO_0 := n0_; have HO182 := n1_; have HB := n2_; clear n0_ n1_ n2_; (try clear hb); (try clear hb2); (try clear hk); (try clear hi); (try clear ho0); obtain ⟨Ao34, co34, eo34⟩ := Kd.R_slice HO182.out; subst eo34) | ((with_reducible refine gate_callee (f := 16) rfl ?_); refine goesL_ (some 57) rfl rfl Tryd.func16 (by kernel_rfl) rfl #[.slice Ao34 t180.length co34, .int .u64 a1] rfl (by (try simp only [List.map_toArray, List.map_cons, List.map_nil]); first | done | rfl | (simp only [List.length_drop, List.length_take]; rfl)) ?_; (with_reducible refine (gf2_Rest.calls kj8 _ _ t180 a1 t183 true _ ?side1 ?side2 A27.out).mono ?_); (case side1 => repeat (first | exact (Kd.R_reads' HO182.out).2.2 | (with_reducible refine Kd.C_alloc ?_ _) | (with_reducible refine Kd.C_drewN ?_ _) | (with_reducible refine Kd.C_drew ?_))); (case side2 => exact (Kd.R_reads' HO182.out).2.1); rintro e w' ⟨rfl, ⟨nd, rfl⟩⟩; refine ⟨_, rfl, ?_⟩) | ((with_reducible refine gate_callee (f := 8) rfl ?_); refine goesL_ (some 63) rfl rfl Tryd.func8 (by kernel_rfl) rfl #[.int .u64 a2, .int .u64 a1] rfl (by (try simp only [List.map_toArray, List.map_cons, List.map_nil]); first | done | rfl | (simp only [List.length_drop, List.length_take]; rfl)) ?_; (with_reducible refine (gf2_Over.calls kj8 a2 a1 t185 t186 true _ A28.out).mono ?_); rintro e w' ⟨rfl, ⟨nd, rfl⟩⟩; refine ⟨_, rfl, ?_⟩) | ((with_reducible refine gate_callee (f := 18) rfl ?_); refine goesL_ (some 70) rfl rfl Tryd.func18 (by kernel_rfl) rfl #[.slice Ao15 y173.length co15, .int .u64 a1] rfl (by (try simp only [List.map_toArray, List.map_cons, List.map_nil]); first | done | rfl | (simp only [List.length_drop, List.length_take]; rfl)) ?_; (with_reducible refine (shuttleref03_Rest.calls kj8 _ _ y173 a1 t188 _ ?side1 ?side2 A29.out).mono ?_); (case side1 => repeat (first | exact (Kd.R_reads' HO_0.out).2.2 | (with_reducible refine Kd.C_alloc ?_ _) | (with_reducible refine Kd.C_drewN ?_ _) | (with_reducible refine Kd.C_drew ?_))); (case side2 => exact (Kd.R_reads' HO_0.out).2.1); rintro e w' ⟨rfl, ⟨nd, rfl⟩⟩; refine ⟨_, rfl, ?_⟩))
                      go_ret
                      exact ⟨by first | rfl | (simp [errW_none, errW_some] <;> rfl) | (simp only [← hji4]; first | rfl | (simp [errW_none, errW_some] <;> rfl)) | (simp [*, errW_none, errW_some] <;> rfl), by repeat (first | (with_reducible first | exact HB.out | apply below_alloc | apply pw_below_drewN | apply below_drew1) | exact HB.out)⟩
                    · replace c32 := Bool.eq_false_iff.mpr c32
                      subst c32
                      have H1 : (some false) = some r := by rw [if_neg (show ¬ (false = true) by decide)] at H; exact H
                      clear H
                      have H := H1
                      clear H1
                      obtain rfl := Option.some.inj H
                      go_wp2_with (first | ((with_reducible refine gate_callee (f := 17) rfl ?_); refine goesL_ (some 55) rfl rfl Tryd.func17 (by kernel_rfl) rfl #[.int .u64 a2] rfl (by (try simp only [List.map_toArray, List.map_cons, List.map_nil]); first | done | rfl | (simp only [List.length_drop, List.length_take]; rfl)) ?_; (with_reducible refine (shuttleref03_Coefficients.calls kj8 a2 t180 _ A26.out).mono ?_); rintro e w35 ⟨v181, rfl, ho0, hb⟩; refine ⟨_, rfl, ?_⟩; have n0_ := Aside0.mk (Kd.R_elder' (by (with_reducible repeat (first | apply Kd.R_alloc | apply Kd.R_drewN | apply Kd.R_drew)); exact HO_0.out) (Kd.R_base ho0) hb); have n1_ := Aside0.mk (Kd.R_lower (Kd.R_new' ho0 (Kd.R_lt (by (with_reducible repeat (first | apply Kd.R_alloc | apply Kd.R_drewN | apply Kd.R_drew)); exact HO_0.out))) (below_size (by repeat (first | (with_reducible first | exact HB.out | apply below_alloc | apply pw_below_drewN | apply below_drew1) | exact HB.out)))); have n2_ := Aside0.mk (below_step (by repeat (first | (with_reducible first | exact HB.out | apply below_alloc | apply pw_below_drewN | apply below_drew1) | exact HB.out)) hb); clear HO_0; clear HB; have HO_0 := n0_; have HO182 := n1_; have HB := n2_; clear n0_ n1_ n2_; (try clear hb); (try clear hb2); (try clear hk); (try clear hi); (try clear ho0); obtain ⟨Ao36, co36, eo36⟩ := Kd.R_slice HO182.out; subst eo36) | ((with_reducible refine gate_callee (f := 16) rfl ?_); refine goesL_ (some 57) rfl rfl Tryd.func16 (by kernel_rfl) rfl #[.slice Ao36 t180.length co36, .int .u64 a1] rfl (by (try simp only [List.map_toArray, List.map_cons, List.map_nil]); first | done | rfl | (simp only [List.length_drop, List.length_take]; rfl)) ?_; (with_reducible refine (gf2_Rest.calls kj8 _ _ t180 a1 t183 true _ ?side1 ?side2 A27.out).mono ?_); (case side1 => repeat (first | exact (Kd.R_reads' HO182.out).2.2 | (with_reducible refine Kd.C_alloc ?_ _) | (with_reducible refine Kd.C_drewN ?_ _) | (with_reducible refine Kd.C_drew ?_))); (case side2 => exact (Kd.R_reads' HO182.out).2.1); rintro e w' ⟨rfl, ⟨nd, rfl⟩⟩; refine ⟨_, rfl, ?_⟩) | ((with_reducible refine gate_callee (f := 8) rfl ?_); refine goesL_ (some 63) rfl rfl Tryd.func8 (by kernel_rfl) rfl #[.int .u64 a2, .int .u64 a1] rfl (by (try simp only [List.map_toArray, List.map_cons, List.map_nil]); first | done | rfl | (simp only [List.length_drop, List.length_take]; rfl)) ?_; (with_reducible refine (gf2_Over.calls kj8 a2 a1 t185 t186 false _ A28.out).mono ?_); rintro e w' ⟨rfl, ⟨nd, rfl⟩⟩; refine ⟨_, rfl, ?_⟩) | ((with_reducible refine gate_callee (f := 18) rfl ?_); refine goesL_ (some 70) rfl rfl Tryd.func18 (by kernel_rfl) rfl #[.slice Ao15 y173.length co15, .int .u64 a1] rfl (by (try simp only [List.map_toArray, List.map_cons, List.map_nil]); first | done | rfl | (simp only [List.length_drop, List.length_take]; rfl)) ?_; (with_reducible refine (shuttleref03_Rest.calls kj8 _ _ y173 a1 t188 _ ?side1 ?side2 A29.out).mono ?_); (case side1 => repeat (first | exact (Kd.R_reads' HO_0.out).2.2 | (with_reducible refine Kd.C_alloc ?_ _) | (with_reducible refine Kd.C_drewN ?_ _) | (with_reducible refine Kd.C_drew ?_))); (case side2 => exact (Kd.R_reads' HO_0.out).2.1); rintro e w' ⟨rfl, ⟨nd, rfl⟩⟩; refine ⟨_, rfl, ?_⟩))
                      go_ret
                      exact ⟨by first | rfl | (simp [errW_none, errW_some] <;> rfl) | (simp only [← hji4]; first | rfl | (simp [errW_none, errW_some] <;> rfl)) | (simp [*, errW_none, errW_some] <;> rfl), by repeat (first | (with_reducible first | exact HB.out | apply below_alloc | apply pw_below_drewN | apply below_drew1) | exact HB.out)⟩
                  · replace c31 := Bool.eq_false_iff.mpr c31
                    subst c31
                    have H1 : (some false) = some r := by rw [if_neg (show ¬ (false = true) by decide)] at H; exact H
                    clear H
                    have H := H1
                    clear H1
                    obtain rfl := Option.some.inj H
                    go_wp2_with (first | ((with_reducible refine gate_callee (f := 17) rfl ?_); refine goesL_ (some 55) rfl rfl Tryd.func17 (by kernel_rfl) rfl #[.int .u64 a2] rfl (by (try simp only [List.map_toArray, List.map_cons, List.map_nil]); first | done | rfl | (simp only [List.length_drop, List.length_take]; rfl)) ?_; (with_reducible refine (shuttleref03_Coefficients.calls kj8 a2 t180 _ A26.out).mono ?_); rintro e w37 ⟨v181, rfl, ho0, hb⟩; refine ⟨_, rfl, ?_⟩; have n0_ := Aside0.mk (Kd.R_elder' (by (with_reducible repeat (first | apply Kd.R_alloc | apply Kd.R_drewN | apply Kd.R_drew)); exact HO_0.out) (Kd.R_base ho0) hb); have n1_ := Aside0.mk (Kd.R_lower (Kd.R_new' ho0 (Kd.R_lt (by (with_reducible repeat (first | apply Kd.R_alloc | apply Kd.R_drewN | apply Kd.R_drew)); exact HO_0.out))) (below_size (by repeat (first | (with_reducible first | exact HB.out | apply below_alloc | apply pw_below_drewN | apply below_drew1) | exact HB.out)))); have n2_ := Aside0.mk (below_step (by repeat (first | (with_reducible first | exact HB.out | apply below_alloc | apply pw_below_drewN | apply below_drew1) | exact HB.out)) hb); clear HO_0; clear HB; have HO_0 := n0_; have HO182 := n1_; have HB := n2_; clear n0_ n1_ n2_; (try clear hb); (try clear hb2); (try clear hk); (try clear hi); (try clear ho0); obtain ⟨Ao38, co38, eo38⟩ := Kd.R_slice HO182.out; subst eo38) | ((with_reducible refine gate_callee (f := 16) rfl ?_); refine goesL_ (some 57) rfl rfl Tryd.func16 (by kernel_rfl) rfl #[.slice Ao38 t180.length co38, .int .u64 a1] rfl (by (try simp only [List.map_toArray, List.map_cons, List.map_nil]); first | done | rfl | (simp only [List.length_drop, List.length_take]; rfl)) ?_; (with_reducible refine (gf2_Rest.calls kj8 _ _ t180 a1 t183 false _ ?side1 ?side2 A27.out).mono ?_); (case side1 => repeat (first | exact (Kd.R_reads' HO182.out).2.2 | (with_reducible refine Kd.C_alloc ?_ _) | (with_reducible refine Kd.C_drewN ?_ _) | (with_reducible refine Kd.C_drew ?_))); (case side2 => exact (Kd.R_reads' HO182.out).2.1); rintro e w' ⟨rfl, ⟨nd, rfl⟩⟩; refine ⟨_, rfl, ?_⟩) | ((with_reducible refine gate_callee (f := 8) rfl ?_); refine goesL_ (some 63) rfl rfl Tryd.func8 (by kernel_rfl) rfl #[.int .u64 a2, .int .u64 a1] rfl (by (try simp only [List.map_toArray, List.map_cons, List.map_nil]); first | done | rfl | (simp only [List.length_drop, List.length_take]; rfl)) ?_; (with_reducible refine (gf2_Over.calls kj8 a2 a1 t185 t186 t187 _ A28.out).mono ?_); rintro e w' ⟨rfl, ⟨nd, rfl⟩⟩; refine ⟨_, rfl, ?_⟩) | ((with_reducible refine gate_callee (f := 18) rfl ?_); refine goesL_ (some 70) rfl rfl Tryd.func18 (by kernel_rfl) rfl #[.slice Ao15 y173.length co15, .int .u64 a1] rfl (by (try simp only [List.map_toArray, List.map_cons, List.map_nil]); first | done | rfl | (simp only [List.length_drop, List.length_take]; rfl)) ?_; (with_reducible refine (shuttleref03_Rest.calls kj8 _ _ y173 a1 t188 _ ?side1 ?side2 A29.out).mono ?_); (case side1 => repeat (first | exact (Kd.R_reads' HO_0.out).2.2 | (with_reducible refine Kd.C_alloc ?_ _) | (with_reducible refine Kd.C_drewN ?_ _) | (with_reducible refine Kd.C_drew ?_))); (case side2 => exact (Kd.R_reads' HO_0.out).2.1); rintro e w' ⟨rfl, ⟨nd, rfl⟩⟩; refine ⟨_, rfl, ?_⟩))
                    go_ret
                    exact ⟨by first | rfl | (simp [errW_none, errW_some] <;> rfl) | (simp only [← hji4]; first | rfl | (simp [errW_none, errW_some] <;> rfl)) | (simp [*, errW_none, errW_some] <;> rfl), by repeat (first | (with_reducible first | exact HB.out | apply below_alloc | apply pw_below_drewN | apply below_drew1) | exact HB.out)⟩
                · rw [if_neg c30] at H
                  have c30b0 : (t176 == t188) = false := beq_eq_false_iff_ne.mpr c30
                  have c30b1 : (t176 != t188) = true := bne_iff_ne.mpr c30
                  obtain rfl := Option.some.inj H
                  go_wp2_with (first | ((with_reducible refine gate_callee (f := 17) rfl ?_); refine goesL_ (some 55) rfl rfl Tryd.func17 (by kernel_rfl) rfl #[.int .u64 a2] rfl (by (try simp only [List.map_toArray, List.map_cons, List.map_nil]); first | done | rfl | (simp only [List.length_drop, List.length_take]; rfl)) ?_; (with_reducible refine (shuttleref03_Coefficients.calls kj8 a2 t180 _ A26.out).mono ?_); rintro e w39 ⟨v181, rfl, ho0, hb⟩; refine ⟨_, rfl, ?_⟩; have n0_ := Aside0.mk (Kd.R_elder' (by (with_reducible repeat (first | apply Kd.R_alloc | apply Kd.R_drewN | apply Kd.R_drew)); exact HO_0.out) (Kd.R_base ho0) hb); have n1_ := Aside0.mk (Kd.R_lower (Kd.R_new' ho0 (Kd.R_lt (by (with_reducible repeat (first | apply Kd.R_alloc | apply Kd.R_drewN | apply Kd.R_drew)); exact HO_0.out))) (below_size (by repeat (first | (with_reducible first | exact HB.out | apply below_alloc | apply pw_below_drewN | apply below_drew1) | exact HB.out)))); have n2_ := Aside0.mk (below_step (by repeat (first | (with_reducible first | exact HB.out | apply below_alloc | apply pw_below_drewN | apply below_drew1) | exact HB.out)) hb); clear HO_0; clear HB; have HO_0 := n0_; have HO182 := n1_; have HB := n2_; clear n0_ n1_ n2_; (try clear hb); (try clear hb2); (try clear hk); (try clear hi); (try clear ho0); obtain ⟨Ao40, co40, eo40⟩ := Kd.R_slice HO182.out; subst eo40) | ((with_reducible refine gate_callee (f := 16) rfl ?_); refine goesL_ (some 57) rfl rfl Tryd.func16 (by kernel_rfl) rfl #[.slice Ao40 t180.length co40, .int .u64 a1] rfl (by (try simp only [List.map_toArray, List.map_cons, List.map_nil]); first | done | rfl | (simp only [List.length_drop, List.length_take]; rfl)) ?_; (with_reducible refine (gf2_Rest.calls kj8 _ _ t180 a1 t183 t184 _ ?side1 ?side2 A27.out).mono ?_); (case side1 => repeat (first | exact (Kd.R_reads' HO182.out).2.2 | (with_reducible refine Kd.C_alloc ?_ _) | (with_reducible refine Kd.C_drewN ?_ _) | (with_reducible refine Kd.C_drew ?_))); (case side2 => exact (Kd.R_reads' HO182.out).2.1); rintro e w' ⟨rfl, ⟨nd, rfl⟩⟩; refine ⟨_, rfl, ?_⟩) | ((with_reducible refine gate_callee (f := 8) rfl ?_); refine goesL_ (some 63) rfl rfl Tryd.func8 (by kernel_rfl) rfl #[.int .u64 a2, .int .u64 a1] rfl (by (try simp only [List.map_toArray, List.map_cons, List.map_nil]); first | done | rfl | (simp only [List.length_drop, List.length_take]; rfl)) ?_; (with_reducible refine (gf2_Over.calls kj8 a2 a1 t185 t186 t187 _ A28.out).mono ?_); rintro e w' ⟨rfl, ⟨nd, rfl⟩⟩; refine ⟨_, rfl, ?_⟩) | ((with_reducible refine gate_callee (f := 18) rfl ?_); refine goesL_ (some 70) rfl rfl Tryd.func18 (by kernel_rfl) rfl #[.slice Ao15 y173.length co15, .int .u64 a1] rfl (by (try simp only [List.map_toArray, List.map_cons, List.map_nil]); first | done | rfl | (simp only [List.length_drop, List.length_take]; rfl)) ?_; (with_reducible refine (shuttleref03_Rest.calls kj8 _ _ y173 a1 t188 _ ?side1 ?side2 A29.out).mono ?_); (case side1 => repeat (first | exact (Kd.R_reads' HO_0.out).2.2 | (with_reducible refine Kd.C_alloc ?_ _) | (with_reducible refine Kd.C_drewN ?_ _) | (with_reducible refine Kd.C_drew ?_))); (case side2 => exact (Kd.R_reads' HO_0.out).2.1); rintro e w' ⟨rfl, ⟨nd, rfl⟩⟩; refine ⟨_, rfl, ?_⟩))
                  go_ret
                  exact ⟨by first | rfl | (simp [errW_none, errW_some] <;> rfl) | (simp only [← hji4]; first | rfl | (simp [errW_none, errW_some] <;> rfl)) | (simp [*, errW_none, errW_some] <;> rfl), by repeat (first | (with_reducible first | exact HB.out | apply below_alloc | apply pw_below_drewN | apply below_drew1) | exact HB.out)⟩
              · replace c25 := Bool.eq_false_iff.mpr c25
                subst c25
                have H1 : (some (t176 == 0)) = some r := by rw [if_neg (show ¬ (false = true) by decide)] at H; exact H
                clear H
                have H := H1
                clear H1
                obtain rfl := Option.some.inj H
                go_wp2
                go_ret
                exact ⟨by first | rfl | (simp [errW_none, errW_some] <;> rfl) | (simp only [← hji4]; first | rfl | (simp [errW_none, errW_some] <;> rfl)) | (simp [*, errW_none, errW_some] <;> rfl), by repeat (first | (with_reducible first | exact HB.out | apply below_alloc | apply pw_below_drewN | apply below_drew1) | exact HB.out)⟩
      · rw [if_neg c7] at H
        exact absurd H (by simp)
    · rw [if_neg c6] at H
      exact absurd H (by simp)
  · rw [if_neg c5] at H
    exact absurd H (by simp)

/-- THE ONE PURE STATEMENT of shuttlelaw03_Gf2Rest: yours. -/
def shuttlelaw03_Gf2Rest.Pure : Prop := ∀ (l0 : List Int) (a1 : Int) (a2 : Int), l0.length ≤ maxLen → l0.length * 1 ≤ 140737488351232 → (∀ x ∈ l0, (Lit.int .u8 x).wf = true) → (Lit.int .u64 a1).wf = true → (Lit.int .u64 a2).wf = true → ∃ k, shuttlelaw03_Gf2Rest.f k l0 a1 a2 = some true
theorem shuttlelaw03_Gf2Rest.walk (P : shuttlelaw03_Gf2Rest.Pure) (a0 : Option Addr) (len0 cap0 : Nat) (z0 : List Int) (a1 : Int) (a2 : Int) (w : World) (w0 : (a0 = none ∧ len0 = 0 ∧ cap0 = 0 ∧ z0 = []) ∨ ∃ x, a0 = some x ∧ len0 ≤ cap0 ∧ cap0 ≤ maxLen ∧ z0.length = cap0 ∧ (∀ i, i < z0.length → w.cell? (x.add i) = some (.int .u8 (z0.getD i 0))) ∧ ∀ n ∈ z0, (Lit.int .u8 n).wf = true) (y0 : len0 * 1 ≤ 140737488351232) (w1 : (Lit.int .u64 a1).wf = true) (w2 : (Lit.int .u64 a2).wf = true) (hT : Aside0 (TabOk w)) :
    Calls Tryd.prog 7 #[.slice a0 len0 cap0, .int .u64 a1, .int .u64 a2] w fun e w' => e = .returned (.bool true) ∧ Below w.heap.size w w' := by
  obtain ⟨l0, rfl, hr0, hm0, hw0, hc0⟩ := ReadsInt.ofRowC w0
  obtain ⟨k, h⟩ := P l0 a1 a2 hm0 y0 hw0 w1 w2
  refine (shuttlelaw03_Gf2Rest.calls k _ _ l0 a1 a2 true w (Kd.C_of_reads (d := (0 : Int)) (h1 := fun _ => rfl) hr0) hc0 hT h).mono ?_
  rintro e w' ⟨rfl, hd⟩
  exact ⟨rfl, hd⟩

end Go.Proofs.YtbkeogllicgbaaaDoor.Q
