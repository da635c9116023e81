/- Machine side of the statements of this seat: of each function what it computes, and that the code computes it (lines made by a program of ours on the pattern of the print). No condition of our own. -/
import Derived.Test.YtbkeogllicgbaaaDoorQ0
import Derived.Test.YtbkeogllicgbaaaDoorQ1
namespace Go.Proofs.YtbkeogllicgbaaaDoor.Q
open Go.RowKit Go.Proofs.YtbkeogllicgbaaaDoorW.PrintWords Go.Proofs.YtbkeogllicgbaaaDoorW.PrintLast Go.Proofs.YtbkeogllicgbaaaDoorW.PrintMore
attribute [local go_sem] max2_int min2_int max_two min_two max_three min_three max_four min_four   -- for this text's walks alone
set_option linter.unusedVariables false
set_option linter.unusedSimpArgs false

/-! ### shuttleref03_Times: function 10 -/
mutual
def shuttleref03_Times.j0 : Nat → Int → Int → Bool → Option (Int × Bool)
  | 0, _, _, _ => none
  | k + 1, x0, x1, x13 => if x13 = true then (some (0, true)) else ((shuttleref03_Degree.f k x0).bind fun t118 => ((shuttleref03_Degree.f k x1).bind fun t119 => (if (wrap64 (t118 + t119)) > 63 then (some (0, false)) else (shuttleref03_Times.l0 k x0 x1 0 0))))
def shuttleref03_Times.l0 : Nat → Int → Int → Int → Int → Option (Int × Bool)
  | 0, _, _, _, _ => none
  | k + 1, x0, x1, x6, x7 => if x7 < 64 then (if 0 ≤ x7 then (if (Go.bits .and .u64 (shr .u64 x1 x7) 1) = 1 then (shuttleref03_Times.l0 k x0 x1 (Go.bits .xor .u64 x6 (shl .u64 x0 x7)) (wrap64 (x7 + 1))) else (shuttleref03_Times.l0 k x0 x1 x6 (wrap64 (x7 + 1)))) else (none)) else (some (x6, true))
end
def shuttleref03_Times.f (k : Nat) (a0 : Int) (a1 : Int) : Option (Int × Bool) := if a0 = 0 then (shuttleref03_Times.j0 k a0 a1 true) else (shuttleref03_Times.j0 k a0 a1 (a1 == 0))
theorem shuttleref03_Times.mono_l : ∀ k, (∀ y0 y1 y2, LeO (shuttleref03_Times.j0 k y0 y1 y2) (shuttleref03_Times.j0 (k + 1) y0 y1 y2)) ∧ (∀ y0 y1 y2 y3, LeO (shuttleref03_Times.l0 k y0 y1 y2 y3) (shuttleref03_Times.l0 (k + 1) y0 y1 y2 y3))
  | 0 => ⟨fun _ _ _ r h => by simp [shuttleref03_Times.j0] at h, fun _ _ _ _ r h => by simp [shuttleref03_Times.l0] at h⟩
  | k + 1 => by
    obtain ⟨ih0, ih1⟩ := shuttleref03_Times.mono_l k
    refine ⟨?_, ?_⟩
    · intro y0 y1 y2
      unfold shuttleref03_Times.j0
      repeat' first
      | (with_reducible exact ih0 _ _ _)
      | (with_reducible exact ih1 _ _ _ _)
      | (with_reducible exact shuttleref03_Degree.mono _ _)
      | (with_reducible exact LeO.refl _)
      | (with_reducible exact LeO.none _)
      | (with_reducible refine LeO.ite ?_ ?_)
      | (with_reducible refine LeO.bind ?_ (fun _ => ?_))
      | exact ih0 _ _ _
      | exact ih1 _ _ _ _
      | exact shuttleref03_Degree.mono _ _
      | exact LeO.none _
      | refine LeO.ite ?_ ?_
      | refine LeO.bind ?_ (fun _ => ?_)
    · intro y0 y1 y2 y3
      unfold shuttleref03_Times.l0
      repeat' first
      | (with_reducible exact ih0 _ _ _)
      | (with_reducible exact ih1 _ _ _ _)
      | (with_reducible exact shuttleref03_Degree.mono _ _)
      | (with_reducible exact LeO.refl _)
      | (with_reducible exact LeO.none _)
      | (with_reducible refine LeO.ite ?_ ?_)
      | (with_reducible refine LeO.bind ?_ (fun _ => ?_))
      | exact ih0 _ _ _
      | exact ih1 _ _ _ _
      | exact shuttleref03_Degree.mono _ _
      | exact LeO.none _
      | refine LeO.ite ?_ ?_
      | refine LeO.bind ?_ (fun _ => ?_)
theorem shuttleref03_Times.mono : ∀ a0 a1 k, LeO (shuttleref03_Times.f k a0 a1) (shuttleref03_Times.f (k + 1) a0 a1) := by
  intro a0 a1 k
  obtain ⟨ih0, ih1⟩ := shuttleref03_Times.mono_l k
  unfold shuttleref03_Times.f
  repeat' first
      | (with_reducible exact ih0 _ _ _)
      | (with_reducible exact ih1 _ _ _ _)
      | (with_reducible exact shuttleref03_Degree.mono _ _)
      | (with_reducible exact LeO.refl _)
      | (with_reducible exact LeO.none _)
      | (with_reducible refine LeO.ite ?_ ?_)
      | (with_reducible refine LeO.bind ?_ (fun _ => ?_))
      | exact ih0 _ _ _
      | exact ih1 _ _ _ _
      | exact shuttleref03_Degree.mono _ _
      | exact LeO.none _
      | refine LeO.ite ?_ ?_
      | refine LeO.bind ?_ (fun _ => ?_)
set_option maxHeartbeats 8000000 in
set_option maxRecDepth 100000 in
theorem shuttleref03_Times.calls (k : Nat) (a0 : Int) (a1 : Int) (r1 : Int) (r2 : Bool) (w : World) (h : shuttleref03_Times.f k a0 a1 = some (r1, r2)) :
    Calls Tryd.prog 10 #[.int .u64 a0, .int .u64 a1] w fun e w' => e = .returned (.tuple #[.int .u64 r1, .bool r2]) ∧ Drawn0 w w' := by
  have H : (if a0 = 0 then (shuttleref03_Times.j0 k a0 a1 true) else (shuttleref03_Times.j0 k a0 a1 (a1 == 0))) = some (r1, r2) := h
  clear h
  have HC3 := Aside0.mk H
  clear H
  go_enter Tryd.func10, Tryd.ntmps10
  go_upto_region 1 with (fail)
  go_cut [13] (fun v13 wc => ∃ (kq : Nat) (x13_2 : Bool), v13 = .bool x13_2 ∧ Aside0 (shuttleref03_Times.j0 kq a0 a1 x13_2 = some (r1, r2)) ∧ Aside0 (kq ≤ k) ∧ Drawn0 w wc)
  case first =>
    have H := HC3.out
    clear HC3
    by_cases c4 : a0 = 0
    · rw [if_pos c4] at H
      have c4b0 : (a0 == 0) = true := beq_iff_eq.mpr c4
      have c4b1 : (a0 != 0) = false := bne_eq_false_iff_eq.mpr c4
      clear c4
      (first | rw [c4b0] | (simp only [i64_w, i32_w]; rw [c4b0]) | skip)
      have H' := Aside0.mk H
      clear H
      go_wp2
      go_meet
      case rel => exact ⟨_, (true), (by first | rfl | (simp; done) | (simp [*]; done)), H', ⟨by first | omega | exact Nat.le_refl _⟩, by repeat (first | exact Drawn0.refl _ | apply Drawn0.step)⟩
    · rw [if_neg c4] at H
      have c4b0 : (a0 == 0) = false := beq_eq_false_iff_ne.mpr c4
      have c4b1 : (a0 != 0) = true := bne_iff_ne.mpr c4
      (first | rw [c4b0] | (simp only [i64_w, i32_w]; rw [c4b0]) | skip)
      have H' := Aside0.mk H
      clear H
      go_wp2
      go_meet
      case rel => exact ⟨_, ((a1 == 0)), (by first | rfl | (simp; done) | (simp [*]; done)), H', ⟨by first | omega | exact Nat.le_refl _⟩, by repeat (first | exact Drawn0.refl _ | apply Drawn0.step)⟩
  case rest =>
    clear HC3
    try clear c1
    try clear p2
    try clear c4
    try clear c4b0
    try clear c4b1
    obtain ⟨kq, x13_2, rfl, HA, HJ2, ⟨mc2, rfl⟩⟩ := hcut
    cases kq with
    | zero => exact absurd HA.out (by simp [shuttleref03_Times.j0])
    | succ kj2 =>
      have H := HA.out
      clear HA
      simp only [shuttleref03_Times.j0] at H
      by_cases c5 : x13_2 = true
      · subst c5
        have H1 : (some (0, true)) = some (r1, r2) := by rw [if_pos rfl] at H; exact H
        clear H
        have H := H1
        clear H1
        simp only [Option.some.injEq, Prod.mk.injEq] at H
        obtain ⟨rfl, rfl⟩ := H
        go_wp2
        go_ret2
        exact ⟨by first | rfl | (simp; done) | (simp [*]; done), by repeat (first | exact Drawn0.refl _ | apply Drawn0.step)⟩
      · replace c5 := Bool.eq_false_iff.mpr c5
        subst c5
        have H1 : ((shuttleref03_Degree.f kj2 a0).bind fun t118 => ((shuttleref03_Degree.f kj2 a1).bind fun t119 => (if (wrap64 (t118 + t119)) > 63 then (some (0, false)) else (shuttleref03_Times.l0 kj2 a0 a1 0 0)))) = some (r1, r2) := by rw [if_neg (show ¬ (false = true) by decide)] at H; exact H
        clear H
        have H := H1
        clear H1
        replace H := Option.bind_eq_some_iff.mp H
        obtain ⟨t118, A60, H⟩ := H
        replace H : ((shuttleref03_Degree.f kj2 a1).bind fun t119 => (if (wrap64 (t118 + t119)) > 63 then (some (0, false)) else (shuttleref03_Times.l0 kj2 a0 a1 0 0))) = some (r1, r2) := H
        have A6 := Aside0.mk A60
        clear A60
        replace H := Option.bind_eq_some_iff.mp H
        obtain ⟨t119, A70, H⟩ := H
        replace H : (if (wrap64 (t118 + t119)) > 63 then (some (0, false)) else (shuttleref03_Times.l0 kj2 a0 a1 0 0)) = some (r1, r2) := H
        have A7 := Aside0.mk A70
        clear A70
        by_cases c8 : (wrap64 (t118 + t119)) > 63
        · rw [if_pos c8] at H
          have c8b0 : decide (63 < (wrap64 (t118 + t119))) = true := decide_eq_true c8
          clear c8
          simp only [Option.some.injEq, Prod.mk.injEq] at H
          obtain ⟨rfl, rfl⟩ := H
          go_wp2_with (first | ((with_reducible refine gate_callee (f := 11) rfl ?_); refine goesL_ (some 15) rfl rfl Tryd.func11 (by kernel_rfl) rfl #[.int .u64 a0] rfl (by (try simp only [List.map_toArray, List.map_cons, List.map_nil]); first | done | rfl | (simp only [List.length_drop, List.length_take]; rfl)) ?_; (with_reducible refine (shuttleref03_Degree.calls kj2 a0 t118 _ A6.out).mono ?_); rintro e w' ⟨rfl, ⟨nd, rfl⟩⟩; refine ⟨_, rfl, ?_⟩) | ((with_reducible refine gate_callee (f := 11) rfl ?_); refine goesL_ (some 17) rfl rfl Tryd.func11 (by kernel_rfl) rfl #[.int .u64 a1] rfl (by (try simp only [List.map_toArray, List.map_cons, List.map_nil]); first | done | rfl | (simp only [List.length_drop, List.length_take]; rfl)) ?_; (with_reducible refine (shuttleref03_Degree.calls kj2 a1 t119 _ A7.out).mono ?_); rintro e w' ⟨rfl, ⟨nd, rfl⟩⟩; refine ⟨_, rfl, ?_⟩))
          go_ret2
          exact ⟨by first | rfl | (simp; done) | (simp [*]; done), by repeat (first | exact Drawn0.refl _ | apply Drawn0.step)⟩
        · rw [if_neg c8] at H
          have c8b0 : decide (63 < (wrap64 (t118 + t119))) = false := decide_eq_false c8
          clear c8
          have H' := Aside0.mk H
          clear H
          go_wp2_with (first | ((with_reducible refine gate_callee (f := 11) rfl ?_); refine goesL_ (some 15) rfl rfl Tryd.func11 (by kernel_rfl) rfl #[.int .u64 a0] rfl (by (try simp only [List.map_toArray, List.map_cons, List.map_nil]); first | done | rfl | (simp only [List.length_drop, List.length_take]; rfl)) ?_; (with_reducible refine (shuttleref03_Degree.calls kj2 a0 t118 _ A6.out).mono ?_); rintro e w' ⟨rfl, ⟨nd, rfl⟩⟩; refine ⟨_, rfl, ?_⟩) | ((with_reducible refine gate_callee (f := 11) rfl ?_); refine goesL_ (some 17) rfl rfl Tryd.func11 (by kernel_rfl) rfl #[.int .u64 a1] rfl (by (try simp only [List.map_toArray, List.map_cons, List.map_nil]); first | done | rfl | (simp only [List.length_drop, List.length_take]; rfl)) ?_; (with_reducible refine (shuttleref03_Degree.calls kj2 a1 t119 _ A7.out).mono ?_); rintro e w' ⟨rfl, ⟨nd, rfl⟩⟩; refine ⟨_, rfl, ?_⟩))
          go_loopg [6, 7] kj2 (fun kq v6 v7 w' => ∃ (x6_2 : Int) (x7_2 : Int), v6 = .int .u64 x6_2 ∧ v7 = .int .i64 x7_2 ∧ Aside0 (shuttleref03_Times.l0 kq a0 a1 x6_2 x7_2 = some (r1, r2)) ∧ Aside0 (kq ≤ kj2) ∧ Drawn0 w w')
          case atStart => exact ⟨(0), (0), (by first | rfl | (simp; done) | (simp [*]; done)), (by first | rfl | (simp; done) | (simp [*]; done)), H', ⟨Nat.le_refl _⟩, by repeat (first | exact Drawn0.refl _ | apply Drawn0.step)⟩
          case round =>
            clear H'
            try clear c1
            try clear c2
            try clear p2
            try clear c4
            try clear c4b0
            try clear c4b1
            try clear c5
            try clear p6
            try clear c8
            try clear c8b0
            try clear p2
            obtain ⟨x6_2, x7_2, rfl, rfl, HA, HK2, ⟨m2, rfl⟩⟩ := hrel
            cases gk with
            | zero => exact absurd HA.out (by simp [shuttleref03_Times.l0])
            | succ k2 =>
              have H := HA.out
              clear HA
              simp only [shuttleref03_Times.l0] at H
              by_cases c9 : x7_2 < 64
              · rw [if_pos c9] at H
                have c9b0 : decide (x7_2 < 64) = true := decide_eq_true c9
                clear c9
                by_cases c10 : 0 ≤ x7_2
                · rw [if_pos c10] at H
                  have c10b0 := eq_true c10
                  have c10b1 : decide (0 ≤ x7_2) = true := decide_eq_true c10
                  clear c10
                  obtain ⟨ji11, hji11⟩ : ∃ j_ : Int, (shr .u64 a1 x7_2) = j_ := ⟨_, rfl⟩
                  replace H : (if (Go.bits .and .u64 (ji11) 1) = 1 then (shuttleref03_Times.l0 k2 a0 a1 (Go.bits .xor .u64 x6_2 (shl .u64 a0 x7_2)) (wrap64 (x7_2 + 1))) else (shuttleref03_Times.l0 k2 a0 a1 x6_2 (wrap64 (x7_2 + 1)))) = some (r1, r2) := by first | (rw [hji11] at H; exact H) | (simp only [hji11] at H ⊢; exact H)
                  have hji11_ : (a1 / 2 ^ min x7_2.toNat 64) = ji11 := hji11
                  have hji11z : x7_2 ≤ 64 → (a1 / 2 ^ x7_2.toNat) = ji11 := shr_small hji11
                  by_cases c12 : (Go.bits .and .u64 (ji11) 1) = 1
                  · rw [if_pos c12] at H
                    have c12b0 : ((Go.bits .and .u64 (ji11) 1) == 1) = true := beq_iff_eq.mpr c12
                    have c12b1 : ((Go.bits .and .u64 (ji11) 1) != 1) = false := bne_eq_false_iff_eq.mpr c12
                    clear c12
                    have c13b0 := eq_true (of_decide_eq_true (by first | (with_reducible assumption) | assumption) : 0 ≤ x7_2)
                    obtain ⟨ji14, hji14⟩ : ∃ j_ : Int, (shl .u64 a0 x7_2) = j_ := ⟨_, rfl⟩
                    replace H : (shuttleref03_Times.l0 k2 a0 a1 (Go.bits .xor .u64 x6_2 (ji14)) (wrap64 (x7_2 + 1))) = some (r1, r2) := by first | (rw [hji14] at H; exact H) | (simp only [hji14] at H ⊢; exact H)
                    have hji14_ : (IntKind.u64.wrap (a0 * 2 ^ min x7_2.toNat 64)) = ji14 := hji14
                    have hji14z : x7_2 ≤ 64 → (IntKind.u64.wrap (a0 * 2 ^ x7_2.toNat)) = ji14 := shl_small hji14
                    have H' := Aside0.mk H
                    clear H
                    go_wp2
                    go_roundg k2
                    case measure => have := HJ2.out; have := HK2.out; omega
                    case rel => exact ⟨(Go.bits .xor .u64 x6_2 (ji14)), (wrap64 (x7_2 + 1)), (by first | rfl | (simp; done) | (simp only [← hji14] <;> (first | rfl | simp)) | (simp [*]; done)), (by first | rfl | (simp; done) | (simp [*]; done)), H', ⟨by have := HJ2.out; have := HK2.out; omega⟩, by repeat (first | exact Drawn0.refl _ | apply Drawn0.step)⟩
                  · rw [if_neg c12] at H
                    have c12b0 : ((Go.bits .and .u64 (ji11) 1) == 1) = false := beq_eq_false_iff_ne.mpr c12
                    have c12b1 : ((Go.bits .and .u64 (ji11) 1) != 1) = true := bne_iff_ne.mpr c12
                    have H' := Aside0.mk H
                    clear H
                    go_wp2
                    go_roundg k2
                    case measure => have := HJ2.out; have := HK2.out; omega
                    case rel => exact ⟨(x6_2), (wrap64 (x7_2 + 1)), (by first | rfl | (simp; done) | (simp [*]; done)), (by first | rfl | (simp; done) | (simp [*]; done)), H', ⟨by have := HJ2.out; have := HK2.out; omega⟩, by repeat (first | exact Drawn0.refl _ | apply Drawn0.step)⟩
                · rw [if_neg c10] at H
                  exact absurd H (by simp)
              · rw [if_neg c9] at H
                have c9b0 : decide (x7_2 < 64) = false := decide_eq_false c9
                clear c9
                simp only [Option.some.injEq, Prod.mk.injEq] at H
                obtain ⟨rfl, rfl⟩ := H
                go_wp2
                go_ret2
                exact ⟨by first | rfl | (simp; done) | (simp [*]; done), by repeat (first | exact Drawn0.refl _ | apply Drawn0.step)⟩

/-! ### shuttlelaw03_Gf2Over: function 3 -/
def shuttlelaw03_Gf2Over.j0 : Nat → Int → Int → Int → Int → Bool → Bool → Option (Bool)
  | 0, _, _, _, _, _, _ => none
  | k + 1, x0, x1, x5, x6, x7, x24 => if x24 = true then (some false) else (if x7 = true then ((shuttleref03_Times.f k x5 x1).bind fun bt124 => (if bt124.2 = true then (if (Go.bits .xor .u64 bt124.1 x6) = x0 then ((shuttleref03_Degree.f k x6).bind fun t126 => ((shuttleref03_Degree.f k x1).bind fun t127 => (some (decide (t126 < t127))))) else (some false)) else (some false))) else (if x5 = 0 then (some (x6 == 0)) else (some false)))
def shuttlelaw03_Gf2Over.f (k : Nat) (a0 : Int) (a1 : Int) : Option (Bool) := (gf2_Over.f k a0 a1).bind fun bt120 => ((shuttlelaw03_polys.f k).bind fun t123 => (if t123 = true then (shuttlelaw03_Gf2Over.j0 k a0 a1 bt120.1 bt120.2.1 bt120.2.2 (bt120.2.2 != (a1 != 0))) else (shuttlelaw03_Gf2Over.j0 k a0 a1 bt120.1 bt120.2.1 bt120.2.2 true)))
theorem shuttlelaw03_Gf2Over.mono_l : ∀ k, (∀ y0 y1 y2 y3 y4 y5, LeO (shuttlelaw03_Gf2Over.j0 k y0 y1 y2 y3 y4 y5) (shuttlelaw03_Gf2Over.j0 (k + 1) y0 y1 y2 y3 y4 y5))
  | 0 => fun _ _ _ _ _ _ r h => by simp [shuttlelaw03_Gf2Over.j0] at h
  | k + 1 => by
    have ih0 := shuttlelaw03_Gf2Over.mono_l k
    · intro y0 y1 y2 y3 y4 y5
      unfold shuttlelaw03_Gf2Over.j0
      repeat' first
      | (with_reducible exact ih0 _ _ _ _ _ _)
      | (with_reducible exact gf2_Over.mono _ _ _)
      | (with_reducible exact shuttlelaw03_polys.mono _)
      | (with_reducible exact shuttleref03_Degree.mono _ _)
      | (with_reducible exact shuttleref03_Times.mono _ _ _)
      | (with_reducible exact LeO.refl _)
      | (with_reducible exact LeO.none _)
      | (with_reducible refine LeO.ite ?_ ?_)
      | (with_reducible refine LeO.bind ?_ (fun _ => ?_))
      | exact ih0 _ _ _ _ _ _
      | exact gf2_Over.mono _ _ _
      | exact shuttlelaw03_polys.mono _
      | exact shuttleref03_Degree.mono _ _
      | exact shuttleref03_Times.mono _ _ _
      | exact LeO.none _
      | refine LeO.ite ?_ ?_
      | refine LeO.bind ?_ (fun _ => ?_)
theorem shuttlelaw03_Gf2Over.mono : ∀ a0 a1 k, LeO (shuttlelaw03_Gf2Over.f k a0 a1) (shuttlelaw03_Gf2Over.f (k + 1) a0 a1) := by
  intro a0 a1 k
  have ih0 := shuttlelaw03_Gf2Over.mono_l k
  unfold shuttlelaw03_Gf2Over.f
  repeat' first
      | (with_reducible exact ih0 _ _ _ _ _ _)
      | (with_reducible exact gf2_Over.mono _ _ _)
      | (with_reducible exact shuttlelaw03_polys.mono _)
      | (with_reducible exact shuttleref03_Degree.mono _ _)
      | (with_reducible exact shuttleref03_Times.mono _ _ _)
      | (with_reducible exact LeO.refl _)
      | (with_reducible exact LeO.none _)
      | (with_reducible refine LeO.ite ?_ ?_)
      | (with_reducible refine LeO.bind ?_ (fun _ => ?_))
      | exact ih0 _ _ _ _ _ _
      | exact gf2_Over.mono _ _ _
      | exact shuttlelaw03_polys.mono _
      | exact shuttleref03_Degree.mono _ _
      | exact shuttleref03_Times.mono _ _ _
      | exact LeO.none _
      | refine LeO.ite ?_ ?_
      | refine LeO.bind ?_ (fun _ => ?_)
set_option maxHeartbeats 8000000 in
set_option maxRecDepth 100000 in
theorem shuttlelaw03_Gf2Over.calls (k : Nat) (a0 : Int) (a1 : Int) (r : Bool) (w : World) (hT : Aside0 (TabOk w)) (h : shuttlelaw03_Gf2Over.f k a0 a1 = some r) :
    Calls Tryd.prog 3 #[.int .u64 a0, .int .u64 a1] w fun e w' => e = .returned (.bool r) ∧ Drawn0 w w' := by
  have H : ((gf2_Over.f k a0 a1).bind fun bt120 => ((shuttlelaw03_polys.f k).bind fun t123 => (if t123 = true then (shuttlelaw03_Gf2Over.j0 k a0 a1 bt120.1 bt120.2.1 bt120.2.2 (bt120.2.2 != (a1 != 0))) else (shuttlelaw03_Gf2Over.j0 k a0 a1 bt120.1 bt120.2.1 bt120.2.2 true)))) = some r := h
  clear h
  replace H := Option.bind_eq_some_iff.mp H
  obtain ⟨⟨t120, t121, t122⟩, A30, H⟩ := H
  replace H : ((shuttlelaw03_polys.f k).bind fun t123 => (if t123 = true then (shuttlelaw03_Gf2Over.j0 k a0 a1 t120 t121 t122 (t122 != (a1 != 0))) else (shuttlelaw03_Gf2Over.j0 k a0 a1 t120 t121 t122 true))) = some r := H
  have A3 := Aside0.mk A30
  clear A30
  have HC4 := Aside0.mk H
  clear H
  go_enter Tryd.func3, Tryd.ntmps3
  go_upto_region 2 with (first | ((with_reducible refine gate_callee (f := 8) rfl ?_); refine goesL_ (some 13) rfl rfl Tryd.func8 (by kernel_rfl) rfl #[.int .u64 a0, .int .u64 a1] rfl (by (try simp only [List.map_toArray, List.map_cons, List.map_nil]); first | done | rfl | (simp only [List.length_drop, List.length_take]; rfl)) ?_; (with_reducible refine (gf2_Over.calls k a0 a1 t120 t121 t122 _ A3.out).mono ?_); rintro e w' ⟨rfl, ⟨nd, rfl⟩⟩; refine ⟨_, rfl, ?_⟩))
  (try simp only [Act.put, List.setIfInBounds_toArray, List.set_cons_zero, List.set_cons_succ])
  go_cut [24] (fun v24 wc => ∃ (kq : Nat) (x24_3 : Bool), v24 = .bool x24_3 ∧ Aside0 (shuttlelaw03_Gf2Over.j0 kq a0 a1 t120 t121 t122 x24_3 = some r) ∧ Aside0 (kq ≤ k) ∧ Drawn0 w wc)
  case first =>
    have H := HC4.out
    clear HC4
    replace H := Option.bind_eq_some_iff.mp H
    obtain ⟨t123, A50, H⟩ := H
    replace H : (if t123 = true then (shuttlelaw03_Gf2Over.j0 k a0 a1 t120 t121 t122 (t122 != (a1 != 0))) else (shuttlelaw03_Gf2Over.j0 k a0 a1 t120 t121 t122 true)) = some r := H
    have A5 := Aside0.mk A50
    clear A50
    by_cases c6 : t123 = true
    · subst c6
      have H1 : (shuttlelaw03_Gf2Over.j0 k a0 a1 t120 t121 t122 (t122 != (a1 != 0))) = some r := by rw [if_pos rfl] at H; exact H
      clear H
      have H := H1
      clear H1
      have H' := Aside0.mk H
      clear H
      go_wp2_with (first | ((with_reducible refine gate_callee (f := 9) rfl ?_); refine goesL_ (some 17) rfl rfl Tryd.func9 (by kernel_rfl) rfl #[] rfl (by (try simp only [List.map_toArray, List.map_cons, List.map_nil]); first | done | rfl | (simp only [List.length_drop, List.length_take]; rfl)) ?_; (with_reducible refine (shuttlelaw03_polys.calls k  true _ (by repeat (first | exact hT | apply TabA.drewN | apply TabA.drew | apply TabA.alloc)) A5.out).mono ?_); rintro e w' ⟨rfl, ⟨nd, rfl⟩⟩; refine ⟨_, rfl, ?_⟩))
      go_meet
      case rel => exact ⟨_, ((t122 != (a1 != 0))), (by first | rfl | (simp; done) | (simp [*]; done)), H', ⟨by first | omega | exact Nat.le_refl _⟩, by repeat (first | exact Drawn0.refl _ | apply Drawn0.step)⟩
    · replace c6 := Bool.eq_false_iff.mpr c6
      subst c6
      have H1 : (shuttlelaw03_Gf2Over.j0 k a0 a1 t120 t121 t122 true) = some r := by rw [if_neg (show ¬ (false = true) by decide)] at H; exact H
      clear H
      have H := H1
      clear H1
      have H' := Aside0.mk H
      clear H
      go_wp2_with (first | ((with_reducible refine gate_callee (f := 9) rfl ?_); refine goesL_ (some 17) rfl rfl Tryd.func9 (by kernel_rfl) rfl #[] rfl (by (try simp only [List.map_toArray, List.map_cons, List.map_nil]); first | done | rfl | (simp only [List.length_drop, List.length_take]; rfl)) ?_; (with_reducible refine (shuttlelaw03_polys.calls k  false _ (by repeat (first | exact hT | apply TabA.drewN | apply TabA.drew | apply TabA.alloc)) A5.out).mono ?_); rintro e w' ⟨rfl, ⟨nd, rfl⟩⟩; refine ⟨_, rfl, ?_⟩))
      go_meet
      case rel => exact ⟨_, (true), (by first | rfl | (simp; done) | (simp [*]; done)), H', ⟨by first | omega | exact Nat.le_refl _⟩, by repeat (first | exact Drawn0.refl _ | apply Drawn0.step)⟩
  case rest =>
    clear HC4
    try clear p2
    try clear c3
    try clear c6
    obtain ⟨kq, x24_3, rfl, HA, HJ3, ⟨mc3, rfl⟩⟩ := hcut
    cases kq with
    | zero => exact absurd HA.out (by simp [shuttlelaw03_Gf2Over.j0])
    | succ kj3 =>
      have H := HA.out
      clear HA
      simp only [shuttlelaw03_Gf2Over.j0] at H
      by_cases c7 : x24_3 = true
      · subst c7
        have H1 : (some false) = some r := by rw [if_pos rfl] at H; exact H
        clear H
        have H := H1
        clear H1
        obtain rfl := Option.some.inj H
        go_wp2
        go_ret
        exact ⟨by first | rfl | (simp; done) | (simp [*]; done), by repeat (first | exact Drawn0.refl _ | apply Drawn0.step)⟩
      · replace c7 := Bool.eq_false_iff.mpr c7
        subst c7
        have H1 : (if t122 = true then ((shuttleref03_Times.f kj3 t120 a1).bind fun bt124 => (if bt124.2 = true then (if (Go.bits .xor .u64 bt124.1 t121) = a0 then ((shuttleref03_Degree.f kj3 t121).bind fun t126 => ((shuttleref03_Degree.f kj3 a1).bind fun t127 => (some (decide (t126 < t127))))) else (some false)) else (some false))) else (if t120 = 0 then (some (t121 == 0)) else (some false))) = some r := by rw [if_neg (show ¬ (false = true) by decide)] at H; exact H
        clear H
        have H := H1
        clear H1
        by_cases c8 : t122 = true
        · subst c8
          have H1 : ((shuttleref03_Times.f kj3 t120 a1).bind fun bt124 => (if bt124.2 = true then (if (Go.bits .xor .u64 bt124.1 t121) = a0 then ((shuttleref03_Degree.f kj3 t121).bind fun t126 => ((shuttleref03_Degree.f kj3 a1).bind fun t127 => (some (decide (t126 < t127))))) else (some false)) else (some false))) = some r := by rw [if_pos rfl] at H; exact H
          clear H
          have H := H1
          clear H1
          replace H := Option.bind_eq_some_iff.mp H
          obtain ⟨⟨t124, t125⟩, A90, H⟩ := H
          replace H : (if t125 = true then (if (Go.bits .xor .u64 t124 t121) = a0 then ((shuttleref03_Degree.f kj3 t121).bind fun t126 => ((shuttleref03_Degree.f kj3 a1).bind fun t127 => (some (decide (t126 < t127))))) else (some false)) else (some false)) = some r := H
          have A9 := Aside0.mk A90
          clear A90
          by_cases c10 : t125 = true
          · subst c10
            have H1 : (if (Go.bits .xor .u64 t124 t121) = a0 then ((shuttleref03_Degree.f kj3 t121).bind fun t126 => ((shuttleref03_Degree.f kj3 a1).bind fun t127 => (some (decide (t126 < t127))))) else (some false)) = some r := by rw [if_pos rfl] at H; exact H
            clear H
            have H := H1
            clear H1
            by_cases c11 : (Go.bits .xor .u64 t124 t121) = a0
            · rw [if_pos c11] at H
              have c11b0 : ((Go.bits .xor .u64 t124 t121) == a0) = true := beq_iff_eq.mpr c11
              have c11b1 : ((Go.bits .xor .u64 t124 t121) != a0) = false := bne_eq_false_iff_eq.mpr c11
              clear c11
              replace H := Option.bind_eq_some_iff.mp H
              obtain ⟨t126, A120, H⟩ := H
              replace H : ((shuttleref03_Degree.f kj3 a1).bind fun t127 => (some (decide (t126 < t127)))) = some r := H
              have A12 := Aside0.mk A120
              clear A120
              replace H := Option.bind_eq_some_iff.mp H
              obtain ⟨t127, A130, H⟩ := H
              replace H : (some (decide (t126 < t127))) = some r := H
              have A13 := Aside0.mk A130
              clear A130
              obtain rfl := Option.some.inj H
              go_wp2_with (first | ((with_reducible refine gate_callee (f := 10) rfl ?_); refine goesL_ (some 36) rfl rfl Tryd.func10 (by kernel_rfl) rfl #[.int .u64 t120, .int .u64 a1] rfl (by (try simp only [List.map_toArray, List.map_cons, List.map_nil]); first | done | rfl | (simp only [List.length_drop, List.length_take]; rfl)) ?_; (with_reducible refine (shuttleref03_Times.calls kj3 t120 a1 t124 true _ A9.out).mono ?_); rintro e w' ⟨rfl, ⟨nd, rfl⟩⟩; refine ⟨_, rfl, ?_⟩) | (go_at_call 11; (with_reducible refine (shuttleref03_Degree.calls kj3 t121 t126 _ A12.out).mono ?_); rintro e w' ⟨rfl, ⟨nd, rfl⟩⟩) | (go_at_call 11; (with_reducible refine (shuttleref03_Degree.calls kj3 a1 t127 _ A13.out).mono ?_); rintro e w' ⟨rfl, ⟨nd, rfl⟩⟩))
              go_ret
              exact ⟨by first | rfl | (simp; done) | (simp [*]; done), by repeat (first | exact Drawn0.refl _ | apply Drawn0.step)⟩
            · rw [if_neg c11] at H
              have c11b0 : ((Go.bits .xor .u64 t124 t121) == a0) = false := beq_eq_false_iff_ne.mpr c11
              have c11b1 : ((Go.bits .xor .u64 t124 t121) != a0) = true := bne_iff_ne.mpr c11
              obtain rfl := Option.some.inj H
              go_wp2_with (first | ((with_reducible refine gate_callee (f := 10) rfl ?_); refine goesL_ (some 36) rfl rfl Tryd.func10 (by kernel_rfl) rfl #[.int .u64 t120, .int .u64 a1] rfl (by (try simp only [List.map_toArray, List.map_cons, List.map_nil]); first | done | rfl | (simp only [List.length_drop, List.length_take]; rfl)) ?_; (with_reducible refine (shuttleref03_Times.calls kj3 t120 a1 t124 true _ A9.out).mono ?_); rintro e w' ⟨rfl, ⟨nd, rfl⟩⟩; refine ⟨_, rfl, ?_⟩))
              go_ret
              exact ⟨by first | rfl | (simp; done) | (simp [*]; done), by repeat (first | exact Drawn0.refl _ | apply Drawn0.step)⟩
          · replace c10 := Bool.eq_false_iff.mpr c10
            subst c10
            have H1 : (some false) = some r := by rw [if_neg (show ¬ (false = true) by decide)] at H; exact H
            clear H
            have H := H1
            clear H1
            obtain rfl := Option.some.inj H
            go_wp2_with (first | ((with_reducible refine gate_callee (f := 10) rfl ?_); refine goesL_ (some 36) rfl rfl Tryd.func10 (by kernel_rfl) rfl #[.int .u64 t120, .int .u64 a1] rfl (by (try simp only [List.map_toArray, List.map_cons, List.map_nil]); first | done | rfl | (simp only [List.length_drop, List.length_take]; rfl)) ?_; (with_reducible refine (shuttleref03_Times.calls kj3 t120 a1 t124 false _ A9.out).mono ?_); rintro e w' ⟨rfl, ⟨nd, rfl⟩⟩; refine ⟨_, rfl, ?_⟩))
            go_ret
            exact ⟨by first | rfl | (simp; done) | (simp [*]; done), by repeat (first | exact Drawn0.refl _ | apply Drawn0.step)⟩
        · replace c8 := Bool.eq_false_iff.mpr c8
          subst c8
          have H1 : (if t120 = 0 then (some (t121 == 0)) else (some false)) = some r := by rw [if_neg (show ¬ (false = true) by decide)] at H; exact H
          clear H
          have H := H1
          clear H1
          by_cases c14 : t120 = 0
          · rw [if_pos c14] at H
            have c14b0 : (t120 == 0) = true := beq_iff_eq.mpr c14
            have c14b1 : (t120 != 0) = false := bne_eq_false_iff_eq.mpr c14
            clear c14
            obtain rfl := Option.some.inj H
            go_wp2
            go_ret
            exact ⟨by first | rfl | (simp; done) | (simp [*]; done), by repeat (first | exact Drawn0.refl _ | apply Drawn0.step)⟩
          · rw [if_neg c14] at H
            have c14b0 : (t120 == 0) = false := beq_eq_false_iff_ne.mpr c14
            have c14b1 : (t120 != 0) = true := bne_iff_ne.mpr c14
            obtain rfl := Option.some.inj H
            go_wp2
            go_ret
            exact ⟨by first | rfl | (simp; done) | (simp [*]; done), by repeat (first | exact Drawn0.refl _ | apply Drawn0.step)⟩

/-- THE ONE PURE STATEMENT of shuttlelaw03_Gf2Over: yours. -/
def shuttlelaw03_Gf2Over.Pure : Prop := ∀ (a0 : Int) (a1 : Int), (Lit.int .u64 a0).wf = true → (Lit.int .u64 a1).wf = true → ∃ k, shuttlelaw03_Gf2Over.f k a0 a1 = some true
theorem shuttlelaw03_Gf2Over.walk (P : shuttlelaw03_Gf2Over.Pure) (a0 : Int) (a1 : Int) (w : World) (w0 : (Lit.int .u64 a0).wf = true) (w1 : (Lit.int .u64 a1).wf = true) (hT : Aside0 (TabOk w)) :
    Calls Tryd.prog 3 #[.int .u64 a0, .int .u64 a1] w fun e w' => e = .returned (.bool true) ∧ Below w.heap.size w w' := by
  obtain ⟨k, h⟩ := P a0 a1 w0 w1
  refine (shuttlelaw03_Gf2Over.calls k a0 a1 true w hT h).mono ?_
  rintro e w' ⟨rfl, hd⟩
  exact ⟨rfl, hd.below⟩

/-! ### shuttlelaw03_Gf2Common: function 4 -/
def shuttlelaw03_Gf2Common.j0 : Nat → Int → Int → Int → Int → Bool → Option (Bool)
  | 0, _, _, _, _, _ => none
  | k + 1, x0, x1, x2, x7, x42 => if x42 = true then (some false) else (if x7 = 0 then (some true) else ((gf2_Over.f k x0 x7).bind fun bt130 => ((gf2_Over.f k x1 x7).bind fun bt133 => ((shuttleref03_Times.f k x0 x2).bind fun bt136 => ((shuttleref03_Times.f k x1 x2).bind fun bt138 => ((gf2_Common.f k bt136.1 bt138.1).bind fun t140 => ((shuttleref03_Times.f k x7 x2).bind fun bt141 => (if bt130.2.2 = true then (if bt133.2.2 = true then (if bt130.2.1 = 0 then (if bt133.2.1 = 0 then (some (t140 == bt141.1)) else (some false)) else (some false)) else (some false)) else (some false)))))))))
def shuttlelaw03_Gf2Common.f (k : Nat) (a0 : Int) (a1 : Int) (a2 : Int) : Option (Bool) := (gf2_Common.f k (Int.tmod a0 1048576) (Int.tmod a1 1048576)).bind fun t128 => ((shuttlelaw03_polys.f k).bind fun t129 => (if t129 = true then (if (Int.tmod a0 1048576) = 0 then (shuttlelaw03_Gf2Common.j0 k (Int.tmod a0 1048576) (Int.tmod a1 1048576) (Int.tmod a2 1048576) t128 ((t128 == 0) != ((Int.tmod a1 1048576) == 0))) else (shuttlelaw03_Gf2Common.j0 k (Int.tmod a0 1048576) (Int.tmod a1 1048576) (Int.tmod a2 1048576) t128 ((t128 == 0) != false))) else (shuttlelaw03_Gf2Common.j0 k (Int.tmod a0 1048576) (Int.tmod a1 1048576) (Int.tmod a2 1048576) t128 true)))
theorem shuttlelaw03_Gf2Common.mono_l : ∀ k, (∀ y0 y1 y2 y3 y4, LeO (shuttlelaw03_Gf2Common.j0 k y0 y1 y2 y3 y4) (shuttlelaw03_Gf2Common.j0 (k + 1) y0 y1 y2 y3 y4))
  | 0 => fun _ _ _ _ _ r h => by simp [shuttlelaw03_Gf2Common.j0] at h
  | k + 1 => by
    have ih0 := shuttlelaw03_Gf2Common.mono_l k
    · intro y0 y1 y2 y3 y4
      unfold shuttlelaw03_Gf2Common.j0
      repeat' first
      | (with_reducible exact ih0 _ _ _ _ _)
      | (with_reducible exact gf2_Common.mono _ _ _)
      | (with_reducible exact gf2_Over.mono _ _ _)
      | (with_reducible exact shuttlelaw03_polys.mono _)
      | (with_reducible exact shuttleref03_Times.mono _ _ _)
      | (with_reducible exact LeO.refl _)
      | (with_reducible exact LeO.none _)
      | (with_reducible refine LeO.ite ?_ ?_)
      | (with_reducible refine LeO.bind ?_ (fun _ => ?_))
      | exact ih0 _ _ _ _ _
      | exact gf2_Common.mono _ _ _
      | exact gf2_Over.mono _ _ _
      | exact shuttlelaw03_polys.mono _
      | exact shuttleref03_Times.mono _ _ _
      | exact LeO.none _
      | refine LeO.ite ?_ ?_
      | refine LeO.bind ?_ (fun _ => ?_)
theorem shuttlelaw03_Gf2Common.mono : ∀ a0 a1 a2 k, LeO (shuttlelaw03_Gf2Common.f k a0 a1 a2) (shuttlelaw03_Gf2Common.f (k + 1) a0 a1 a2) := by
  intro a0 a1 a2 k
  have ih0 := shuttlelaw03_Gf2Common.mono_l k
  unfold shuttlelaw03_Gf2Common.f
  repeat' first
      | (with_reducible exact ih0 _ _ _ _ _)
      | (with_reducible exact gf2_Common.mono _ _ _)
      | (with_reducible exact gf2_Over.mono _ _ _)
      | (with_reducible exact shuttlelaw03_polys.mono _)
      | (with_reducible exact shuttleref03_Times.mono _ _ _)
      | (with_reducible exact LeO.refl _)
      | (with_reducible exact LeO.none _)
      | (with_reducible refine LeO.ite ?_ ?_)
      | (with_reducible refine LeO.bind ?_ (fun _ => ?_))
      | exact ih0 _ _ _ _ _
      | exact gf2_Common.mono _ _ _
      | exact gf2_Over.mono _ _ _
      | exact shuttlelaw03_polys.mono _
      | exact shuttleref03_Times.mono _ _ _
      | exact LeO.none _
      | refine LeO.ite ?_ ?_
      | refine LeO.bind ?_ (fun _ => ?_)
set_option maxHeartbeats 8000000 in
set_option maxRecDepth 100000 in
theorem shuttlelaw03_Gf2Common.calls (k : Nat) (a0 : Int) (a1 : Int) (a2 : Int) (r : Bool) (w : World) (hT : Aside0 (TabOk w)) (h : shuttlelaw03_Gf2Common.f k a0 a1 a2 = some r) :
    Calls Tryd.prog 4 #[.int .u64 a0, .int .u64 a1, .int .u64 a2] w fun e w' => e = .returned (.bool r) ∧ Drawn0 w w' := by
  have H : ((gf2_Common.f k (Int.tmod a0 1048576) (Int.tmod a1 1048576)).bind fun t128 => ((shuttlelaw03_polys.f k).bind fun t129 => (if t129 = true then (if (Int.tmod a0 1048576) = 0 then (shuttlelaw03_Gf2Common.j0 k (Int.tmod a0 1048576) (Int.tmod a1 1048576) (Int.tmod a2 1048576) t128 ((t128 == 0) != ((Int.tmod a1 1048576) == 0))) else (shuttlelaw03_Gf2Common.j0 k (Int.tmod a0 1048576) (Int.tmod a1 1048576) (Int.tmod a2 1048576) t128 ((t128 == 0) != false))) else (shuttlelaw03_Gf2Common.j0 k (Int.tmod a0 1048576) (Int.tmod a1 1048576) (Int.tmod a2 1048576) t128 true)))) = some r := h
  clear h
  replace H := Option.bind_eq_some_iff.mp H
  obtain ⟨t128, A40, H⟩ := H
  replace H : ((shuttlelaw03_polys.f k).bind fun t129 => (if t129 = true then (if (Int.tmod a0 1048576) = 0 then (shuttlelaw03_Gf2Common.j0 k (Int.tmod a0 1048576) (Int.tmod a1 1048576) (Int.tmod a2 1048576) t128 ((t128 == 0) != ((Int.tmod a1 1048576) == 0))) else (shuttlelaw03_Gf2Common.j0 k (Int.tmod a0 1048576) (Int.tmod a1 1048576) (Int.tmod a2 1048576) t128 ((t128 == 0) != false))) else (shuttlelaw03_Gf2Common.j0 k (Int.tmod a0 1048576) (Int.tmod a1 1048576) (Int.tmod a2 1048576) t128 true))) = some r := H
  have A4 := Aside0.mk A40
  clear A40
  have HC5 := Aside0.mk H
  clear H
  go_enter Tryd.func4, Tryd.ntmps4
  go_upto_region 3 with (first | ((with_reducible refine gate_callee (f := 12) rfl ?_); refine goesL_ (some 29) rfl rfl Tryd.func12 (by kernel_rfl) rfl #[.int .u64 (Int.tmod a0 1048576), .int .u64 (Int.tmod a1 1048576)] rfl (by (try simp only [List.map_toArray, List.map_cons, List.map_nil]); first | done | rfl | (simp only [List.length_drop, List.length_take]; rfl)) ?_; (with_reducible refine (gf2_Common.calls k (Int.tmod a0 1048576) (Int.tmod a1 1048576) t128 _ A4.out).mono ?_); rintro e w' ⟨rfl, ⟨nd, rfl⟩⟩; refine ⟨_, rfl, ?_⟩))
  (try simp only [Act.put, List.setIfInBounds_toArray, List.set_cons_zero, List.set_cons_succ])
  go_cut [42] (fun v42 wc => ∃ (kq : Nat) (x42_4 : Bool), v42 = .bool x42_4 ∧ Aside0 (shuttlelaw03_Gf2Common.j0 kq (Int.tmod a0 1048576) (Int.tmod a1 1048576) (Int.tmod a2 1048576) t128 x42_4 = some r) ∧ Aside0 (kq ≤ k) ∧ Drawn0 w wc)
  case first =>
    have H := HC5.out
    clear HC5
    replace H := Option.bind_eq_some_iff.mp H
    obtain ⟨t129, A60, H⟩ := H
    replace H : (if t129 = true then (if (Int.tmod a0 1048576) = 0 then (shuttlelaw03_Gf2Common.j0 k (Int.tmod a0 1048576) (Int.tmod a1 1048576) (Int.tmod a2 1048576) t128 ((t128 == 0) != ((Int.tmod a1 1048576) == 0))) else (shuttlelaw03_Gf2Common.j0 k (Int.tmod a0 1048576) (Int.tmod a1 1048576) (Int.tmod a2 1048576) t128 ((t128 == 0) != false))) else (shuttlelaw03_Gf2Common.j0 k (Int.tmod a0 1048576) (Int.tmod a1 1048576) (Int.tmod a2 1048576) t128 true)) = some r := H
    have A6 := Aside0.mk A60
    clear A60
    by_cases c7 : t129 = true
    · subst c7
      have H1 : (if (Int.tmod a0 1048576) = 0 then (shuttlelaw03_Gf2Common.j0 k (Int.tmod a0 1048576) (Int.tmod a1 1048576) (Int.tmod a2 1048576) t128 ((t128 == 0) != ((Int.tmod a1 1048576) == 0))) else (shuttlelaw03_Gf2Common.j0 k (Int.tmod a0 1048576) (Int.tmod a1 1048576) (Int.tmod a2 1048576) t128 ((t128 == 0) != false))) = some r := by rw [if_pos rfl] at H; exact H
      clear H
      have H := H1
      clear H1
      by_cases c8 : (Int.tmod a0 1048576) = 0
      · rw [if_pos c8] at H
        have c8b0 : ((Int.tmod a0 1048576) == 0) = true := beq_iff_eq.mpr c8
        have c8b1 : ((Int.tmod a0 1048576) != 0) = false := bne_eq_false_iff_eq.mpr c8
        clear c8
        (first | rw [c8b0] | (simp only [i64_w, i32_w]; rw [c8b0]) | skip)
        have H' := Aside0.mk H
        clear H
        go_wp2_with (first | ((with_reducible refine gate_callee (f := 9) rfl ?_); refine goesL_ (some 30) rfl rfl Tryd.func9 (by kernel_rfl) rfl #[] rfl (by (try simp only [List.map_toArray, List.map_cons, List.map_nil]); first | done | rfl | (simp only [List.length_drop, List.length_take]; rfl)) ?_; (with_reducible refine (shuttlelaw03_polys.calls k  true _ (by repeat (first | exact hT | apply TabA.drewN | apply TabA.drew | apply TabA.alloc)) A6.out).mono ?_); rintro e w' ⟨rfl, ⟨nd, rfl⟩⟩; refine ⟨_, rfl, ?_⟩))
        go_meet
        case rel => exact ⟨_, (((t128 == 0) != ((Int.tmod a1 1048576) == 0))), (by first | rfl | (simp; done) | (simp [*]; done)), H', ⟨by first | omega | exact Nat.le_refl _⟩, by repeat (first | exact Drawn0.refl _ | apply Drawn0.step)⟩
      · rw [if_neg c8] at H
        have c8b0 : ((Int.tmod a0 1048576) == 0) = false := beq_eq_false_iff_ne.mpr c8
        have c8b1 : ((Int.tmod a0 1048576) != 0) = true := bne_iff_ne.mpr c8
        (first | rw [c8b0] | (simp only [i64_w, i32_w]; rw [c8b0]) | skip)
        have H' := Aside0.mk H
        clear H
        go_wp2_with (first | ((with_reducible refine gate_callee (f := 9) rfl ?_); refine goesL_ (some 30) rfl rfl Tryd.func9 (by kernel_rfl) rfl #[] rfl (by (try simp only [List.map_toArray, List.map_cons, List.map_nil]); first | done | rfl | (simp only [List.length_drop, List.length_take]; rfl)) ?_; (with_reducible refine (shuttlelaw03_polys.calls k  true _ (by repeat (first | exact hT | apply TabA.drewN | apply TabA.drew | apply TabA.alloc)) A6.out).mono ?_); rintro e w' ⟨rfl, ⟨nd, rfl⟩⟩; refine ⟨_, rfl, ?_⟩))
        go_meet
        case rel => exact ⟨_, (((t128 == 0) != false)), (by first | rfl | (simp; done) | (simp [*]; done)), H', ⟨by first | omega | exact Nat.le_refl _⟩, by repeat (first | exact Drawn0.refl _ | apply Drawn0.step)⟩
    · replace c7 := Bool.eq_false_iff.mpr c7
      subst c7
      have H1 : (shuttlelaw03_Gf2Common.j0 k (Int.tmod a0 1048576) (Int.tmod a1 1048576) (Int.tmod a2 1048576) t128 true) = some r := by rw [if_neg (show ¬ (false = true) by decide)] at H; exact H
      clear H
      have H := H1
      clear H1
      have H' := Aside0.mk H
      clear H
      go_wp2_with (first | ((with_reducible refine gate_callee (f := 9) rfl ?_); refine goesL_ (some 30) rfl rfl Tryd.func9 (by kernel_rfl) rfl #[] rfl (by (try simp only [List.map_toArray, List.map_cons, List.map_nil]); first | done | rfl | (simp only [List.length_drop, List.length_take]; rfl)) ?_; (with_reducible refine (shuttlelaw03_polys.calls k  false _ (by repeat (first | exact hT | apply TabA.drewN | apply TabA.drew | apply TabA.alloc)) A6.out).mono ?_); rintro e w' ⟨rfl, ⟨nd, rfl⟩⟩; refine ⟨_, rfl, ?_⟩))
      go_meet
      case rel => exact ⟨_, (true), (by first | rfl | (simp; done) | (simp [*]; done)), H', ⟨by first | omega | exact Nat.le_refl _⟩, by repeat (first | exact Drawn0.refl _ | apply Drawn0.step)⟩
  case rest =>
    clear HC5
    try clear c1
    try clear p2
    try clear c4
    try clear c7
    try clear c8
    try clear c8b0
    try clear c8b1
    obtain ⟨kq, x42_4, rfl, HA, HJ4, ⟨mc4, rfl⟩⟩ := hcut
    cases kq with
    | zero => exact absurd HA.out (by simp [shuttlelaw03_Gf2Common.j0])
    | succ kj4 =>
      have H := HA.out
      clear HA
      simp only [shuttlelaw03_Gf2Common.j0] at H
      by_cases c9 : x42_4 = true
      · subst c9
        have H1 : (some false) = some r := by rw [if_pos rfl] at H; exact H
        clear H
        have H := H1
        clear H1
        obtain rfl := Option.some.inj H
        go_wp2
        go_ret
        exact ⟨by first | rfl | (simp; done) | (simp [*]; done), by repeat (first | exact Drawn0.refl _ | apply Drawn0.step)⟩
      · replace c9 := Bool.eq_false_iff.mpr c9
        subst c9
        have H1 : (if t128 = 0 then (some true) else ((gf2_Over.f kj4 (Int.tmod a0 1048576) t128).bind fun bt130 => ((gf2_Over.f kj4 (Int.tmod a1 1048576) t128).bind fun bt133 => ((shuttleref03_Times.f kj4 (Int.tmod a0 1048576) (Int.tmod a2 1048576)).bind fun bt136 => ((shuttleref03_Times.f kj4 (Int.tmod a1 1048576) (Int.tmod a2 1048576)).bind fun bt138 => ((gf2_Common.f kj4 bt136.1 bt138.1).bind fun t140 => ((shuttleref03_Times.f kj4 t128 (Int.tmod a2 1048576)).bind fun bt141 => (if bt130.2.2 = true then (if bt133.2.2 = true then (if bt130.2.1 = 0 then (if bt133.2.1 = 0 then (some (t140 == bt141.1)) else (some false)) else (some false)) else (some false)) else (some false))))))))) = some r := by rw [if_neg (show ¬ (false = true) by decide)] at H; exact H
        clear H
        have H := H1
        clear H1
        by_cases c10 : t128 = 0
        · rw [if_pos c10] at H
          have c10b0 : (t128 == 0) = true := beq_iff_eq.mpr c10
          have c10b1 : (t128 != 0) = false := bne_eq_false_iff_eq.mpr c10
          clear c10
          obtain rfl := Option.some.inj H
          go_wp2
          go_ret
          exact ⟨by first | rfl | (simp; done) | (simp [*]; done), by repeat (first | exact Drawn0.refl _ | apply Drawn0.step)⟩
        · rw [if_neg c10] at H
          have c10b0 : (t128 == 0) = false := beq_eq_false_iff_ne.mpr c10
          have c10b1 : (t128 != 0) = true := bne_iff_ne.mpr c10
          replace H := Option.bind_eq_some_iff.mp H
          obtain ⟨⟨t130, t131, t132⟩, A110, H⟩ := H
          replace H : ((gf2_Over.f kj4 (Int.tmod a1 1048576) t128).bind fun bt133 => ((shuttleref03_Times.f kj4 (Int.tmod a0 1048576) (Int.tmod a2 1048576)).bind fun bt136 => ((shuttleref03_Times.f kj4 (Int.tmod a1 1048576) (Int.tmod a2 1048576)).bind fun bt138 => ((gf2_Common.f kj4 bt136.1 bt138.1).bind fun t140 => ((shuttleref03_Times.f kj4 t128 (Int.tmod a2 1048576)).bind fun bt141 => (if t132 = true then (if bt133.2.2 = true then (if t131 = 0 then (if bt133.2.1 = 0 then (some (t140 == bt141.1)) else (some false)) else (some false)) else (some false)) else (some false))))))) = some r := H
          have A11 := Aside0.mk A110
          clear A110
          replace H := Option.bind_eq_some_iff.mp H
          obtain ⟨⟨t133, t134, t135⟩, A120, H⟩ := H
          replace H : ((shuttleref03_Times.f kj4 (Int.tmod a0 1048576) (Int.tmod a2 1048576)).bind fun bt136 => ((shuttleref03_Times.f kj4 (Int.tmod a1 1048576) (Int.tmod a2 1048576)).bind fun bt138 => ((gf2_Common.f kj4 bt136.1 bt138.1).bind fun t140 => ((shuttleref03_Times.f kj4 t128 (Int.tmod a2 1048576)).bind fun bt141 => (if t132 = true then (if t135 = true then (if t131 = 0 then (if t134 = 0 then (some (t140 == bt141.1)) else (some false)) else (some false)) else (some false)) else (some false)))))) = some r := H
          have A12 := Aside0.mk A120
          clear A120
          replace H := Option.bind_eq_some_iff.mp H
          obtain ⟨⟨t136, t137⟩, A130, H⟩ := H
          replace H : ((shuttleref03_Times.f kj4 (Int.tmod a1 1048576) (Int.tmod a2 1048576)).bind fun bt138 => ((gf2_Common.f kj4 t136 bt138.1).bind fun t140 => ((shuttleref03_Times.f kj4 t128 (Int.tmod a2 1048576)).bind fun bt141 => (if t132 = true then (if t135 = true then (if t131 = 0 then (if t134 = 0 then (some (t140 == bt141.1)) else (some false)) else (some false)) else (some false)) else (some false))))) = some r := H
          have A13 := Aside0.mk A130
          clear A130
          replace H := Option.bind_eq_some_iff.mp H
          obtain ⟨⟨t138, t139⟩, A140, H⟩ := H
          replace H : ((gf2_Common.f kj4 t136 t138).bind fun t140 => ((shuttleref03_Times.f kj4 t128 (Int.tmod a2 1048576)).bind fun bt141 => (if t132 = true then (if t135 = true then (if t131 = 0 then (if t134 = 0 then (some (t140 == bt141.1)) else (some false)) else (some false)) else (some false)) else (some false)))) = some r := H
          have A14 := Aside0.mk A140
          clear A140
          replace H := Option.bind_eq_some_iff.mp H
          obtain ⟨t140, A150, H⟩ := H
          replace H : ((shuttleref03_Times.f kj4 t128 (Int.tmod a2 1048576)).bind fun bt141 => (if t132 = true then (if t135 = true then (if t131 = 0 then (if t134 = 0 then (some (t140 == bt141.1)) else (some false)) else (some false)) else (some false)) else (some false))) = some r := H
          have A15 := Aside0.mk A150
          clear A150
          replace H := Option.bind_eq_some_iff.mp H
          obtain ⟨⟨t141, t142⟩, A160, H⟩ := H
          replace H : (if t132 = true then (if t135 = true then (if t131 = 0 then (if t134 = 0 then (some (t140 == t141)) else (some false)) else (some false)) else (some false)) else (some false)) = some r := H
          have A16 := Aside0.mk A160
          clear A160
          by_cases c17 : t132 = true
          · subst c17
            have H1 : (if t135 = true then (if t131 = 0 then (if t134 = 0 then (some (t140 == t141)) else (some false)) else (some false)) else (some false)) = some r := by rw [if_pos rfl] at H; exact H
            clear H
            have H := H1
            clear H1
            by_cases c18 : t135 = true
            · subst c18
              have H1 : (if t131 = 0 then (if t134 = 0 then (some (t140 == t141)) else (some false)) else (some false)) = some r := by rw [if_pos rfl] at H; exact H
              clear H
              have H := H1
              clear H1
              by_cases c19 : t131 = 0
              · rw [if_pos c19] at H
                have c19b0 : (t131 == 0) = true := beq_iff_eq.mpr c19
                have c19b1 : (t131 != 0) = false := bne_eq_false_iff_eq.mpr c19
                clear c19
                by_cases c20 : t134 = 0
                · rw [if_pos c20] at H
                  have c20b0 : (t134 == 0) = true := beq_iff_eq.mpr c20
                  have c20b1 : (t134 != 0) = false := bne_eq_false_iff_eq.mpr c20
                  clear c20
                  obtain rfl := Option.some.inj H
                  go_wp2_with (first | ((with_reducible refine gate_callee (f := 8) rfl ?_); refine goesL_ (some 48) rfl rfl Tryd.func8 (by kernel_rfl) rfl #[.int .u64 (Int.tmod a0 1048576), .int .u64 t128] rfl (by (try simp only [List.map_toArray, List.map_cons, List.map_nil]); first | done | rfl | (simp only [List.length_drop, List.length_take]; rfl)) ?_; (with_reducible refine (gf2_Over.calls kj4 (Int.tmod a0 1048576) t128 t130 t131 true _ A11.out).mono ?_); rintro e w' ⟨rfl, ⟨nd, rfl⟩⟩; refine ⟨_, rfl, ?_⟩) | ((with_reducible refine gate_callee (f := 8) rfl ?_); refine goesL_ (some 55) rfl rfl Tryd.func8 (by kernel_rfl) rfl #[.int .u64 (Int.tmod a1 1048576), .int .u64 t128] rfl (by (try simp only [List.map_toArray, List.map_cons, List.map_nil]); first | done | rfl | (simp only [List.length_drop, List.length_take]; rfl)) ?_; (with_reducible refine (gf2_Over.calls kj4 (Int.tmod a1 1048576) t128 t133 t134 true _ A12.out).mono ?_); rintro e w' ⟨rfl, ⟨nd, rfl⟩⟩; refine ⟨_, rfl, ?_⟩) | ((with_reducible refine gate_callee (f := 10) rfl ?_); refine goesL_ (some 62) rfl rfl Tryd.func10 (by kernel_rfl) rfl #[.int .u64 (Int.tmod a0 1048576), .int .u64 (Int.tmod a2 1048576)] rfl (by (try simp only [List.map_toArray, List.map_cons, List.map_nil]); first | done | rfl | (simp only [List.length_drop, List.length_take]; rfl)) ?_; (with_reducible refine (shuttleref03_Times.calls kj4 (Int.tmod a0 1048576) (Int.tmod a2 1048576) t136 t137 _ A13.out).mono ?_); rintro e w' ⟨rfl, ⟨nd, rfl⟩⟩; refine ⟨_, rfl, ?_⟩) | ((with_reducible refine gate_callee (f := 10) rfl ?_); refine goesL_ (some 68) rfl rfl Tryd.func10 (by kernel_rfl) rfl #[.int .u64 (Int.tmod a1 1048576), .int .u64 (Int.tmod a2 1048576)] rfl (by (try simp only [List.map_toArray, List.map_cons, List.map_nil]); first | done | rfl | (simp only [List.length_drop, List.length_take]; rfl)) ?_; (with_reducible refine (shuttleref03_Times.calls kj4 (Int.tmod a1 1048576) (Int.tmod a2 1048576) t138 t139 _ A14.out).mono ?_); rintro e w' ⟨rfl, ⟨nd, rfl⟩⟩; refine ⟨_, rfl, ?_⟩) | ((with_reducible refine gate_callee (f := 12) rfl ?_); refine goesL_ (some 73) rfl rfl Tryd.func12 (by kernel_rfl) rfl #[.int .u64 t136, .int .u64 t138] rfl (by (try simp only [List.map_toArray, List.map_cons, List.map_nil]); first | done | rfl | (simp only [List.length_drop, List.length_take]; rfl)) ?_; (with_reducible refine (gf2_Common.calls kj4 t136 t138 t140 _ A15.out).mono ?_); rintro e w' ⟨rfl, ⟨nd, rfl⟩⟩; refine ⟨_, rfl, ?_⟩) | ((with_reducible refine gate_callee (f := 10) rfl ?_); refine goesL_ (some 77) rfl rfl Tryd.func10 (by kernel_rfl) rfl #[.int .u64 t128, .int .u64 (Int.tmod a2 1048576)] rfl (by (try simp only [List.map_toArray, List.map_cons, List.map_nil]); first | done | rfl | (simp only [List.length_drop, List.length_take]; rfl)) ?_; (with_reducible refine (shuttleref03_Times.calls kj4 t128 (Int.tmod a2 1048576) t141 t142 _ A16.out).mono ?_); rintro e w' ⟨rfl, ⟨nd, rfl⟩⟩; refine ⟨_, rfl, ?_⟩))
                  go_ret
                  exact ⟨by first | rfl | (simp; done) | (simp [*]; done), by repeat (first | exact Drawn0.refl _ | apply Drawn0.step)⟩
                · rw [if_neg c20] at H
                  have c20b0 : (t134 == 0) = false := beq_eq_false_iff_ne.mpr c20
                  have c20b1 : (t134 != 0) = true := bne_iff_ne.mpr c20
                  obtain rfl := Option.some.inj H
                  go_wp2_with (first | ((with_reducible refine gate_callee (f := 8) rfl ?_); refine goesL_ (some 48) rfl rfl Tryd.func8 (by kernel_rfl) rfl #[.int .u64 (Int.tmod a0 1048576), .int .u64 t128] rfl (by (try simp only [List.map_toArray, List.map_cons, List.map_nil]); first | done | rfl | (simp only [List.length_drop, List.length_take]; rfl)) ?_; (with_reducible refine (gf2_Over.calls kj4 (Int.tmod a0 1048576) t128 t130 t131 true _ A11.out).mono ?_); rintro e w' ⟨rfl, ⟨nd, rfl⟩⟩; refine ⟨_, rfl, ?_⟩) | ((with_reducible refine gate_callee (f := 8) rfl ?_); refine goesL_ (some 55) rfl rfl Tryd.func8 (by kernel_rfl) rfl #[.int .u64 (Int.tmod a1 1048576), .int .u64 t128] rfl (by (try simp only [List.map_toArray, List.map_cons, List.map_nil]); first | done | rfl | (simp only [List.length_drop, List.length_take]; rfl)) ?_; (with_reducible refine (gf2_Over.calls kj4 (Int.tmod a1 1048576) t128 t133 t134 true _ A12.out).mono ?_); rintro e w' ⟨rfl, ⟨nd, rfl⟩⟩; refine ⟨_, rfl, ?_⟩) | ((with_reducible refine gate_callee (f := 10) rfl ?_); refine goesL_ (some 62) rfl rfl Tryd.func10 (by kernel_rfl) rfl #[.int .u64 (Int.tmod a0 1048576), .int .u64 (Int.tmod a2 1048576)] rfl (by (try simp only [List.map_toArray, List.map_cons, List.map_nil]); first | done | rfl | (simp only [List.length_drop, List.length_take]; rfl)) ?_; (with_reducible refine (shuttleref03_Times.calls kj4 (Int.tmod a0 1048576) (Int.tmod a2 1048576) t136 t137 _ A13.out).mono ?_); rintro e w' ⟨rfl, ⟨nd, rfl⟩⟩; refine ⟨_, rfl, ?_⟩) | ((with_reducible refine gate_callee (f := 10) rfl ?_); refine goesL_ (some 68) rfl rfl Tryd.func10 (by kernel_rfl) rfl #[.int .u64 (Int.tmod a1 1048576), .int .u64 (Int.tmod a2 1048576)] rfl (by (try simp only [List.map_toArray, List.map_cons, List.map_nil]); first | done | rfl | (simp only [List.length_drop, List.length_take]; rfl)) ?_; (with_reducible refine (shuttleref03_Times.calls kj4 (Int.tmod a1 1048576) (Int.tmod a2 1048576) t138 t139 _ A14.out).mono ?_); rintro e w' ⟨rfl, ⟨nd, rfl⟩⟩; refine ⟨_, rfl, ?_⟩) | ((with_reducible refine gate_callee (f := 12) rfl ?_); refine goesL_ (some 73) rfl rfl Tryd.func12 (by kernel_rfl) rfl #[.int .u64 t136, .int .u64 t138] rfl (by (try simp only [List.map_toArray, List.map_cons, List.map_nil]); first | done | rfl | (simp only [List.length_drop, List.length_take]; rfl)) ?_; (with_reducible refine (gf2_Common.calls kj4 t136 t138 t140 _ A15.out).mono ?_); rintro e w' ⟨rfl, ⟨nd, rfl⟩⟩; refine ⟨_, rfl, ?_⟩) | ((with_reducible refine gate_callee (f := 10) rfl ?_); refine goesL_ (some 77) rfl rfl Tryd.func10 (by kernel_rfl) rfl #[.int .u64 t128, .int .u64 (Int.tmod a2 1048576)] rfl (by (try simp only [List.map_toArray, List.map_cons, List.map_nil]); first | done | rfl | (simp only [List.length_drop, List.length_take]; rfl)) ?_; (with_reducible refine (shuttleref03_Times.calls kj4 t128 (Int.tmod a2 1048576) t141 t142 _ A16.out).mono ?_); rintro e w' ⟨rfl, ⟨nd, rfl⟩⟩; refine ⟨_, rfl, ?_⟩))
                  go_ret
                  exact ⟨by first | rfl | (simp; done) | (simp [*]; done), by repeat (first | exact Drawn0.refl _ | apply Drawn0.step)⟩
              · rw [if_neg c19] at H
                have c19b0 : (t131 == 0) = false := beq_eq_false_iff_ne.mpr c19
                have c19b1 : (t131 != 0) = true := bne_iff_ne.mpr c19
                obtain rfl := Option.some.inj H
                go_wp2_with (first | ((with_reducible refine gate_callee (f := 8) rfl ?_); refine goesL_ (some 48) rfl rfl Tryd.func8 (by kernel_rfl) rfl #[.int .u64 (Int.tmod a0 1048576), .int .u64 t128] rfl (by (try simp only [List.map_toArray, List.map_cons, List.map_nil]); first | done | rfl | (simp only [List.length_drop, List.length_take]; rfl)) ?_; (with_reducible refine (gf2_Over.calls kj4 (Int.tmod a0 1048576) t128 t130 t131 true _ A11.out).mono ?_); rintro e w' ⟨rfl, ⟨nd, rfl⟩⟩; refine ⟨_, rfl, ?_⟩) | ((with_reducible refine gate_callee (f := 8) rfl ?_); refine goesL_ (some 55) rfl rfl Tryd.func8 (by kernel_rfl) rfl #[.int .u64 (Int.tmod a1 1048576), .int .u64 t128] rfl (by (try simp only [List.map_toArray, List.map_cons, List.map_nil]); first | done | rfl | (simp only [List.length_drop, List.length_take]; rfl)) ?_; (with_reducible refine (gf2_Over.calls kj4 (Int.tmod a1 1048576) t128 t133 t134 true _ A12.out).mono ?_); rintro e w' ⟨rfl, ⟨nd, rfl⟩⟩; refine ⟨_, rfl, ?_⟩) | ((with_reducible refine gate_callee (f := 10) rfl ?_); refine goesL_ (some 62) rfl rfl Tryd.func10 (by kernel_rfl) rfl #[.int .u64 (Int.tmod a0 1048576), .int .u64 (Int.tmod a2 1048576)] rfl (by (try simp only [List.map_toArray, List.map_cons, List.map_nil]); first | done | rfl | (simp only [List.length_drop, List.length_take]; rfl)) ?_; (with_reducible refine (shuttleref03_Times.calls kj4 (Int.tmod a0 1048576) (Int.tmod a2 1048576) t136 t137 _ A13.out).mono ?_); rintro e w' ⟨rfl, ⟨nd, rfl⟩⟩; refine ⟨_, rfl, ?_⟩) | ((with_reducible refine gate_callee (f := 10) rfl ?_); refine goesL_ (some 68) rfl rfl Tryd.func10 (by kernel_rfl) rfl #[.int .u64 (Int.tmod a1 1048576), .int .u64 (Int.tmod a2 1048576)] rfl (by (try simp only [List.map_toArray, List.map_cons, List.map_nil]); first | done | rfl | (simp only [List.length_drop, List.length_take]; rfl)) ?_; (with_reducible refine (shuttleref03_Times.calls kj4 (Int.tmod a1 1048576) (Int.tmod a2 1048576) t138 t139 _ A14.out).mono ?_); rintro e w' ⟨rfl, ⟨nd, rfl⟩⟩; refine ⟨_, rfl, ?_⟩) | ((with_reducible refine gate_callee (f := 12) rfl ?_); refine goesL_ (some 73) rfl rfl Tryd.func12 (by kernel_rfl) rfl #[.int .u64 t136, .int .u64 t138] rfl (by (try simp only [List.map_toArray, List.map_cons, List.map_nil]); first | done | rfl | (simp only [List.length_drop, List.length_take]; rfl)) ?_; (with_reducible refine (gf2_Common.calls kj4 t136 t138 t140 _ A15.out).mono ?_); rintro e w' ⟨rfl, ⟨nd, rfl⟩⟩; refine ⟨_, rfl, ?_⟩) | ((with_reducible refine gate_callee (f := 10) rfl ?_); refine goesL_ (some 77) rfl rfl Tryd.func10 (by kernel_rfl) rfl #[.int .u64 t128, .int .u64 (Int.tmod a2 1048576)] rfl (by (try simp only [List.map_toArray, List.map_cons, List.map_nil]); first | done | rfl | (simp only [List.length_drop, List.length_take]; rfl)) ?_; (with_reducible refine (shuttleref03_Times.calls kj4 t128 (Int.tmod a2 1048576) t141 t142 _ A16.out).mono ?_); rintro e w' ⟨rfl, ⟨nd, rfl⟩⟩; refine ⟨_, rfl, ?_⟩))
                go_ret
                exact ⟨by first | rfl | (simp; done) | (simp [*]; done), by repeat (first | exact Drawn0.refl _ | apply Drawn0.step)⟩
            · replace c18 := Bool.eq_false_iff.mpr c18
              subst c18
              have H1 : (some false) = some r := by rw [if_neg (show ¬ (false = true) by decide)] at H; exact H
              clear H
              have H := H1
              clear H1
              obtain rfl := Option.some.inj H
              go_wp2_with (first | ((with_reducible refine gate_callee (f := 8) rfl ?_); refine goesL_ (some 48) rfl rfl Tryd.func8 (by kernel_rfl) rfl #[.int .u64 (Int.tmod a0 1048576), .int .u64 t128] rfl (by (try simp only [List.map_toArray, List.map_cons, List.map_nil]); first | done | rfl | (simp only [List.length_drop, List.length_take]; rfl)) ?_; (with_reducible refine (gf2_Over.calls kj4 (Int.tmod a0 1048576) t128 t130 t131 true _ A11.out).mono ?_); rintro e w' ⟨rfl, ⟨nd, rfl⟩⟩; refine ⟨_, rfl, ?_⟩) | ((with_reducible refine gate_callee (f := 8) rfl ?_); refine goesL_ (some 55) rfl rfl Tryd.func8 (by kernel_rfl) rfl #[.int .u64 (Int.tmod a1 1048576), .int .u64 t128] rfl (by (try simp only [List.map_toArray, List.map_cons, List.map_nil]); first | done | rfl | (simp only [List.length_drop, List.length_take]; rfl)) ?_; (with_reducible refine (gf2_Over.calls kj4 (Int.tmod a1 1048576) t128 t133 t134 false _ A12.out).mono ?_); rintro e w' ⟨rfl, ⟨nd, rfl⟩⟩; refine ⟨_, rfl, ?_⟩) | ((with_reducible refine gate_callee (f := 10) rfl ?_); refine goesL_ (some 62) rfl rfl Tryd.func10 (by kernel_rfl) rfl #[.int .u64 (Int.tmod a0 1048576), .int .u64 (Int.tmod a2 1048576)] rfl (by (try simp only [List.map_toArray, List.map_cons, List.map_nil]); first | done | rfl | (simp only [List.length_drop, List.length_take]; rfl)) ?_; (with_reducible refine (shuttleref03_Times.calls kj4 (Int.tmod a0 1048576) (Int.tmod a2 1048576) t136 t137 _ A13.out).mono ?_); rintro e w' ⟨rfl, ⟨nd, rfl⟩⟩; refine ⟨_, rfl, ?_⟩) | ((with_reducible refine gate_callee (f := 10) rfl ?_); refine goesL_ (some 68) rfl rfl Tryd.func10 (by kernel_rfl) rfl #[.int .u64 (Int.tmod a1 1048576), .int .u64 (Int.tmod a2 1048576)] rfl (by (try simp only [List.map_toArray, List.map_cons, List.map_nil]); first | done | rfl | (simp only [List.length_drop, List.length_take]; rfl)) ?_; (with_reducible refine (shuttleref03_Times.calls kj4 (Int.tmod a1 1048576) (Int.tmod a2 1048576) t138 t139 _ A14.out).mono ?_); rintro e w' ⟨rfl, ⟨nd, rfl⟩⟩; refine ⟨_, rfl, ?_⟩) | ((with_reducible refine gate_callee (f := 12) rfl ?_); refine goesL_ (some 73) rfl rfl Tryd.func12 (by kernel_rfl) rfl #[.int .u64 t136, .int .u64 t138] rfl (by (try simp only [List.map_toArray, List.map_cons, List.map_nil]); first | done | rfl | (simp only [List.length_drop, List.length_take]; rfl)) ?_; (with_reducible refine (gf2_Common.calls kj4 t136 t138 t140 _ A15.out).mono ?_); rintro e w' ⟨rfl, ⟨nd, rfl⟩⟩; refine ⟨_, rfl, ?_⟩) | ((with_reducible refine gate_callee (f := 10) rfl ?_); refine goesL_ (some 77) rfl rfl Tryd.func10 (by kernel_rfl) rfl #[.int .u64 t128, .int .u64 (Int.tmod a2 1048576)] rfl (by (try simp only [List.map_toArray, List.map_cons, List.map_nil]); first | done | rfl | (simp only [List.length_drop, List.length_take]; rfl)) ?_; (with_reducible refine (shuttleref03_Times.calls kj4 t128 (Int.tmod a2 1048576) t141 t142 _ A16.out).mono ?_); rintro e w' ⟨rfl, ⟨nd, rfl⟩⟩; refine ⟨_, rfl, ?_⟩))
              go_ret
              exact ⟨by first | rfl | (simp; done) | (simp [*]; done), by repeat (first | exact Drawn0.refl _ | apply Drawn0.step)⟩
          · replace c17 := Bool.eq_false_iff.mpr c17
            subst c17
            have H1 : (some false) = some r := by rw [if_neg (show ¬ (false = true) by decide)] at H; exact H
            clear H
            have H := H1
            clear H1
            obtain rfl := Option.some.inj H
            go_wp2_with (first | ((with_reducible refine gate_callee (f := 8) rfl ?_); refine goesL_ (some 48) rfl rfl Tryd.func8 (by kernel_rfl) rfl #[.int .u64 (Int.tmod a0 1048576), .int .u64 t128] rfl (by (try simp only [List.map_toArray, List.map_cons, List.map_nil]); first | done | rfl | (simp only [List.length_drop, List.length_take]; rfl)) ?_; (with_reducible refine (gf2_Over.calls kj4 (Int.tmod a0 1048576) t128 t130 t131 false _ A11.out).mono ?_); rintro e w' ⟨rfl, ⟨nd, rfl⟩⟩; refine ⟨_, rfl, ?_⟩) | ((with_reducible refine gate_callee (f := 8) rfl ?_); refine goesL_ (some 55) rfl rfl Tryd.func8 (by kernel_rfl) rfl #[.int .u64 (Int.tmod a1 1048576), .int .u64 t128] rfl (by (try simp only [List.map_toArray, List.map_cons, List.map_nil]); first | done | rfl | (simp only [List.length_drop, List.length_take]; rfl)) ?_; (with_reducible refine (gf2_Over.calls kj4 (Int.tmod a1 1048576) t128 t133 t134 t135 _ A12.out).mono ?_); rintro e w' ⟨rfl, ⟨nd, rfl⟩⟩; refine ⟨_, rfl, ?_⟩) | ((with_reducible refine gate_callee (f := 10) rfl ?_); refine goesL_ (some 62) rfl rfl Tryd.func10 (by kernel_rfl) rfl #[.int .u64 (Int.tmod a0 1048576), .int .u64 (Int.tmod a2 1048576)] rfl (by (try simp only [List.map_toArray, List.map_cons, List.map_nil]); first | done | rfl | (simp only [List.length_drop, List.length_take]; rfl)) ?_; (with_reducible refine (shuttleref03_Times.calls kj4 (Int.tmod a0 1048576) (Int.tmod a2 1048576) t136 t137 _ A13.out).mono ?_); rintro e w' ⟨rfl, ⟨nd, rfl⟩⟩; refine ⟨_, rfl, ?_⟩) | ((with_reducible refine gate_callee (f := 10) rfl ?_); refine goesL_ (some 68) rfl rfl Tryd.func10 (by kernel_rfl) rfl #[.int .u64 (Int.tmod a1 1048576), .int .u64 (Int.tmod a2 1048576)] rfl (by (try simp only [List.map_toArray, List.map_cons, List.map_nil]); first | done | rfl | (simp only [List.length_drop, List.length_take]; rfl)) ?_; (with_reducible refine (shuttleref03_Times.calls kj4 (Int.tmod a1 1048576) (Int.tmod a2 1048576) t138 t139 _ A14.out).mono ?_); rintro e w' ⟨rfl, ⟨nd, rfl⟩⟩; refine ⟨_, rfl, ?_⟩) | ((with_reducible refine gate_callee (f := 12) rfl ?_); refine goesL_ (some 73) rfl rfl Tryd.func12 (by kernel_rfl) rfl #[.int .u64 t136, .int .u64 t138] rfl (by (try simp only [List.map_toArray, List.map_cons, List.map_nil]); first | done | rfl | (simp only [List.length_drop, List.length_take]; rfl)) ?_; (with_reducible refine (gf2_Common.calls kj4 t136 t138 t140 _ A15.out).mono ?_); rintro e w' ⟨rfl, ⟨nd, rfl⟩⟩; refine ⟨_, rfl, ?_⟩) | ((with_reducible refine gate_callee (f := 10) rfl ?_); refine goesL_ (some 77) rfl rfl Tryd.func10 (by kernel_rfl) rfl #[.int .u64 t128, .int .u64 (Int.tmod a2 1048576)] rfl (by (try simp only [List.map_toArray, List.map_cons, List.map_nil]); first | done | rfl | (simp only [List.length_drop, List.length_take]; rfl)) ?_; (with_reducible refine (shuttleref03_Times.calls kj4 t128 (Int.tmod a2 1048576) t141 t142 _ A16.out).mono ?_); rintro e w' ⟨rfl, ⟨nd, rfl⟩⟩; refine ⟨_, rfl, ?_⟩))
            go_ret
            exact ⟨by first | rfl | (simp; done) | (simp [*]; done), by repeat (first | exact Drawn0.refl _ | apply Drawn0.step)⟩

/-- THE ONE PURE STATEMENT of shuttlelaw03_Gf2Common: yours. -/
def shuttlelaw03_Gf2Common.Pure : Prop := ∀ (a0 : Int) (a1 : Int) (a2 : Int), (Lit.int .u64 a0).wf = true → (Lit.int .u64 a1).wf = true → (Lit.int .u64 a2).wf = true → ∃ k, shuttlelaw03_Gf2Common.f k a0 a1 a2 = some true
theorem shuttlelaw03_Gf2Common.walk (P : shuttlelaw03_Gf2Common.Pure) (a0 : Int) (a1 : Int) (a2 : Int) (w : World) (w0 : (Lit.int .u64 a0).wf = true) (w1 : (Lit.int .u64 a1).wf = true) (w2 : (Lit.int .u64 a2).wf = true) (hT : Aside0 (TabOk w)) :
    Calls Tryd.prog 4 #[.int .u64 a0, .int .u64 a1, .int .u64 a2] w fun e w' => e = .returned (.bool true) ∧ Below w.heap.size w w' := by
  obtain ⟨k, h⟩ := P a0 a1 a2 w0 w1 w2
  refine (shuttlelaw03_Gf2Common.calls k a0 a1 a2 true w hT h).mono ?_
  rintro e w' ⟨rfl, hd⟩
  exact ⟨rfl, hd.below⟩

/-! ### gf2_Add: function 15 -/
def gf2_Add.f (a0 : Int) (a1 : Int) : Option (Int) := some (Go.bits .xor .u64 a0 a1)
set_option maxHeartbeats 8000000 in
set_option maxRecDepth 100000 in
theorem gf2_Add.calls (a0 : Int) (a1 : Int) (r : Int) (w : World) (h : gf2_Add.f a0 a1 = some r) :
    Calls Tryd.prog 15 #[.int .u64 a0, .int .u64 a1] w fun e w' => e = .returned (.int .u64 r) ∧ Drawn0 w w' := by
  have H : (some (Go.bits .xor .u64 a0 a1)) = some r := h
  clear h
  obtain rfl := Option.some.inj H
  go_enter Tryd.func15, Tryd.ntmps15
  go_wp2
  go_ret
  exact ⟨by first | rfl | (simp; done) | (simp [*]; done), by repeat (first | exact Drawn0.refl _ | apply Drawn0.step)⟩

/-! ### shuttlelaw03_Gf2Times: function 5 -/
def shuttlelaw03_Gf2Times.f (k : Nat) (a0 : Int) (a1 : Int) : Option (Bool) := (gf2_Times.f k a0 a1).bind fun bt143 => ((gf2_Times.f k a1 a0).bind fun bt145 => ((shuttleref03_Times.f k a0 a1).bind fun bt147 => ((shuttlelaw03_polys.f k).bind fun t149 => (if t149 = true then ((gf2_Degree.f k a0).bind fun t150 => ((shuttleref03_Degree.f k a0).bind fun t151 => (if t150 = t151 then ((gf2_Add.f a0 a1).bind fun t152 => (if t152 = (Go.bits .xor .u64 a0 a1) then (if bt143.1 = bt147.1 then (if (bt143.2 == bt147.2) = true then (if bt143.1 = bt145.1 then (some (bt143.2 == bt145.2)) else (some false)) else (some false)) else (some false)) else (some false))) else (some false)))) else (some false)))))
theorem shuttlelaw03_Gf2Times.mono : ∀ a0 a1 k, LeO (shuttlelaw03_Gf2Times.f k a0 a1) (shuttlelaw03_Gf2Times.f (k + 1) a0 a1) := by
  intro a0 a1 k
  unfold shuttlelaw03_Gf2Times.f
  repeat' first
      | (with_reducible exact gf2_Degree.mono _ _)
      | (with_reducible exact gf2_Times.mono _ _ _)
      | (with_reducible exact shuttlelaw03_polys.mono _)
      | (with_reducible exact shuttleref03_Degree.mono _ _)
      | (with_reducible exact shuttleref03_Times.mono _ _ _)
      | (with_reducible exact LeO.refl _)
      | (with_reducible exact LeO.none _)
      | (with_reducible refine LeO.ite ?_ ?_)
      | (with_reducible refine LeO.bind ?_ (fun _ => ?_))
      | exact gf2_Degree.mono _ _
      | exact gf2_Times.mono _ _ _
      | exact shuttlelaw03_polys.mono _
      | exact shuttleref03_Degree.mono _ _
      | exact shuttleref03_Times.mono _ _ _
      | exact LeO.none _
      | refine LeO.ite ?_ ?_
      | refine LeO.bind ?_ (fun _ => ?_)
set_option maxHeartbeats 8000000 in
set_option maxRecDepth 100000 in
theorem shuttlelaw03_Gf2Times.calls (k : Nat) (a0 : Int) (a1 : Int) (r : Bool) (w : World) (hT : Aside0 (TabOk w)) (h : shuttlelaw03_Gf2Times.f k a0 a1 = some r) :
    Calls Tryd.prog 5 #[.int .u64 a0, .int .u64 a1] w fun e w' => e = .returned (.bool r) ∧ Drawn0 w w' := by
  have H : ((gf2_Times.f k a0 a1).bind fun bt143 => ((gf2_Times.f k a1 a0).bind fun bt145 => ((shuttleref03_Times.f k a0 a1).bind fun bt147 => ((shuttlelaw03_polys.f k).bind fun t149 => (if t149 = true then ((gf2_Degree.f k a0).bind fun t150 => ((shuttleref03_Degree.f k a0).bind fun t151 => (if t150 = t151 then ((gf2_Add.f a0 a1).bind fun t152 => (if t152 = (Go.bits .xor .u64 a0 a1) then (if bt143.1 = bt147.1 then (if (bt143.2 == bt147.2) = true then (if bt143.1 = bt145.1 then (some (bt143.2 == bt145.2)) else (some false)) else (some false)) else (some false)) else (some false))) else (some false)))) else (some false)))))) = some r := h
  clear h
  replace H := Option.bind_eq_some_iff.mp H
  obtain ⟨⟨t143, t144⟩, A30, H⟩ := H
  replace H : ((gf2_Times.f k a1 a0).bind fun bt145 => ((shuttleref03_Times.f k a0 a1).bind fun bt147 => ((shuttlelaw03_polys.f k).bind fun t149 => (if t149 = true then ((gf2_Degree.f k a0).bind fun t150 => ((shuttleref03_Degree.f k a0).bind fun t151 => (if t150 = t151 then ((gf2_Add.f a0 a1).bind fun t152 => (if t152 = (Go.bits .xor .u64 a0 a1) then (if t143 = bt147.1 then (if (t144 == bt147.2) = true then (if t143 = bt145.1 then (some (t144 == bt145.2)) else (some false)) else (some false)) else (some false)) else (some false))) else (some false)))) else (some false))))) = some r := H
  have A3 := Aside0.mk A30
  clear A30
  replace H := Option.bind_eq_some_iff.mp H
  obtain ⟨⟨t145, t146⟩, A40, H⟩ := H
  replace H : ((shuttleref03_Times.f k a0 a1).bind fun bt147 => ((shuttlelaw03_polys.f k).bind fun t149 => (if t149 = true then ((gf2_Degree.f k a0).bind fun t150 => ((shuttleref03_Degree.f k a0).bind fun t151 => (if t150 = t151 then ((gf2_Add.f a0 a1).bind fun t152 => (if t152 = (Go.bits .xor .u64 a0 a1) then (if t143 = bt147.1 then (if (t144 == bt147.2) = true then (if t143 = t145 then (some (t144 == t146)) else (some false)) else (some false)) else (some false)) else (some false))) else (some false)))) else (some false)))) = some r := H
  have A4 := Aside0.mk A40
  clear A40
  replace H := Option.bind_eq_some_iff.mp H
  obtain ⟨⟨t147, t148⟩, A50, H⟩ := H
  replace H : ((shuttlelaw03_polys.f k).bind fun t149 => (if t149 = true then ((gf2_Degree.f k a0).bind fun t150 => ((shuttleref03_Degree.f k a0).bind fun t151 => (if t150 = t151 then ((gf2_Add.f a0 a1).bind fun t152 => (if t152 = (Go.bits .xor .u64 a0 a1) then (if t143 = t147 then (if (t144 == t148) = true then (if t143 = t145 then (some (t144 == t146)) else (some false)) else (some false)) else (some false)) else (some false))) else (some false)))) else (some false))) = some r := H
  have A5 := Aside0.mk A50
  clear A50
  replace H := Option.bind_eq_some_iff.mp H
  obtain ⟨t149, A60, H⟩ := H
  replace H : (if t149 = true then ((gf2_Degree.f k a0).bind fun t150 => ((shuttleref03_Degree.f k a0).bind fun t151 => (if t150 = t151 then ((gf2_Add.f a0 a1).bind fun t152 => (if t152 = (Go.bits .xor .u64 a0 a1) then (if t143 = t147 then (if (t144 == t148) = true then (if t143 = t145 then (some (t144 == t146)) else (some false)) else (some false)) else (some false)) else (some false))) else (some false)))) else (some false)) = some r := H
  have A6 := Aside0.mk A60
  clear A60
  by_cases c7 : t149 = true
  · subst c7
    have H1 : ((gf2_Degree.f k a0).bind fun t150 => ((shuttleref03_Degree.f k a0).bind fun t151 => (if t150 = t151 then ((gf2_Add.f a0 a1).bind fun t152 => (if t152 = (Go.bits .xor .u64 a0 a1) then (if t143 = t147 then (if (t144 == t148) = true then (if t143 = t145 then (some (t144 == t146)) else (some false)) else (some false)) else (some false)) else (some false))) else (some false)))) = some r := by rw [if_pos rfl] at H; exact H
    clear H
    have H := H1
    clear H1
    replace H := Option.bind_eq_some_iff.mp H
    obtain ⟨t150, A80, H⟩ := H
    replace H : ((shuttleref03_Degree.f k a0).bind fun t151 => (if t150 = t151 then ((gf2_Add.f a0 a1).bind fun t152 => (if t152 = (Go.bits .xor .u64 a0 a1) then (if t143 = t147 then (if (t144 == t148) = true then (if t143 = t145 then (some (t144 == t146)) else (some false)) else (some false)) else (some false)) else (some false))) else (some false))) = some r := H
    have A8 := Aside0.mk A80
    clear A80
    replace H := Option.bind_eq_some_iff.mp H
    obtain ⟨t151, A90, H⟩ := H
    replace H : (if t150 = t151 then ((gf2_Add.f a0 a1).bind fun t152 => (if t152 = (Go.bits .xor .u64 a0 a1) then (if t143 = t147 then (if (t144 == t148) = true then (if t143 = t145 then (some (t144 == t146)) else (some false)) else (some false)) else (some false)) else (some false))) else (some false)) = some r := H
    have A9 := Aside0.mk A90
    clear A90
    by_cases c10 : t150 = t151
    · rw [if_pos c10] at H
      have c10b0 : (t150 == t151) = true := beq_iff_eq.mpr c10
      have c10b1 : (t150 != t151) = false := bne_eq_false_iff_eq.mpr c10
      clear c10
      replace H := Option.bind_eq_some_iff.mp H
      obtain ⟨t152, A110, H⟩ := H
      replace H : (if t152 = (Go.bits .xor .u64 a0 a1) then (if t143 = t147 then (if (t144 == t148) = true then (if t143 = t145 then (some (t144 == t146)) else (some false)) else (some false)) else (some false)) else (some false)) = some r := H
      have A11 := Aside0.mk A110
      clear A110
      by_cases c12 : t152 = (Go.bits .xor .u64 a0 a1)
      · rw [if_pos c12] at H
        have c12b0 : (t152 == (Go.bits .xor .u64 a0 a1)) = true := beq_iff_eq.mpr c12
        have c12b1 : (t152 != (Go.bits .xor .u64 a0 a1)) = false := bne_eq_false_iff_eq.mpr c12
        clear c12
        by_cases c13 : t143 = t147
        · rw [if_pos c13] at H
          have c13b0 : (t143 == t147) = true := beq_iff_eq.mpr c13
          have c13b1 : (t143 != t147) = false := bne_eq_false_iff_eq.mpr c13
          clear c13
          by_cases c14 : (t144 == t148) = true
          · rw [if_pos c14] at H
            have c14b0 : (t144 == t148) = true := c14
            (try (have c14b1 : decide (t144 = t148) = true := by simpa using c14))
            (try (have c14b2 : (t144 == t148) = true := by simpa using c14))
            clear c14
            by_cases c15 : t143 = t145
            · rw [if_pos c15] at H
              have c15b0 : (t143 == t145) = true := beq_iff_eq.mpr c15
              have c15b1 : (t143 != t145) = false := bne_eq_false_iff_eq.mpr c15
              clear c15
              obtain rfl := Option.some.inj H
              go_enter Tryd.func5, Tryd.ntmps5
              go_wp2_with (first | ((with_reducible refine gate_callee (f := 13) rfl ?_); refine goesL_ (some 18) rfl rfl Tryd.func13 (by kernel_rfl) rfl #[.int .u64 a0, .int .u64 a1] rfl (by (try simp only [List.map_toArray, List.map_cons, List.map_nil]); first | done | rfl | (simp only [List.length_drop, List.length_take]; rfl)) ?_; (with_reducible refine (gf2_Times.calls k a0 a1 t143 t144 _ (by repeat (first | exact hT | apply TabA.drewN | apply TabA.drew | apply TabA.alloc)) A3.out).mono ?_); rintro e w' ⟨rfl, ⟨nd, rfl⟩⟩; refine ⟨_, rfl, ?_⟩) | ((with_reducible refine gate_callee (f := 13) rfl ?_); refine goesL_ (some 24) rfl rfl Tryd.func13 (by kernel_rfl) rfl #[.int .u64 a1, .int .u64 a0] rfl (by (try simp only [List.map_toArray, List.map_cons, List.map_nil]); first | done | rfl | (simp only [List.length_drop, List.length_take]; rfl)) ?_; (with_reducible refine (gf2_Times.calls k a1 a0 t145 t146 _ (by repeat (first | exact hT | apply TabA.drewN | apply TabA.drew | apply TabA.alloc)) A4.out).mono ?_); rintro e w' ⟨rfl, ⟨nd, rfl⟩⟩; refine ⟨_, rfl, ?_⟩) | ((with_reducible refine gate_callee (f := 10) rfl ?_); refine goesL_ (some 30) rfl rfl Tryd.func10 (by kernel_rfl) rfl #[.int .u64 a0, .int .u64 a1] rfl (by (try simp only [List.map_toArray, List.map_cons, List.map_nil]); first | done | rfl | (simp only [List.length_drop, List.length_take]; rfl)) ?_; (with_reducible refine (shuttleref03_Times.calls k a0 a1 t147 t148 _ A5.out).mono ?_); rintro e w' ⟨rfl, ⟨nd, rfl⟩⟩; refine ⟨_, rfl, ?_⟩) | ((with_reducible refine gate_callee (f := 9) rfl ?_); refine goesL_ (some 33) rfl rfl Tryd.func9 (by kernel_rfl) rfl #[] rfl (by (try simp only [List.map_toArray, List.map_cons, List.map_nil]); first | done | rfl | (simp only [List.length_drop, List.length_take]; rfl)) ?_; (with_reducible refine (shuttlelaw03_polys.calls k  true _ (by repeat (first | exact hT | apply TabA.drewN | apply TabA.drew | apply TabA.alloc)) A6.out).mono ?_); rintro e w' ⟨rfl, ⟨nd, rfl⟩⟩; refine ⟨_, rfl, ?_⟩) | (go_at_call 14; (with_reducible refine (gf2_Degree.calls k a0 t150 _ A8.out).mono ?_); rintro e w' ⟨rfl, ⟨nd, rfl⟩⟩) | (go_at_call 11; (with_reducible refine (shuttleref03_Degree.calls k a0 t151 _ A9.out).mono ?_); rintro e w' ⟨rfl, ⟨nd, rfl⟩⟩) | (go_at_call 15; (with_reducible refine (gf2_Add.calls a0 a1 t152 _ A11.out).mono ?_); rintro e w' ⟨rfl, ⟨nd, rfl⟩⟩))
              go_ret
              exact ⟨by first | rfl | (simp; done) | (simp [*]; done), by repeat (first | exact Drawn0.refl _ | apply Drawn0.step)⟩
            · rw [if_neg c15] at H
              have c15b0 : (t143 == t145) = false := beq_eq_false_iff_ne.mpr c15
              have c15b1 : (t143 != t145) = true := bne_iff_ne.mpr c15
              obtain rfl := Option.some.inj H
              go_enter Tryd.func5, Tryd.ntmps5
              go_wp2_with (first | ((with_reducible refine gate_callee (f := 13) rfl ?_); refine goesL_ (some 18) rfl rfl Tryd.func13 (by kernel_rfl) rfl #[.int .u64 a0, .int .u64 a1] rfl (by (try simp only [List.map_toArray, List.map_cons, List.map_nil]); first | done | rfl | (simp only [List.length_drop, List.length_take]; rfl)) ?_; (with_reducible refine (gf2_Times.calls k a0 a1 t143 t144 _ (by repeat (first | exact hT | apply TabA.drewN | apply TabA.drew | apply TabA.alloc)) A3.out).mono ?_); rintro e w' ⟨rfl, ⟨nd, rfl⟩⟩; refine ⟨_, rfl, ?_⟩) | ((with_reducible refine gate_callee (f := 13) rfl ?_); refine goesL_ (some 24) rfl rfl Tryd.func13 (by kernel_rfl) rfl #[.int .u64 a1, .int .u64 a0] rfl (by (try simp only [List.map_toArray, List.map_cons, List.map_nil]); first | done | rfl | (simp only [List.length_drop, List.length_take]; rfl)) ?_; (with_reducible refine (gf2_Times.calls k a1 a0 t145 t146 _ (by repeat (first | exact hT | apply TabA.drewN | apply TabA.drew | apply TabA.alloc)) A4.out).mono ?_); rintro e w' ⟨rfl, ⟨nd, rfl⟩⟩; refine ⟨_, rfl, ?_⟩) | ((with_reducible refine gate_callee (f := 10) rfl ?_); refine goesL_ (some 30) rfl rfl Tryd.func10 (by kernel_rfl) rfl #[.int .u64 a0, .int .u64 a1] rfl (by (try simp only [List.map_toArray, List.map_cons, List.map_nil]); first | done | rfl | (simp only [List.length_drop, List.length_take]; rfl)) ?_; (with_reducible refine (shuttleref03_Times.calls k a0 a1 t147 t148 _ A5.out).mono ?_); rintro e w' ⟨rfl, ⟨nd, rfl⟩⟩; refine ⟨_, rfl, ?_⟩) | ((with_reducible refine gate_callee (f := 9) rfl ?_); refine goesL_ (some 33) rfl rfl Tryd.func9 (by kernel_rfl) rfl #[] rfl (by (try simp only [List.map_toArray, List.map_cons, List.map_nil]); first | done | rfl | (simp only [List.length_drop, List.length_take]; rfl)) ?_; (with_reducible refine (shuttlelaw03_polys.calls k  true _ (by repeat (first | exact hT | apply TabA.drewN | apply TabA.drew | apply TabA.alloc)) A6.out).mono ?_); rintro e w' ⟨rfl, ⟨nd, rfl⟩⟩; refine ⟨_, rfl, ?_⟩) | (go_at_call 14; (with_reducible refine (gf2_Degree.calls k a0 t150 _ A8.out).mono ?_); rintro e w' ⟨rfl, ⟨nd, rfl⟩⟩) | (go_at_call 11; (with_reducible refine (shuttleref03_Degree.calls k a0 t151 _ A9.out).mono ?_); rintro e w' ⟨rfl, ⟨nd, rfl⟩⟩) | (go_at_call 15; (with_reducible refine (gf2_Add.calls a0 a1 t152 _ A11.out).mono ?_); rintro e w' ⟨rfl, ⟨nd, rfl⟩⟩))
              go_ret
              exact ⟨by first | rfl | (simp; done) | (simp [*]; done), by repeat (first | exact Drawn0.refl _ | apply Drawn0.step)⟩
          · rw [if_neg c14] at H
            have c14b0 : (t144 == t148) = false := by simpa using c14
            (try (have c14b1 : decide (t144 = t148) = false := by simpa using c14))
            (try (have c14b2 : (t144 == t148) = false := by simpa using c14))
            (try (have c14b3 : ¬ (t144 = t148) := by simpa using c14))
            clear c14
            obtain rfl := Option.some.inj H
            go_enter Tryd.func5, Tryd.ntmps5
            go_wp2_with (first | ((with_reducible refine gate_callee (f := 13) rfl ?_); refine goesL_ (some 18) rfl rfl Tryd.func13 (by kernel_rfl) rfl #[.int .u64 a0, .int .u64 a1] rfl (by (try simp only [List.map_toArray, List.map_cons, List.map_nil]); first | done | rfl | (simp only [List.length_drop, List.length_take]; rfl)) ?_; (with_reducible refine (gf2_Times.calls k a0 a1 t143 t144 _ (by repeat (first | exact hT | apply TabA.drewN | apply TabA.drew | apply TabA.alloc)) A3.out).mono ?_); rintro e w' ⟨rfl, ⟨nd, rfl⟩⟩; refine ⟨_, rfl, ?_⟩) | ((with_reducible refine gate_callee (f := 13) rfl ?_); refine goesL_ (some 24) rfl rfl Tryd.func13 (by kernel_rfl) rfl #[.int .u64 a1, .int .u64 a0] rfl (by (try simp only [List.map_toArray, List.map_cons, List.map_nil]); first | done | rfl | (simp only [List.length_drop, List.length_take]; rfl)) ?_; (with_reducible refine (gf2_Times.calls k a1 a0 t145 t146 _ (by repeat (first | exact hT | apply TabA.drewN | apply TabA.drew | apply TabA.alloc)) A4.out).mono ?_); rintro e w' ⟨rfl, ⟨nd, rfl⟩⟩; refine ⟨_, rfl, ?_⟩) | ((with_reducible refine gate_callee (f := 10) rfl ?_); refine goesL_ (some 30) rfl rfl Tryd.func10 (by kernel_rfl) rfl #[.int .u64 a0, .int .u64 a1] rfl (by (try simp only [List.map_toArray, List.map_cons, List.map_nil]); first | done | rfl | (simp only [List.length_drop, List.length_take]; rfl)) ?_; (with_reducible refine (shuttleref03_Times.calls k a0 a1 t147 t148 _ A5.out).mono ?_); rintro e w' ⟨rfl, ⟨nd, rfl⟩⟩; refine ⟨_, rfl, ?_⟩) | ((with_reducible refine gate_callee (f := 9) rfl ?_); refine goesL_ (some 33) rfl rfl Tryd.func9 (by kernel_rfl) rfl #[] rfl (by (try simp only [List.map_toArray, List.map_cons, List.map_nil]); first | done | rfl | (simp only [List.length_drop, List.length_take]; rfl)) ?_; (with_reducible refine (shuttlelaw03_polys.calls k  true _ (by repeat (first | exact hT | apply TabA.drewN | apply TabA.drew | apply TabA.alloc)) A6.out).mono ?_); rintro e w' ⟨rfl, ⟨nd, rfl⟩⟩; refine ⟨_, rfl, ?_⟩) | (go_at_call 14; (with_reducible refine (gf2_Degree.calls k a0 t150 _ A8.out).mono ?_); rintro e w' ⟨rfl, ⟨nd, rfl⟩⟩) | (go_at_call 11; (with_reducible refine (shuttleref03_Degree.calls k a0 t151 _ A9.out).mono ?_); rintro e w' ⟨rfl, ⟨nd, rfl⟩⟩) | (go_at_call 15; (with_reducible refine (gf2_Add.calls a0 a1 t152 _ A11.out).mono ?_); rintro e w' ⟨rfl, ⟨nd, rfl⟩⟩))
            go_ret
            exact ⟨by first | rfl | (simp; done) | (simp [*]; done), by repeat (first | exact Drawn0.refl _ | apply Drawn0.step)⟩
        · rw [if_neg c13] at H
          have c13b0 : (t143 == t147) = false := beq_eq_false_iff_ne.mpr c13
          have c13b1 : (t143 != t147) = true := bne_iff_ne.mpr c13
          obtain rfl := Option.some.inj H
          go_enter Tryd.func5, Tryd.ntmps5
          go_wp2_with (first | ((with_reducible refine gate_callee (f := 13) rfl ?_); refine goesL_ (some 18) rfl rfl Tryd.func13 (by kernel_rfl) rfl #[.int .u64 a0, .int .u64 a1] rfl (by (try simp only [List.map_toArray, List.map_cons, List.map_nil]); first | done | rfl | (simp only [List.length_drop, List.length_take]; rfl)) ?_; (with_reducible refine (gf2_Times.calls k a0 a1 t143 t144 _ (by repeat (first | exact hT | apply TabA.drewN | apply TabA.drew | apply TabA.alloc)) A3.out).mono ?_); rintro e w' ⟨rfl, ⟨nd, rfl⟩⟩; refine ⟨_, rfl, ?_⟩) | ((with_reducible refine gate_callee (f := 13) rfl ?_); refine goesL_ (some 24) rfl rfl Tryd.func13 (by kernel_rfl) rfl #[.int .u64 a1, .int .u64 a0] rfl (by (try simp only [List.map_toArray, List.map_cons, List.map_nil]); first | done | rfl | (simp only [List.length_drop, List.length_take]; rfl)) ?_; (with_reducible refine (gf2_Times.calls k a1 a0 t145 t146 _ (by repeat (first | exact hT | apply TabA.drewN | apply TabA.drew | apply TabA.alloc)) A4.out).mono ?_); rintro e w' ⟨rfl, ⟨nd, rfl⟩⟩; refine ⟨_, rfl, ?_⟩) | ((with_reducible refine gate_callee (f := 10) rfl ?_); refine goesL_ (some 30) rfl rfl Tryd.func10 (by kernel_rfl) rfl #[.int .u64 a0, .int .u64 a1] rfl (by (try simp only [List.map_toArray, List.map_cons, List.map_nil]); first | done | rfl | (simp only [List.length_drop, List.length_take]; rfl)) ?_; (with_reducible refine (shuttleref03_Times.calls k a0 a1 t147 t148 _ A5.out).mono ?_); rintro e w' ⟨rfl, ⟨nd, rfl⟩⟩; refine ⟨_, rfl, ?_⟩) | ((with_reducible refine gate_callee (f := 9) rfl ?_); refine goesL_ (some 33) rfl rfl Tryd.func9 (by kernel_rfl) rfl #[] rfl (by (try simp only [List.map_toArray, List.map_cons, List.map_nil]); first | done | rfl | (simp only [List.length_drop, List.length_take]; rfl)) ?_; (with_reducible refine (shuttlelaw03_polys.calls k  true _ (by repeat (first | exact hT | apply TabA.drewN | apply TabA.drew | apply TabA.alloc)) A6.out).mono ?_); rintro e w' ⟨rfl, ⟨nd, rfl⟩⟩; refine ⟨_, rfl, ?_⟩) | (go_at_call 14; (with_reducible refine (gf2_Degree.calls k a0 t150 _ A8.out).mono ?_); rintro e w' ⟨rfl, ⟨nd, rfl⟩⟩) | (go_at_call 11; (with_reducible refine (shuttleref03_Degree.calls k a0 t151 _ A9.out).mono ?_); rintro e w' ⟨rfl, ⟨nd, rfl⟩⟩) | (go_at_call 15; (with_reducible refine (gf2_Add.calls a0 a1 t152 _ A11.out).mono ?_); rintro e w' ⟨rfl, ⟨nd, rfl⟩⟩))
          go_ret
          exact ⟨by first | rfl | (simp; done) | (simp [*]; done), by repeat (first | exact Drawn0.refl _ | apply Drawn0.step)⟩
      · rw [if_neg c12] at H
        have c12b0 : (t152 == (Go.bits .xor .u64 a0 a1)) = false := beq_eq_false_iff_ne.mpr c12
        have c12b1 : (t152 != (Go.bits .xor .u64 a0 a1)) = true := bne_iff_ne.mpr c12
        obtain rfl := Option.some.inj H
        go_enter Tryd.func5, Tryd.ntmps5
        go_wp2_with (first | ((with_reducible refine gate_callee (f := 13) rfl ?_); refine goesL_ (some 18) rfl rfl Tryd.func13 (by kernel_rfl) rfl #[.int .u64 a0, .int .u64 a1] rfl (by (try simp only [List.map_toArray, List.map_cons, List.map_nil]); first | done | rfl | (simp only [List.length_drop, List.length_take]; rfl)) ?_; (with_reducible refine (gf2_Times.calls k a0 a1 t143 t144 _ (by repeat (first | exact hT | apply TabA.drewN | apply TabA.drew | apply TabA.alloc)) A3.out).mono ?_); rintro e w' ⟨rfl, ⟨nd, rfl⟩⟩; refine ⟨_, rfl, ?_⟩) | ((with_reducible refine gate_callee (f := 13) rfl ?_); refine goesL_ (some 24) rfl rfl Tryd.func13 (by kernel_rfl) rfl #[.int .u64 a1, .int .u64 a0] rfl (by (try simp only [List.map_toArray, List.map_cons, List.map_nil]); first | done | rfl | (simp only [List.length_drop, List.length_take]; rfl)) ?_; (with_reducible refine (gf2_Times.calls k a1 a0 t145 t146 _ (by repeat (first | exact hT | apply TabA.drewN | apply TabA.drew | apply TabA.alloc)) A4.out).mono ?_); rintro e w' ⟨rfl, ⟨nd, rfl⟩⟩; refine ⟨_, rfl, ?_⟩) | ((with_reducible refine gate_callee (f := 10) rfl ?_); refine goesL_ (some 30) rfl rfl Tryd.func10 (by kernel_rfl) rfl #[.int .u64 a0, .int .u64 a1] rfl (by (try simp only [List.map_toArray, List.map_cons, List.map_nil]); first | done | rfl | (simp only [List.length_drop, List.length_take]; rfl)) ?_; (with_reducible refine (shuttleref03_Times.calls k a0 a1 t147 t148 _ A5.out).mono ?_); rintro e w' ⟨rfl, ⟨nd, rfl⟩⟩; refine ⟨_, rfl, ?_⟩) | ((with_reducible refine gate_callee (f := 9) rfl ?_); refine goesL_ (some 33) rfl rfl Tryd.func9 (by kernel_rfl) rfl #[] rfl (by (try simp only [List.map_toArray, List.map_cons, List.map_nil]); first | done | rfl | (simp only [List.length_drop, List.length_take]; rfl)) ?_; (with_reducible refine (shuttlelaw03_polys.calls k  true _ (by repeat (first | exact hT | apply TabA.drewN | apply TabA.drew | apply TabA.alloc)) A6.out).mono ?_); rintro e w' ⟨rfl, ⟨nd, rfl⟩⟩; refine ⟨_, rfl, ?_⟩) | (go_at_call 14; (with_reducible refine (gf2_Degree.calls k a0 t150 _ A8.out).mono ?_); rintro e w' ⟨rfl, ⟨nd, rfl⟩⟩) | (go_at_call 11; (with_reducible refine (shuttleref03_Degree.calls k a0 t151 _ A9.out).mono ?_); rintro e w' ⟨rfl, ⟨nd, rfl⟩⟩) | (go_at_call 15; (with_reducible refine (gf2_Add.calls a0 a1 t152 _ A11.out).mono ?_); rintro e w' ⟨rfl, ⟨nd, rfl⟩⟩))
        go_ret
        exact ⟨by first | rfl | (simp; done) | (simp [*]; done), by repeat (first | exact Drawn0.refl _ | apply Drawn0.step)⟩
    · rw [if_neg c10] at H
      have c10b0 : (t150 == t151) = false := beq_eq_false_iff_ne.mpr c10
      have c10b1 : (t150 != t151) = true := bne_iff_ne.mpr c10
      obtain rfl := Option.some.inj H
      go_enter Tryd.func5, Tryd.ntmps5
      go_wp2_with (first | ((with_reducible refine gate_callee (f := 13) rfl ?_); refine goesL_ (some 18) rfl rfl Tryd.func13 (by kernel_rfl) rfl #[.int .u64 a0, .int .u64 a1] rfl (by (try simp only [List.map_toArray, List.map_cons, List.map_nil]); first | done | rfl | (simp only [List.length_drop, List.length_take]; rfl)) ?_; (with_reducible refine (gf2_Times.calls k a0 a1 t143 t144 _ (by repeat (first | exact hT | apply TabA.drewN | apply TabA.drew | apply TabA.alloc)) A3.out).mono ?_); rintro e w' ⟨rfl, ⟨nd, rfl⟩⟩; refine ⟨_, rfl, ?_⟩) | ((with_reducible refine gate_callee (f := 13) rfl ?_); refine goesL_ (some 24) rfl rfl Tryd.func13 (by kernel_rfl) rfl #[.int .u64 a1, .int .u64 a0] rfl (by (try simp only [List.map_toArray, List.map_cons, List.map_nil]); first | done | rfl | (simp only [List.length_drop, List.length_take]; rfl)) ?_; (with_reducible refine (gf2_Times.calls k a1 a0 t145 t146 _ (by repeat (first | exact hT | apply TabA.drewN | apply TabA.drew | apply TabA.alloc)) A4.out).mono ?_); rintro e w' ⟨rfl, ⟨nd, rfl⟩⟩; refine ⟨_, rfl, ?_⟩) | ((with_reducible refine gate_callee (f := 10) rfl ?_); refine goesL_ (some 30) rfl rfl Tryd.func10 (by kernel_rfl) rfl #[.int .u64 a0, .int .u64 a1] rfl (by (try simp only [List.map_toArray, List.map_cons, List.map_nil]); first | done | rfl | (simp only [List.length_drop, List.length_take]; rfl)) ?_; (with_reducible refine (shuttleref03_Times.calls k a0 a1 t147 t148 _ A5.out).mono ?_); rintro e w' ⟨rfl, ⟨nd, rfl⟩⟩; refine ⟨_, rfl, ?_⟩) | ((with_reducible refine gate_callee (f := 9) rfl ?_); refine goesL_ (some 33) rfl rfl Tryd.func9 (by kernel_rfl) rfl #[] rfl (by (try simp only [List.map_toArray, List.map_cons, List.map_nil]); first | done | rfl | (simp only [List.length_drop, List.length_take]; rfl)) ?_; (with_reducible refine (shuttlelaw03_polys.calls k  true _ (by repeat (first | exact hT | apply TabA.drewN | apply TabA.drew | apply TabA.alloc)) A6.out).mono ?_); rintro e w' ⟨rfl, ⟨nd, rfl⟩⟩; refine ⟨_, rfl, ?_⟩) | (go_at_call 14; (with_reducible refine (gf2_Degree.calls k a0 t150 _ A8.out).mono ?_); rintro e w' ⟨rfl, ⟨nd, rfl⟩⟩) | (go_at_call 11; (with_reducible refine (shuttleref03_Degree.calls k a0 t151 _ A9.out).mono ?_); rintro e w' ⟨rfl, ⟨nd, rfl⟩⟩))
      go_ret
      exact ⟨by first | rfl | (simp; done) | (simp [*]; done), by repeat (first | exact Drawn0.refl _ | apply Drawn0.step)⟩
  · replace c7 := Bool.eq_false_iff.mpr c7
    subst c7
    have H1 : (some false) = some r := by rw [if_neg (show ¬ (false = true) by decide)] at H; exact H
    clear H
    have H := H1
    clear H1
    obtain rfl := Option.some.inj H
    go_enter Tryd.func5, Tryd.ntmps5
    go_wp2_with (first | ((with_reducible refine gate_callee (f := 13) rfl ?_); refine goesL_ (some 18) rfl rfl Tryd.func13 (by kernel_rfl) rfl #[.int .u64 a0, .int .u64 a1] rfl (by (try simp only [List.map_toArray, List.map_cons, List.map_nil]); first | done | rfl | (simp only [List.length_drop, List.length_take]; rfl)) ?_; (with_reducible refine (gf2_Times.calls k a0 a1 t143 t144 _ (by repeat (first | exact hT | apply TabA.drewN | apply TabA.drew | apply TabA.alloc)) A3.out).mono ?_); rintro e w' ⟨rfl, ⟨nd, rfl⟩⟩; refine ⟨_, rfl, ?_⟩) | ((with_reducible refine gate_callee (f := 13) rfl ?_); refine goesL_ (some 24) rfl rfl Tryd.func13 (by kernel_rfl) rfl #[.int .u64 a1, .int .u64 a0] rfl (by (try simp only [List.map_toArray, List.map_cons, List.map_nil]); first | done | rfl | (simp only [List.length_drop, List.length_take]; rfl)) ?_; (with_reducible refine (gf2_Times.calls k a1 a0 t145 t146 _ (by repeat (first | exact hT | apply TabA.drewN | apply TabA.drew | apply TabA.alloc)) A4.out).mono ?_); rintro e w' ⟨rfl, ⟨nd, rfl⟩⟩; refine ⟨_, rfl, ?_⟩) | ((with_reducible refine gate_callee (f := 10) rfl ?_); refine goesL_ (some 30) rfl rfl Tryd.func10 (by kernel_rfl) rfl #[.int .u64 a0, .int .u64 a1] rfl (by (try simp only [List.map_toArray, List.map_cons, List.map_nil]); first | done | rfl | (simp only [List.length_drop, List.length_take]; rfl)) ?_; (with_reducible refine (shuttleref03_Times.calls k a0 a1 t147 t148 _ A5.out).mono ?_); rintro e w' ⟨rfl, ⟨nd, rfl⟩⟩; refine ⟨_, rfl, ?_⟩) | ((with_reducible refine gate_callee (f := 9) rfl ?_); refine goesL_ (some 33) rfl rfl Tryd.func9 (by kernel_rfl) rfl #[] rfl (by (try simp only [List.map_toArray, List.map_cons, List.map_nil]); first | done | rfl | (simp only [List.length_drop, List.length_take]; rfl)) ?_; (with_reducible refine (shuttlelaw03_polys.calls k  false _ (by repeat (first | exact hT | apply TabA.drewN | apply TabA.drew | apply TabA.alloc)) A6.out).mono ?_); rintro e w' ⟨rfl, ⟨nd, rfl⟩⟩; refine ⟨_, rfl, ?_⟩))
    go_ret
    exact ⟨by first | rfl | (simp; done) | (simp [*]; done), by repeat (first | exact Drawn0.refl _ | apply Drawn0.step)⟩

/-- THE ONE PURE STATEMENT of shuttlelaw03_Gf2Times: yours. -/
def shuttlelaw03_Gf2Times.Pure : Prop := ∀ (a0 : Int) (a1 : Int), (Lit.int .u64 a0).wf = true → (Lit.int .u64 a1).wf = true → ∃ k, shuttlelaw03_Gf2Times.f k a0 a1 = some true
theorem shuttlelaw03_Gf2Times.walk (P : shuttlelaw03_Gf2Times.Pure) (a0 : Int) (a1 : Int) (w : World) (w0 : (Lit.int .u64 a0).wf = true) (w1 : (Lit.int .u64 a1).wf = true) (hT : Aside0 (TabOk w)) :
    Calls Tryd.prog 5 #[.int .u64 a0, .int .u64 a1] w fun e w' => e = .returned (.bool true) ∧ Below w.heap.size w w' := by
  obtain ⟨k, h⟩ := P a0 a1 w0 w1
  refine (shuttlelaw03_Gf2Times.calls k a0 a1 true w hT h).mono ?_
  rintro e w' ⟨rfl, hd⟩
  exact ⟨rfl, hd.below⟩

end Go.Proofs.YtbkeogllicgbaaaDoor.Q
