/- Machine side of the statements of this seat: of each function what it computes, and that the code computes it (lines made by a program of ours on the pattern of the print). No condition of our own. -/
import Derived.Test.YtbkeogllicgbaaaDoorQ0
import Derived.Test.YtbkeogllicgbaaaDoorQ1
import Derived.Test.YtbkeogllicgbaaaDoorQ2
namespace Go.Proofs.YtbkeogllicgbaaaDoor.Q
open Go.RowKit Go.Proofs.YtbkeogllicgbaaaDoorW.PrintWords Go.Proofs.YtbkeogllicgbaaaDoorW.PrintLast Go.Proofs.YtbkeogllicgbaaaDoorW.PrintMore
attribute [local go_sem] max2_int min2_int max_two min_two max_three min_three max_four min_four   -- for this text's walks alone
set_option linter.unusedVariables false
set_option linter.unusedSimpArgs false

/-! ### shuttlelaw03_Gf2Spreads: function 6 -/
def shuttlelaw03_Gf2Spreads.f (k : Nat) (a0 : Int) (a1 : Int) (a2 : Int) : Option (Bool) := (gf2_Add.f (Int.tmod a1 2147483648) (Int.tmod a2 2147483648)).bind fun t153 => ((gf2_Times.f k (Int.tmod a0 2147483648) t153).bind fun bt154 => ((gf2_Times.f k (Int.tmod a0 2147483648) (Int.tmod a1 2147483648)).bind fun bt156 => ((gf2_Times.f k (Int.tmod a0 2147483648) (Int.tmod a2 2147483648)).bind fun bt158 => ((shuttlelaw03_polys.f k).bind fun t160 => (if t160 = true then (if bt154.2 = true then (if bt156.2 = true then (if bt158.2 = true then ((gf2_Add.f bt156.1 bt158.1).bind fun t161 => (some (bt154.1 == t161))) else (some false)) else (some false)) else (some false)) else (some false))))))
theorem shuttlelaw03_Gf2Spreads.mono : ∀ a0 a1 a2 k, LeO (shuttlelaw03_Gf2Spreads.f k a0 a1 a2) (shuttlelaw03_Gf2Spreads.f (k + 1) a0 a1 a2) := by
  intro a0 a1 a2 k
  unfold shuttlelaw03_Gf2Spreads.f
  repeat' first
      | (with_reducible exact gf2_Times.mono _ _ _)
      | (with_reducible exact shuttlelaw03_polys.mono _)
      | (with_reducible exact LeO.refl _)
      | (with_reducible exact LeO.none _)
      | (with_reducible refine LeO.ite ?_ ?_)
      | (with_reducible refine LeO.bind ?_ (fun _ => ?_))
      | exact gf2_Times.mono _ _ _
      | exact shuttlelaw03_polys.mono _
      | exact LeO.none _
      | refine LeO.ite ?_ ?_
      | refine LeO.bind ?_ (fun _ => ?_)
set_option maxHeartbeats 8000000 in
set_option maxRecDepth 100000 in
theorem shuttlelaw03_Gf2Spreads.calls (k : Nat) (a0 : Int) (a1 : Int) (a2 : Int) (r : Bool) (w : World) (hT : Aside0 (TabOk w)) (h : shuttlelaw03_Gf2Spreads.f k a0 a1 a2 = some r) :
    Calls Tryd.prog 6 #[.int .u64 a0, .int .u64 a1, .int .u64 a2] w fun e w' => e = .returned (.bool r) ∧ Drawn0 w w' := by
  have H : ((gf2_Add.f (Int.tmod a1 2147483648) (Int.tmod a2 2147483648)).bind fun t153 => ((gf2_Times.f k (Int.tmod a0 2147483648) t153).bind fun bt154 => ((gf2_Times.f k (Int.tmod a0 2147483648) (Int.tmod a1 2147483648)).bind fun bt156 => ((gf2_Times.f k (Int.tmod a0 2147483648) (Int.tmod a2 2147483648)).bind fun bt158 => ((shuttlelaw03_polys.f k).bind fun t160 => (if t160 = true then (if bt154.2 = true then (if bt156.2 = true then (if bt158.2 = true then ((gf2_Add.f bt156.1 bt158.1).bind fun t161 => (some (bt154.1 == t161))) else (some false)) else (some false)) else (some false)) else (some false))))))) = some r := h
  clear h
  replace H := Option.bind_eq_some_iff.mp H
  obtain ⟨t153, A40, H⟩ := H
  replace H : ((gf2_Times.f k (Int.tmod a0 2147483648) t153).bind fun bt154 => ((gf2_Times.f k (Int.tmod a0 2147483648) (Int.tmod a1 2147483648)).bind fun bt156 => ((gf2_Times.f k (Int.tmod a0 2147483648) (Int.tmod a2 2147483648)).bind fun bt158 => ((shuttlelaw03_polys.f k).bind fun t160 => (if t160 = true then (if bt154.2 = true then (if bt156.2 = true then (if bt158.2 = true then ((gf2_Add.f bt156.1 bt158.1).bind fun t161 => (some (bt154.1 == t161))) else (some false)) else (some false)) else (some false)) else (some false)))))) = some r := H
  have A4 := Aside0.mk A40
  clear A40
  replace H := Option.bind_eq_some_iff.mp H
  obtain ⟨⟨t154, t155⟩, A50, H⟩ := H
  replace H : ((gf2_Times.f k (Int.tmod a0 2147483648) (Int.tmod a1 2147483648)).bind fun bt156 => ((gf2_Times.f k (Int.tmod a0 2147483648) (Int.tmod a2 2147483648)).bind fun bt158 => ((shuttlelaw03_polys.f k).bind fun t160 => (if t160 = true then (if t155 = true then (if bt156.2 = true then (if bt158.2 = true then ((gf2_Add.f bt156.1 bt158.1).bind fun t161 => (some (t154 == t161))) else (some false)) else (some false)) else (some false)) else (some false))))) = some r := H
  have A5 := Aside0.mk A50
  clear A50
  replace H := Option.bind_eq_some_iff.mp H
  obtain ⟨⟨t156, t157⟩, A60, H⟩ := H
  replace H : ((gf2_Times.f k (Int.tmod a0 2147483648) (Int.tmod a2 2147483648)).bind fun bt158 => ((shuttlelaw03_polys.f k).bind fun t160 => (if t160 = true then (if t155 = true then (if t157 = true then (if bt158.2 = true then ((gf2_Add.f t156 bt158.1).bind fun t161 => (some (t154 == t161))) else (some false)) else (some false)) else (some false)) else (some false)))) = some r := H
  have A6 := Aside0.mk A60
  clear A60
  replace H := Option.bind_eq_some_iff.mp H
  obtain ⟨⟨t158, t159⟩, A70, H⟩ := H
  replace H : ((shuttlelaw03_polys.f k).bind fun t160 => (if t160 = true then (if t155 = true then (if t157 = true then (if t159 = true then ((gf2_Add.f t156 t158).bind fun t161 => (some (t154 == t161))) else (some false)) else (some false)) else (some false)) else (some false))) = some r := H
  have A7 := Aside0.mk A70
  clear A70
  replace H := Option.bind_eq_some_iff.mp H
  obtain ⟨t160, A80, H⟩ := H
  replace H : (if t160 = true then (if t155 = true then (if t157 = true then (if t159 = true then ((gf2_Add.f t156 t158).bind fun t161 => (some (t154 == t161))) else (some false)) else (some false)) else (some false)) else (some false)) = some r := H
  have A8 := Aside0.mk A80
  clear A80
  by_cases c9 : t160 = true
  · subst c9
    have H1 : (if t155 = true then (if t157 = true then (if t159 = true then ((gf2_Add.f t156 t158).bind fun t161 => (some (t154 == t161))) else (some false)) else (some false)) else (some false)) = some r := by rw [if_pos rfl] at H; exact H
    clear H
    have H := H1
    clear H1
    by_cases c10 : t155 = true
    · subst c10
      have H1 : (if t157 = true then (if t159 = true then ((gf2_Add.f t156 t158).bind fun t161 => (some (t154 == t161))) else (some false)) else (some false)) = some r := by rw [if_pos rfl] at H; exact H
      clear H
      have H := H1
      clear H1
      by_cases c11 : t157 = true
      · subst c11
        have H1 : (if t159 = true then ((gf2_Add.f t156 t158).bind fun t161 => (some (t154 == t161))) else (some false)) = some r := by rw [if_pos rfl] at H; exact H
        clear H
        have H := H1
        clear H1
        by_cases c12 : t159 = true
        · subst c12
          have H1 : ((gf2_Add.f t156 t158).bind fun t161 => (some (t154 == t161))) = some r := by rw [if_pos rfl] at H; exact H
          clear H
          have H := H1
          clear H1
          replace H := Option.bind_eq_some_iff.mp H
          obtain ⟨t161, A130, H⟩ := H
          replace H : (some (t154 == t161)) = some r := H
          have A13 := Aside0.mk A130
          clear A130
          obtain rfl := Option.some.inj H
          go_enter Tryd.func6, Tryd.ntmps6
          go_wp2_with (first | ((with_reducible refine gate_callee (f := 15) rfl ?_); refine goesL_ (some 26) rfl rfl Tryd.func15 (by kernel_rfl) rfl #[.int .u64 (Int.tmod a1 2147483648), .int .u64 (Int.tmod a2 2147483648)] rfl (by (try simp only [List.map_toArray, List.map_cons, List.map_nil]); first | done | rfl | (simp only [List.length_drop, List.length_take]; rfl)) ?_; (with_reducible refine (gf2_Add.calls (Int.tmod a1 2147483648) (Int.tmod a2 2147483648) t153 _ A4.out).mono ?_); rintro e w' ⟨rfl, ⟨nd, rfl⟩⟩; refine ⟨_, rfl, ?_⟩) | ((with_reducible refine gate_callee (f := 13) rfl ?_); refine goesL_ (some 27) rfl rfl Tryd.func13 (by kernel_rfl) rfl #[.int .u64 (Int.tmod a0 2147483648), .int .u64 t153] rfl (by (try simp only [List.map_toArray, List.map_cons, List.map_nil]); first | done | rfl | (simp only [List.length_drop, List.length_take]; rfl)) ?_; (with_reducible refine (gf2_Times.calls k (Int.tmod a0 2147483648) t153 t154 true _ (by repeat (first | exact hT | apply TabA.drewN | apply TabA.drew | apply TabA.alloc)) A5.out).mono ?_); rintro e w' ⟨rfl, ⟨nd, rfl⟩⟩; refine ⟨_, rfl, ?_⟩) | ((with_reducible refine gate_callee (f := 13) rfl ?_); refine goesL_ (some 33) rfl rfl Tryd.func13 (by kernel_rfl) rfl #[.int .u64 (Int.tmod a0 2147483648), .int .u64 (Int.tmod a1 2147483648)] rfl (by (try simp only [List.map_toArray, List.map_cons, List.map_nil]); first | done | rfl | (simp only [List.length_drop, List.length_take]; rfl)) ?_; (with_reducible refine (gf2_Times.calls k (Int.tmod a0 2147483648) (Int.tmod a1 2147483648) t156 true _ (by repeat (first | exact hT | apply TabA.drewN | apply TabA.drew | apply TabA.alloc)) A6.out).mono ?_); rintro e w' ⟨rfl, ⟨nd, rfl⟩⟩; refine ⟨_, rfl, ?_⟩) | ((with_reducible refine gate_callee (f := 13) rfl ?_); refine goesL_ (some 39) rfl rfl Tryd.func13 (by kernel_rfl) rfl #[.int .u64 (Int.tmod a0 2147483648), .int .u64 (Int.tmod a2 2147483648)] rfl (by (try simp only [List.map_toArray, List.map_cons, List.map_nil]); first | done | rfl | (simp only [List.length_drop, List.length_take]; rfl)) ?_; (with_reducible refine (gf2_Times.calls k (Int.tmod a0 2147483648) (Int.tmod a2 2147483648) t158 true _ (by repeat (first | exact hT | apply TabA.drewN | apply TabA.drew | apply TabA.alloc)) A7.out).mono ?_); rintro e w' ⟨rfl, ⟨nd, rfl⟩⟩; refine ⟨_, rfl, ?_⟩) | ((with_reducible refine gate_callee (f := 9) rfl ?_); refine goesL_ (some 42) rfl rfl Tryd.func9 (by kernel_rfl) rfl #[] rfl (by (try simp only [List.map_toArray, List.map_cons, List.map_nil]); first | done | rfl | (simp only [List.length_drop, List.length_take]; rfl)) ?_; (with_reducible refine (shuttlelaw03_polys.calls k  true _ (by repeat (first | exact hT | apply TabA.drewN | apply TabA.drew | apply TabA.alloc)) A8.out).mono ?_); rintro e w' ⟨rfl, ⟨nd, rfl⟩⟩; refine ⟨_, rfl, ?_⟩) | (go_at_call 15; (with_reducible refine (gf2_Add.calls t156 t158 t161 _ A13.out).mono ?_); rintro e w' ⟨rfl, ⟨nd, rfl⟩⟩))
          go_ret
          exact ⟨by first | rfl | (simp; done) | (simp [*]; done), by repeat (first | exact Drawn0.refl _ | apply Drawn0.step)⟩
        · replace c12 := Bool.eq_false_iff.mpr c12
          subst c12
          have H1 : (some false) = some r := by rw [if_neg (show ¬ (false = true) by decide)] at H; exact H
          clear H
          have H := H1
          clear H1
          obtain rfl := Option.some.inj H
          go_enter Tryd.func6, Tryd.ntmps6
          go_wp2_with (first | ((with_reducible refine gate_callee (f := 15) rfl ?_); refine goesL_ (some 26) rfl rfl Tryd.func15 (by kernel_rfl) rfl #[.int .u64 (Int.tmod a1 2147483648), .int .u64 (Int.tmod a2 2147483648)] rfl (by (try simp only [List.map_toArray, List.map_cons, List.map_nil]); first | done | rfl | (simp only [List.length_drop, List.length_take]; rfl)) ?_; (with_reducible refine (gf2_Add.calls (Int.tmod a1 2147483648) (Int.tmod a2 2147483648) t153 _ A4.out).mono ?_); rintro e w' ⟨rfl, ⟨nd, rfl⟩⟩; refine ⟨_, rfl, ?_⟩) | ((with_reducible refine gate_callee (f := 13) rfl ?_); refine goesL_ (some 27) rfl rfl Tryd.func13 (by kernel_rfl) rfl #[.int .u64 (Int.tmod a0 2147483648), .int .u64 t153] rfl (by (try simp only [List.map_toArray, List.map_cons, List.map_nil]); first | done | rfl | (simp only [List.length_drop, List.length_take]; rfl)) ?_; (with_reducible refine (gf2_Times.calls k (Int.tmod a0 2147483648) t153 t154 true _ (by repeat (first | exact hT | apply TabA.drewN | apply TabA.drew | apply TabA.alloc)) A5.out).mono ?_); rintro e w' ⟨rfl, ⟨nd, rfl⟩⟩; refine ⟨_, rfl, ?_⟩) | ((with_reducible refine gate_callee (f := 13) rfl ?_); refine goesL_ (some 33) rfl rfl Tryd.func13 (by kernel_rfl) rfl #[.int .u64 (Int.tmod a0 2147483648), .int .u64 (Int.tmod a1 2147483648)] rfl (by (try simp only [List.map_toArray, List.map_cons, List.map_nil]); first | done | rfl | (simp only [List.length_drop, List.length_take]; rfl)) ?_; (with_reducible refine (gf2_Times.calls k (Int.tmod a0 2147483648) (Int.tmod a1 2147483648) t156 true _ (by repeat (first | exact hT | apply TabA.drewN | apply TabA.drew | apply TabA.alloc)) A6.out).mono ?_); rintro e w' ⟨rfl, ⟨nd, rfl⟩⟩; refine ⟨_, rfl, ?_⟩) | ((with_reducible refine gate_callee (f := 13) rfl ?_); refine goesL_ (some 39) rfl rfl Tryd.func13 (by kernel_rfl) rfl #[.int .u64 (Int.tmod a0 2147483648), .int .u64 (Int.tmod a2 2147483648)] rfl (by (try simp only [List.map_toArray, List.map_cons, List.map_nil]); first | done | rfl | (simp only [List.length_drop, List.length_take]; rfl)) ?_; (with_reducible refine (gf2_Times.calls k (Int.tmod a0 2147483648) (Int.tmod a2 2147483648) t158 false _ (by repeat (first | exact hT | apply TabA.drewN | apply TabA.drew | apply TabA.alloc)) A7.out).mono ?_); rintro e w' ⟨rfl, ⟨nd, rfl⟩⟩; refine ⟨_, rfl, ?_⟩) | ((with_reducible refine gate_callee (f := 9) rfl ?_); refine goesL_ (some 42) rfl rfl Tryd.func9 (by kernel_rfl) rfl #[] rfl (by (try simp only [List.map_toArray, List.map_cons, List.map_nil]); first | done | rfl | (simp only [List.length_drop, List.length_take]; rfl)) ?_; (with_reducible refine (shuttlelaw03_polys.calls k  true _ (by repeat (first | exact hT | apply TabA.drewN | apply TabA.drew | apply TabA.alloc)) A8.out).mono ?_); rintro e w' ⟨rfl, ⟨nd, rfl⟩⟩; refine ⟨_, rfl, ?_⟩))
          go_ret
          exact ⟨by first | rfl | (simp; done) | (simp [*]; done), by repeat (first | exact Drawn0.refl _ | apply Drawn0.step)⟩
      · replace c11 := Bool.eq_false_iff.mpr c11
        subst c11
        have H1 : (some false) = some r := by rw [if_neg (show ¬ (false = true) by decide)] at H; exact H
        clear H
        have H := H1
        clear H1
        obtain rfl := Option.some.inj H
        go_enter Tryd.func6, Tryd.ntmps6
        go_wp2_with (first | ((with_reducible refine gate_callee (f := 15) rfl ?_); refine goesL_ (some 26) rfl rfl Tryd.func15 (by kernel_rfl) rfl #[.int .u64 (Int.tmod a1 2147483648), .int .u64 (Int.tmod a2 2147483648)] rfl (by (try simp only [List.map_toArray, List.map_cons, List.map_nil]); first | done | rfl | (simp only [List.length_drop, List.length_take]; rfl)) ?_; (with_reducible refine (gf2_Add.calls (Int.tmod a1 2147483648) (Int.tmod a2 2147483648) t153 _ A4.out).mono ?_); rintro e w' ⟨rfl, ⟨nd, rfl⟩⟩; refine ⟨_, rfl, ?_⟩) | ((with_reducible refine gate_callee (f := 13) rfl ?_); refine goesL_ (some 27) rfl rfl Tryd.func13 (by kernel_rfl) rfl #[.int .u64 (Int.tmod a0 2147483648), .int .u64 t153] rfl (by (try simp only [List.map_toArray, List.map_cons, List.map_nil]); first | done | rfl | (simp only [List.length_drop, List.length_take]; rfl)) ?_; (with_reducible refine (gf2_Times.calls k (Int.tmod a0 2147483648) t153 t154 true _ (by repeat (first | exact hT | apply TabA.drewN | apply TabA.drew | apply TabA.alloc)) A5.out).mono ?_); rintro e w' ⟨rfl, ⟨nd, rfl⟩⟩; refine ⟨_, rfl, ?_⟩) | ((with_reducible refine gate_callee (f := 13) rfl ?_); refine goesL_ (some 33) rfl rfl Tryd.func13 (by kernel_rfl) rfl #[.int .u64 (Int.tmod a0 2147483648), .int .u64 (Int.tmod a1 2147483648)] rfl (by (try simp only [List.map_toArray, List.map_cons, List.map_nil]); first | done | rfl | (simp only [List.length_drop, List.length_take]; rfl)) ?_; (with_reducible refine (gf2_Times.calls k (Int.tmod a0 2147483648) (Int.tmod a1 2147483648) t156 false _ (by repeat (first | exact hT | apply TabA.drewN | apply TabA.drew | apply TabA.alloc)) A6.out).mono ?_); rintro e w' ⟨rfl, ⟨nd, rfl⟩⟩; refine ⟨_, rfl, ?_⟩) | ((with_reducible refine gate_callee (f := 13) rfl ?_); refine goesL_ (some 39) rfl rfl Tryd.func13 (by kernel_rfl) rfl #[.int .u64 (Int.tmod a0 2147483648), .int .u64 (Int.tmod a2 2147483648)] rfl (by (try simp only [List.map_toArray, List.map_cons, List.map_nil]); first | done | rfl | (simp only [List.length_drop, List.length_take]; rfl)) ?_; (with_reducible refine (gf2_Times.calls k (Int.tmod a0 2147483648) (Int.tmod a2 2147483648) t158 t159 _ (by repeat (first | exact hT | apply TabA.drewN | apply TabA.drew | apply TabA.alloc)) A7.out).mono ?_); rintro e w' ⟨rfl, ⟨nd, rfl⟩⟩; refine ⟨_, rfl, ?_⟩) | ((with_reducible refine gate_callee (f := 9) rfl ?_); refine goesL_ (some 42) rfl rfl Tryd.func9 (by kernel_rfl) rfl #[] rfl (by (try simp only [List.map_toArray, List.map_cons, List.map_nil]); first | done | rfl | (simp only [List.length_drop, List.length_take]; rfl)) ?_; (with_reducible refine (shuttlelaw03_polys.calls k  true _ (by repeat (first | exact hT | apply TabA.drewN | apply TabA.drew | apply TabA.alloc)) A8.out).mono ?_); rintro e w' ⟨rfl, ⟨nd, rfl⟩⟩; refine ⟨_, rfl, ?_⟩))
        go_ret
        exact ⟨by first | rfl | (simp; done) | (simp [*]; done), by repeat (first | exact Drawn0.refl _ | apply Drawn0.step)⟩
    · replace c10 := Bool.eq_false_iff.mpr c10
      subst c10
      have H1 : (some false) = some r := by rw [if_neg (show ¬ (false = true) by decide)] at H; exact H
      clear H
      have H := H1
      clear H1
      obtain rfl := Option.some.inj H
      go_enter Tryd.func6, Tryd.ntmps6
      go_wp2_with (first | ((with_reducible refine gate_callee (f := 15) rfl ?_); refine goesL_ (some 26) rfl rfl Tryd.func15 (by kernel_rfl) rfl #[.int .u64 (Int.tmod a1 2147483648), .int .u64 (Int.tmod a2 2147483648)] rfl (by (try simp only [List.map_toArray, List.map_cons, List.map_nil]); first | done | rfl | (simp only [List.length_drop, List.length_take]; rfl)) ?_; (with_reducible refine (gf2_Add.calls (Int.tmod a1 2147483648) (Int.tmod a2 2147483648) t153 _ A4.out).mono ?_); rintro e w' ⟨rfl, ⟨nd, rfl⟩⟩; refine ⟨_, rfl, ?_⟩) | ((with_reducible refine gate_callee (f := 13) rfl ?_); refine goesL_ (some 27) rfl rfl Tryd.func13 (by kernel_rfl) rfl #[.int .u64 (Int.tmod a0 2147483648), .int .u64 t153] rfl (by (try simp only [List.map_toArray, List.map_cons, List.map_nil]); first | done | rfl | (simp only [List.length_drop, List.length_take]; rfl)) ?_; (with_reducible refine (gf2_Times.calls k (Int.tmod a0 2147483648) t153 t154 false _ (by repeat (first | exact hT | apply TabA.drewN | apply TabA.drew | apply TabA.alloc)) A5.out).mono ?_); rintro e w' ⟨rfl, ⟨nd, rfl⟩⟩; refine ⟨_, rfl, ?_⟩) | ((with_reducible refine gate_callee (f := 13) rfl ?_); refine goesL_ (some 33) rfl rfl Tryd.func13 (by kernel_rfl) rfl #[.int .u64 (Int.tmod a0 2147483648), .int .u64 (Int.tmod a1 2147483648)] rfl (by (try simp only [List.map_toArray, List.map_cons, List.map_nil]); first | done | rfl | (simp only [List.length_drop, List.length_take]; rfl)) ?_; (with_reducible refine (gf2_Times.calls k (Int.tmod a0 2147483648) (Int.tmod a1 2147483648) t156 t157 _ (by repeat (first | exact hT | apply TabA.drewN | apply TabA.drew | apply TabA.alloc)) A6.out).mono ?_); rintro e w' ⟨rfl, ⟨nd, rfl⟩⟩; refine ⟨_, rfl, ?_⟩) | ((with_reducible refine gate_callee (f := 13) rfl ?_); refine goesL_ (some 39) rfl rfl Tryd.func13 (by kernel_rfl) rfl #[.int .u64 (Int.tmod a0 2147483648), .int .u64 (Int.tmod a2 2147483648)] rfl (by (try simp only [List.map_toArray, List.map_cons, List.map_nil]); first | done | rfl | (simp only [List.length_drop, List.length_take]; rfl)) ?_; (with_reducible refine (gf2_Times.calls k (Int.tmod a0 2147483648) (Int.tmod a2 2147483648) t158 t159 _ (by repeat (first | exact hT | apply TabA.drewN | apply TabA.drew | apply TabA.alloc)) A7.out).mono ?_); rintro e w' ⟨rfl, ⟨nd, rfl⟩⟩; refine ⟨_, rfl, ?_⟩) | ((with_reducible refine gate_callee (f := 9) rfl ?_); refine goesL_ (some 42) rfl rfl Tryd.func9 (by kernel_rfl) rfl #[] rfl (by (try simp only [List.map_toArray, List.map_cons, List.map_nil]); first | done | rfl | (simp only [List.length_drop, List.length_take]; rfl)) ?_; (with_reducible refine (shuttlelaw03_polys.calls k  true _ (by repeat (first | exact hT | apply TabA.drewN | apply TabA.drew | apply TabA.alloc)) A8.out).mono ?_); rintro e w' ⟨rfl, ⟨nd, rfl⟩⟩; refine ⟨_, rfl, ?_⟩))
      go_ret
      exact ⟨by first | rfl | (simp; done) | (simp [*]; done), by repeat (first | exact Drawn0.refl _ | apply Drawn0.step)⟩
  · replace c9 := Bool.eq_false_iff.mpr c9
    subst c9
    have H1 : (some false) = some r := by rw [if_neg (show ¬ (false = true) by decide)] at H; exact H
    clear H
    have H := H1
    clear H1
    obtain rfl := Option.some.inj H
    go_enter Tryd.func6, Tryd.ntmps6
    go_wp2_with (first | ((with_reducible refine gate_callee (f := 15) rfl ?_); refine goesL_ (some 26) rfl rfl Tryd.func15 (by kernel_rfl) rfl #[.int .u64 (Int.tmod a1 2147483648), .int .u64 (Int.tmod a2 2147483648)] rfl (by (try simp only [List.map_toArray, List.map_cons, List.map_nil]); first | done | rfl | (simp only [List.length_drop, List.length_take]; rfl)) ?_; (with_reducible refine (gf2_Add.calls (Int.tmod a1 2147483648) (Int.tmod a2 2147483648) t153 _ A4.out).mono ?_); rintro e w' ⟨rfl, ⟨nd, rfl⟩⟩; refine ⟨_, rfl, ?_⟩) | ((with_reducible refine gate_callee (f := 13) rfl ?_); refine goesL_ (some 27) rfl rfl Tryd.func13 (by kernel_rfl) rfl #[.int .u64 (Int.tmod a0 2147483648), .int .u64 t153] rfl (by (try simp only [List.map_toArray, List.map_cons, List.map_nil]); first | done | rfl | (simp only [List.length_drop, List.length_take]; rfl)) ?_; (with_reducible refine (gf2_Times.calls k (Int.tmod a0 2147483648) t153 t154 t155 _ (by repeat (first | exact hT | apply TabA.drewN | apply TabA.drew | apply TabA.alloc)) A5.out).mono ?_); rintro e w' ⟨rfl, ⟨nd, rfl⟩⟩; refine ⟨_, rfl, ?_⟩) | ((with_reducible refine gate_callee (f := 13) rfl ?_); refine goesL_ (some 33) rfl rfl Tryd.func13 (by kernel_rfl) rfl #[.int .u64 (Int.tmod a0 2147483648), .int .u64 (Int.tmod a1 2147483648)] rfl (by (try simp only [List.map_toArray, List.map_cons, List.map_nil]); first | done | rfl | (simp only [List.length_drop, List.length_take]; rfl)) ?_; (with_reducible refine (gf2_Times.calls k (Int.tmod a0 2147483648) (Int.tmod a1 2147483648) t156 t157 _ (by repeat (first | exact hT | apply TabA.drewN | apply TabA.drew | apply TabA.alloc)) A6.out).mono ?_); rintro e w' ⟨rfl, ⟨nd, rfl⟩⟩; refine ⟨_, rfl, ?_⟩) | ((with_reducible refine gate_callee (f := 13) rfl ?_); refine goesL_ (some 39) rfl rfl Tryd.func13 (by kernel_rfl) rfl #[.int .u64 (Int.tmod a0 2147483648), .int .u64 (Int.tmod a2 2147483648)] rfl (by (try simp only [List.map_toArray, List.map_cons, List.map_nil]); first | done | rfl | (simp only [List.length_drop, List.length_take]; rfl)) ?_; (with_reducible refine (gf2_Times.calls k (Int.tmod a0 2147483648) (Int.tmod a2 2147483648) t158 t159 _ (by repeat (first | exact hT | apply TabA.drewN | apply TabA.drew | apply TabA.alloc)) A7.out).mono ?_); rintro e w' ⟨rfl, ⟨nd, rfl⟩⟩; refine ⟨_, rfl, ?_⟩) | ((with_reducible refine gate_callee (f := 9) rfl ?_); refine goesL_ (some 42) rfl rfl Tryd.func9 (by kernel_rfl) rfl #[] rfl (by (try simp only [List.map_toArray, List.map_cons, List.map_nil]); first | done | rfl | (simp only [List.length_drop, List.length_take]; rfl)) ?_; (with_reducible refine (shuttlelaw03_polys.calls k  false _ (by repeat (first | exact hT | apply TabA.drewN | apply TabA.drew | apply TabA.alloc)) A8.out).mono ?_); rintro e w' ⟨rfl, ⟨nd, rfl⟩⟩; refine ⟨_, rfl, ?_⟩))
    go_ret
    exact ⟨by first | rfl | (simp; done) | (simp [*]; done), by repeat (first | exact Drawn0.refl _ | apply Drawn0.step)⟩

/-- THE ONE PURE STATEMENT of shuttlelaw03_Gf2Spreads: yours. -/
def shuttlelaw03_Gf2Spreads.Pure : Prop := ∀ (a0 : Int) (a1 : Int) (a2 : Int), (Lit.int .u64 a0).wf = true → (Lit.int .u64 a1).wf = true → (Lit.int .u64 a2).wf = true → ∃ k, shuttlelaw03_Gf2Spreads.f k a0 a1 a2 = some true
theorem shuttlelaw03_Gf2Spreads.walk (P : shuttlelaw03_Gf2Spreads.Pure) (a0 : Int) (a1 : Int) (a2 : Int) (w : World) (w0 : (Lit.int .u64 a0).wf = true) (w1 : (Lit.int .u64 a1).wf = true) (w2 : (Lit.int .u64 a2).wf = true) (hT : Aside0 (TabOk w)) :
    Calls Tryd.prog 6 #[.int .u64 a0, .int .u64 a1, .int .u64 a2] w fun e w' => e = .returned (.bool true) ∧ Below w.heap.size w w' := by
  obtain ⟨k, h⟩ := P a0 a1 a2 w0 w1 w2
  refine (shuttlelaw03_Gf2Spreads.calls k a0 a1 a2 true w hT h).mono ?_
  rintro e w' ⟨rfl, hd⟩
  exact ⟨rfl, hd.below⟩

/-! ### gf2_Rest: function 16 -/
mutual
def gf2_Rest.j0 : Nat → List Int → Int → Int → Bool → Option (Int × Bool)
  | 0, _, _, _, _ => none
  | k + 1, x0, x1, x6, x17 => if x17 = true then (some (0, false)) else (gf2_Rest.l0 k x1 x6 0 x0 (x0.length : Int) 0)
def gf2_Rest.l0 : Nat → Int → Int → Int → List Int → Int → Int → Option (Int × Bool)
  | 0, _, _, _, _, _, _ => none
  | k + 1, x1, x6, x7, x18, x19, x20 => if x20 < x19 then (if 0 ≤ x20 then (if x20 < (x18.length : Int) then (if 0 ≤ x6 then (if (Go.bits .and .u64 (shr .u64 (Go.bits .or .u64 (IntKind.u64.wrap (x7 * 2)) (IntKind.u64.wrap (Go.bits .and .u8 (rd x18 x20) 1))) x6) 1) = 1 then (gf2_Rest.l0 k x1 x6 (Go.bits .xor .u64 (Go.bits .or .u64 (IntKind.u64.wrap (x7 * 2)) (IntKind.u64.wrap (Go.bits .and .u8 (rd x18 x20) 1))) x1) x18 x19 (wrap64 (x20 + 1))) else (gf2_Rest.l0 k x1 x6 (Go.bits .or .u64 (IntKind.u64.wrap (x7 * 2)) (IntKind.u64.wrap (Go.bits .and .u8 (rd x18 x20) 1))) x18 x19 (wrap64 (x20 + 1)))) else (none)) else (none)) else (none)) else (some (x7, true))
end
def gf2_Rest.f (k : Nat) (l0 : List Int) (a1 : Int) : Option (Int × Bool) := (gf2_Degree.f k a1).bind fun t162 => (if t162 < 0 then (gf2_Rest.j0 k l0 a1 t162 true) else (gf2_Rest.j0 k l0 a1 t162 (t162 == 63)))
theorem gf2_Rest.mono_l : ∀ k, (∀ y0 y1 y2 y3, LeO (gf2_Rest.j0 k y0 y1 y2 y3) (gf2_Rest.j0 (k + 1) y0 y1 y2 y3)) ∧ (∀ y0 y1 y2 y3 y4 y5, LeO (gf2_Rest.l0 k y0 y1 y2 y3 y4 y5) (gf2_Rest.l0 (k + 1) y0 y1 y2 y3 y4 y5))
  | 0 => ⟨fun _ _ _ _ r h => by simp [gf2_Rest.j0] at h, fun _ _ _ _ _ _ r h => by simp [gf2_Rest.l0] at h⟩
  | k + 1 => by
    obtain ⟨ih0, ih1⟩ := gf2_Rest.mono_l k
    refine ⟨?_, ?_⟩
    · intro y0 y1 y2 y3
      unfold gf2_Rest.j0
      repeat' first
      | (with_reducible exact ih0 _ _ _ _)
      | (with_reducible exact ih1 _ _ _ _ _ _)
      | (with_reducible exact gf2_Degree.mono _ _)
      | (with_reducible exact LeO.refl _)
      | (with_reducible exact LeO.none _)
      | (with_reducible refine LeO.ite ?_ ?_)
      | (with_reducible refine LeO.bind ?_ (fun _ => ?_))
      | exact ih0 _ _ _ _
      | exact ih1 _ _ _ _ _ _
      | exact gf2_Degree.mono _ _
      | exact LeO.none _
      | refine LeO.ite ?_ ?_
      | refine LeO.bind ?_ (fun _ => ?_)
    · intro y0 y1 y2 y3 y4 y5
      unfold gf2_Rest.l0
      repeat' first
      | (with_reducible exact ih0 _ _ _ _)
      | (with_reducible exact ih1 _ _ _ _ _ _)
      | (with_reducible exact gf2_Degree.mono _ _)
      | (with_reducible exact LeO.refl _)
      | (with_reducible exact LeO.none _)
      | (with_reducible refine LeO.ite ?_ ?_)
      | (with_reducible refine LeO.bind ?_ (fun _ => ?_))
      | exact ih0 _ _ _ _
      | exact ih1 _ _ _ _ _ _
      | exact gf2_Degree.mono _ _
      | exact LeO.none _
      | refine LeO.ite ?_ ?_
      | refine LeO.bind ?_ (fun _ => ?_)
theorem gf2_Rest.mono : ∀ a0 a1 k, LeO (gf2_Rest.f k a0 a1) (gf2_Rest.f (k + 1) a0 a1) := by
  intro a0 a1 k
  obtain ⟨ih0, ih1⟩ := gf2_Rest.mono_l k
  unfold gf2_Rest.f
  repeat' first
      | (with_reducible exact ih0 _ _ _ _)
      | (with_reducible exact ih1 _ _ _ _ _ _)
      | (with_reducible exact gf2_Degree.mono _ _)
      | (with_reducible exact LeO.refl _)
      | (with_reducible exact LeO.none _)
      | (with_reducible refine LeO.ite ?_ ?_)
      | (with_reducible refine LeO.bind ?_ (fun _ => ?_))
      | exact ih0 _ _ _ _
      | exact ih1 _ _ _ _ _ _
      | exact gf2_Degree.mono _ _
      | exact LeO.none _
      | refine LeO.ite ?_ ?_
      | refine LeO.bind ?_ (fun _ => ?_)
set_option maxHeartbeats 8000000 in
set_option maxRecDepth 100000 in
theorem gf2_Rest.calls (k : Nat) (A0 : Option Addr) (c0 : Nat) (l0 : List Int) (a1 : Int) (r1 : Int) (r2 : Bool) (w : World) (hr0 : Kd.C (Kd.int .u8) w A0 l0.length l0) (hc0 : l0.length ≤ c0) (h : gf2_Rest.f k l0 a1 = some (r1, r2)) :
    Calls Tryd.prog 16 #[.slice A0 l0.length c0, .int .u64 a1] w fun e w' => e = .returned (.tuple #[.int .u64 r1, .bool r2]) ∧ Drawn0 w w' := by
  have HR0 := Aside0.mk hr0
  have HC0 := Aside0.mk hc0
  clear hr0 hc0
  have H : ((gf2_Degree.f k a1).bind fun t162 => (if t162 < 0 then (gf2_Rest.j0 k l0 a1 t162 true) else (gf2_Rest.j0 k l0 a1 t162 (t162 == 63)))) = some (r1, r2) := h
  clear h
  replace H := Option.bind_eq_some_iff.mp H
  obtain ⟨t162, A30, H⟩ := H
  replace H : (if t162 < 0 then (gf2_Rest.j0 k l0 a1 t162 true) else (gf2_Rest.j0 k l0 a1 t162 (t162 == 63))) = some (r1, r2) := H
  have A3 := Aside0.mk A30
  clear A30
  have HC4 := Aside0.mk H
  clear H
  go_enter Tryd.func16, Tryd.ntmps16
  go_upto_region 2 with (first | ((with_reducible refine gate_callee (f := 14) rfl ?_); refine goesL_ (some 11) rfl rfl Tryd.func14 (by kernel_rfl) rfl #[.int .u64 a1] rfl (by (try simp only [List.map_toArray, List.map_cons, List.map_nil]); first | done | rfl | (simp only [List.length_drop, List.length_take]; rfl)) ?_; (with_reducible refine (gf2_Degree.calls k a1 t162 _ A3.out).mono ?_); rintro e w' ⟨rfl, ⟨nd, rfl⟩⟩; refine ⟨_, rfl, ?_⟩))
  (try simp only [Act.put, List.setIfInBounds_toArray, List.set_cons_zero, List.set_cons_succ])
  go_cut [17] (fun v17 wc => ∃ (kq : Nat) (x17_3 : Bool), v17 = .bool x17_3 ∧ Aside0 (gf2_Rest.j0 kq l0 a1 t162 x17_3 = some (r1, r2)) ∧ Aside0 (kq ≤ k) ∧ Drawn0 w wc)
  case first =>
    have H := HC4.out
    clear HC4
    by_cases c5 : t162 < 0
    · rw [if_pos c5] at H
      have c5b0 : decide (t162 < 0) = true := decide_eq_true c5
      clear c5
      (first | rw [c5b0] | (simp only [i64_w, i32_w]; rw [c5b0]) | skip)
      have H' := Aside0.mk H
      clear H
      go_wp2
      go_meet
      case rel => exact ⟨_, (true), (by first | rfl | (simp; done) | (simp [*]; done)), H', ⟨by first | omega | exact Nat.le_refl _⟩, by repeat (first | exact Drawn0.refl _ | apply Drawn0.step)⟩
    · rw [if_neg c5] at H
      have c5b0 : decide (t162 < 0) = false := decide_eq_false c5
      clear c5
      (first | rw [c5b0] | (simp only [i64_w, i32_w]; rw [c5b0]) | skip)
      have H' := Aside0.mk H
      clear H
      go_wp2
      go_meet
      case rel => exact ⟨_, ((t162 == 63)), (by first | rfl | (simp; done) | (simp [*]; done)), H', ⟨by first | omega | exact Nat.le_refl _⟩, by repeat (first | exact Drawn0.refl _ | apply Drawn0.step)⟩
  case rest =>
    clear HC4
    try clear c1
    try clear p2
    try clear c5
    try clear c5b0
    obtain ⟨kq, x17_3, rfl, HA, HJ3, ⟨mc3, rfl⟩⟩ := hcut
    cases kq with
    | zero => exact absurd HA.out (by simp [gf2_Rest.j0])
    | succ kj3 =>
      have H := HA.out
      clear HA
      simp only [gf2_Rest.j0] at H
      by_cases c6 : x17_3 = true
      · subst c6
        have H1 : (some (0, false)) = some (r1, r2) := by rw [if_pos rfl] at H; exact H
        clear H
        have H := H1
        clear H1
        simp only [Option.some.injEq, Prod.mk.injEq] at H
        obtain ⟨rfl, rfl⟩ := H
        go_wp2
        go_ret2
        exact ⟨by first | rfl | (simp; done) | (simp [*]; done), by repeat (first | exact Drawn0.refl _ | apply Drawn0.step)⟩
      · replace c6 := Bool.eq_false_iff.mpr c6
        subst c6
        have H1 : (gf2_Rest.l0 kj3 a1 t162 0 l0 (l0.length : Int) 0) = some (r1, r2) := by rw [if_neg (show ¬ (false = true) by decide)] at H; exact H
        clear H
        have H := H1
        clear H1
        have H' := Aside0.mk H
        clear H
        go_wp2
        go_loopg [7, 20] kj3 (fun kq v7 v20 w' => ∃ (x7_2 : Int) (x20_2 : Int), v7 = .int .u64 x7_2 ∧ v20 = .int .i64 x20_2 ∧ Aside0 (gf2_Rest.l0 kq a1 t162 x7_2 l0 (l0.length : Int) x20_2 = some (r1, r2)) ∧ Aside0 (kq ≤ kj3) ∧ Drawn0 w w')
        case atStart => exact ⟨(0), (0), (by first | rfl | (simp; done) | (simp [*]; done)), (by first | rfl | (simp; done) | (simp [*]; done)), H', ⟨Nat.le_refl _⟩, by repeat (first | exact Drawn0.refl _ | apply Drawn0.step)⟩
        case round =>
          clear H'
          try clear c1
          try clear p2
          try clear c3
          try clear c5
          try clear c5b0
          try clear c6
          try clear p2
          obtain ⟨x7_2, x20_2, rfl, rfl, HA, HK2, ⟨m2, rfl⟩⟩ := hrel
          cases gk with
          | zero => exact absurd HA.out (by simp [gf2_Rest.l0])
          | succ k2 =>
            have H := HA.out
            clear HA
            simp only [gf2_Rest.l0] at H
            by_cases c7 : x20_2 < (l0.length : Int)
            · rw [if_pos c7] at H
              have c7b0 : decide (x20_2 < (l0.length : Int)) = true := decide_eq_true c7
              clear c7
              by_cases c8 : 0 ≤ x20_2
              · rw [if_pos c8] at H
                have c8b0 : decide (0 ≤ x20_2) = true := decide_eq_true c8
                clear c8
                by_cases c9 : x20_2 < (l0.length : Int)
                · rw [if_pos c9] at H
                  have c9b0 : decide (x20_2 < (l0.length : Int)) = true := decide_eq_true c9
                  clear c9
                  by_cases c10 : 0 ≤ t162
                  · rw [if_pos c10] at H
                    have c10b0 := eq_true c10
                    have c10b1 : decide (0 ≤ t162) = true := decide_eq_true c10
                    clear c10
                    obtain ⟨ji11, hji11⟩ : ∃ j_ : Int, (shr .u64 (Go.bits .or .u64 (IntKind.u64.wrap (x7_2 * 2)) (IntKind.u64.wrap (Go.bits .and .u8 (rd l0 x20_2) 1))) t162) = j_ := ⟨_, rfl⟩
                    replace H : (if (Go.bits .and .u64 (ji11) 1) = 1 then (gf2_Rest.l0 k2 a1 t162 (Go.bits .xor .u64 (Go.bits .or .u64 (IntKind.u64.wrap (x7_2 * 2)) (IntKind.u64.wrap (Go.bits .and .u8 (rd l0 x20_2) 1))) a1) l0 (l0.length : Int) (wrap64 (x20_2 + 1))) else (gf2_Rest.l0 k2 a1 t162 (Go.bits .or .u64 (IntKind.u64.wrap (x7_2 * 2)) (IntKind.u64.wrap (Go.bits .and .u8 (rd l0 x20_2) 1))) l0 (l0.length : Int) (wrap64 (x20_2 + 1)))) = some (r1, r2) := by first | (rw [hji11] at H; exact H) | (simp only [hji11] at H ⊢; exact H)
                    have hji11_ : ((Go.bits .or .u64 (IntKind.u64.wrap (x7_2 * 2)) (IntKind.u64.wrap (Go.bits .and .u8 (rd l0 x20_2) 1))) / 2 ^ min t162.toNat 64) = ji11 := hji11
                    have hji11z : t162 ≤ 64 → ((Go.bits .or .u64 (IntKind.u64.wrap (x7_2 * 2)) (IntKind.u64.wrap (Go.bits .and .u8 (rd l0 x20_2) 1))) / 2 ^ t162.toNat) = ji11 := shr_small hji11
                    by_cases c12 : (Go.bits .and .u64 (ji11) 1) = 1
                    · rw [if_pos c12] at H
                      have c12b0 : ((Go.bits .and .u64 (ji11) 1) == 1) = true := beq_iff_eq.mpr c12
                      have c12b1 : ((Go.bits .and .u64 (ji11) 1) != 1) = false := bne_eq_false_iff_eq.mpr c12
                      clear c12
                      have H' := Aside0.mk H
                      clear H
                      have p163 : 0 ≤ (x20_2 : Int) := of_decide_eq_true (by first | (with_reducible assumption) | assumption)
                      have q163 : x20_2 < (l0.length : Int) := of_decide_eq_true (by first | (with_reducible assumption) | assumption)
                      obtain ⟨ad163, e163, hx163_0⟩ := Kd.at_int HR0.out x20_2 p163 q163
                      cases e163
                      replace p163 := eq_true p163
                      replace q163 := eq_true q163
                      go_wp2
                      go_roundg k2
                      case measure => have := HJ3.out; have := HK2.out; omega
                      case rel => exact ⟨(Go.bits .xor .u64 (Go.bits .or .u64 (IntKind.u64.wrap (x7_2 * 2)) (IntKind.u64.wrap (Go.bits .and .u8 (rd l0 x20_2) 1))) a1), (wrap64 (x20_2 + 1)), (by first | rfl | (simp; done) | (simp [*]; done)), (by first | rfl | (simp; done) | (simp [*]; done)), H', ⟨by have := HJ3.out; have := HK2.out; omega⟩, by repeat (first | exact Drawn0.refl _ | apply Drawn0.step)⟩
                    · rw [if_neg c12] at H
                      have c12b0 : ((Go.bits .and .u64 (ji11) 1) == 1) = false := beq_eq_false_iff_ne.mpr c12
                      have c12b1 : ((Go.bits .and .u64 (ji11) 1) != 1) = true := bne_iff_ne.mpr c12
                      have H' := Aside0.mk H
                      clear H
                      have p163 : 0 ≤ (x20_2 : Int) := of_decide_eq_true (by first | (with_reducible assumption) | assumption)
                      have q163 : x20_2 < (l0.length : Int) := of_decide_eq_true (by first | (with_reducible assumption) | assumption)
                      obtain ⟨ad163, e163, hx163_0⟩ := Kd.at_int HR0.out x20_2 p163 q163
                      cases e163
                      replace p163 := eq_true p163
                      replace q163 := eq_true q163
                      go_wp2
                      go_roundg k2
                      case measure => have := HJ3.out; have := HK2.out; omega
                      case rel => exact ⟨(Go.bits .or .u64 (IntKind.u64.wrap (x7_2 * 2)) (IntKind.u64.wrap (Go.bits .and .u8 (rd l0 x20_2) 1))), (wrap64 (x20_2 + 1)), (by first | rfl | (simp; done) | (simp [*]; done)), (by first | rfl | (simp; done) | (simp [*]; done)), H', ⟨by have := HJ3.out; have := HK2.out; omega⟩, by repeat (first | exact Drawn0.refl _ | apply Drawn0.step)⟩
                  · rw [if_neg c10] at H
                    exact absurd H (by simp)
                · rw [if_neg c9] at H
                  exact absurd H (by simp)
              · rw [if_neg c8] at H
                exact absurd H (by simp)
            · rw [if_neg c7] at H
              have c7b0 : decide (x20_2 < (l0.length : Int)) = false := decide_eq_false c7
              clear c7
              simp only [Option.some.injEq, Prod.mk.injEq] at H
              obtain ⟨rfl, rfl⟩ := H
              go_wp2
              go_ret2
              exact ⟨by first | rfl | (simp; done) | (simp [*]; done), by repeat (first | exact Drawn0.refl _ | apply Drawn0.step)⟩

/-! ### shuttleref03_Coefficients: function 17 -/
def shuttleref03_Coefficients.l0 : Nat → Int → List Int → Int → Option (List Int)
  | 0, _, _, _ => none
  | k + 1, x0, x3, x4 => if x4 ≥ 0 then (if 0 ≤ x4 then (if x3.length < 140737488355328 then (shuttleref03_Coefficients.l0 k x0 (x3 ++ [(Go.bits .and .u64 (shr .u64 x0 x4) 1) % 256]) (wrap64 (x4 - 1))) else (none)) else (none)) else (some x3)
def shuttleref03_Coefficients.f (k : Nat) (a0 : Int) : Option (List Int) := shuttleref03_Coefficients.l0 k a0 ([] : List Int) 63
theorem shuttleref03_Coefficients.mono_l : ∀ k, (∀ y0 y1 y2, LeO (shuttleref03_Coefficients.l0 k y0 y1 y2) (shuttleref03_Coefficients.l0 (k + 1) y0 y1 y2))
  | 0 => fun _ _ _ r h => by simp [shuttleref03_Coefficients.l0] at h
  | k + 1 => by
    have ih0 := shuttleref03_Coefficients.mono_l k
    · intro y0 y1 y2
      unfold shuttleref03_Coefficients.l0
      repeat' first
      | (with_reducible exact ih0 _ _ _)
      | (with_reducible exact LeO.refl _)
      | (with_reducible exact LeO.none _)
      | (with_reducible refine LeO.ite ?_ ?_)
      | (with_reducible refine LeO.bind ?_ (fun _ => ?_))
      | exact ih0 _ _ _
      | exact LeO.none _
      | refine LeO.ite ?_ ?_
      | refine LeO.bind ?_ (fun _ => ?_)
theorem shuttleref03_Coefficients.mono : ∀ a0 k, LeO (shuttleref03_Coefficients.f k a0) (shuttleref03_Coefficients.f (k + 1) a0) := by
  intro a0 k
  have ih0 := shuttleref03_Coefficients.mono_l k
  unfold shuttleref03_Coefficients.f
  repeat' first
      | (with_reducible exact ih0 _ _ _)
      | (with_reducible exact LeO.refl _)
      | (with_reducible exact LeO.none _)
      | (with_reducible refine LeO.ite ?_ ?_)
      | (with_reducible refine LeO.bind ?_ (fun _ => ?_))
      | exact ih0 _ _ _
      | exact LeO.none _
      | refine LeO.ite ?_ ?_
      | refine LeO.bind ?_ (fun _ => ?_)
set_option maxHeartbeats 8000000 in
set_option maxRecDepth 100000 in
theorem shuttleref03_Coefficients.calls (k : Nat) (a0 : Int) (r : List Int) (w : World) (h : shuttleref03_Coefficients.f k a0 = some r) :
    Calls Tryd.prog 17 #[.int .u64 a0] w fun e w' => ∃ v0_ : Value, e = .returned (v0_) ∧ Kd.R (Kd.int .u8) 5 w' w.heap.size (fun _ => True) v0_ r ∧ Below w.heap.size w w' := by
  have HB := Aside0.mk (Below.refl w.heap.size w)
  have H : (shuttleref03_Coefficients.l0 k a0 ([] : List Int) 63) = some r := h
  clear h
  have H' := Aside0.mk H
  clear H
  go_enter Tryd.func17, Tryd.ntmps17
  go_wp2
  go_loopg [3, 4] k (fun kq v3 v4 w' => ∃ (x3_1 : List Int) (x4_1 : Int), v4 = .int .i64 x4_1 ∧ Aside0 (shuttleref03_Coefficients.l0 kq a0 x3_1 x4_1 = some r) ∧ Aside0 (kq ≤ k) ∧ Aside0 (Kd.R (Kd.int .u8) 5 w' w.heap.size (fun _ => True) v3 x3_1) ∧ Aside0 (Below w.heap.size w w'))
  case atStart => exact ⟨(([] : List Int)), (63), (by first | rfl | (simp; done) | (simp [*]; done)), H', ⟨Nat.le_refl _⟩, ⟨by first | exact Kd.R_nil _ _ _ _ _ | exact Kd.N_nil _ _ _ _ _ | exact Kd.V_nil _ _ _ _ _ | exact Kd.Q_nil _ _ _ _ _ | exact Kd.S_nil _ _ _ _ _⟩, ⟨by repeat (first | (with_reducible first | exact HB.out | apply below_alloc | apply pw_below_drewN | apply below_drew1) | exact HB.out)⟩⟩
  case round =>
    clear H'
    try clear c1
    obtain ⟨x3_1, x4_1, rfl, HA, HK1, HO_3, HB⟩ := hrel
    cases gk with
    | zero => exact absurd HA.out (by simp [shuttleref03_Coefficients.l0])
    | succ k1 =>
      have H := HA.out
      clear HA
      simp only [shuttleref03_Coefficients.l0] at H
      by_cases c2 : x4_1 ≥ 0
      · rw [if_pos c2] at H
        have c2b0 : decide (0 ≤ x4_1) = true := decide_eq_true c2
        clear c2
        by_cases c3 : 0 ≤ x4_1
        · rw [if_pos c3] at H
          have c3b0 := eq_true c3
          have c3b1 : decide (0 ≤ x4_1) = true := decide_eq_true c3
          clear c3
          obtain ⟨ji4, hji4⟩ : ∃ j_ : Int, (shr .u64 a0 x4_1) = j_ := ⟨_, rfl⟩
          replace H : (if x3_1.length < 140737488355328 then (shuttleref03_Coefficients.l0 k1 a0 (x3_1 ++ [(Go.bits .and .u64 (ji4) 1) % 256]) (wrap64 (x4_1 - 1))) else (none)) = some r := by first | (rw [hji4] at H; exact H) | (simp only [hji4] at H ⊢; exact H)
          have hji4_ : (a0 / 2 ^ min x4_1.toNat 64) = ji4 := hji4
          have hji4z : x4_1 ≤ 64 → (a0 / 2 ^ x4_1.toNat) = ji4 := shr_small hji4
          by_cases c5 : x3_1.length < 140737488355328
          · rw [if_pos c5] at H
            have LMc5 := Aside0.mk c5
            clear c5
            obtain ⟨y164, hy164⟩ : ∃ y_ : List Int, y_ = (x3_1 ++ [(Go.bits .and .u64 (ji4) 1) % 256]) := ⟨_, rfl⟩
            replace H : (shuttleref03_Coefficients.l0 k1 a0 y164 (wrap64 (x4_1 - 1))) = some r := by first | (rw [hy164]; with_reducible exact H) | (have H2_ := (Option.bind_some _ _).symm.trans H; rw [hy164]; with_reducible exact H2_) | (have H2_ := (Option.bind_some _ _).symm.trans H; with_reducible exact H2_) | with_reducible exact H | (rw [hy164]; exact H) | exact H
            have Ny164 := Aside0.mk hy164
            clear hy164
            have H' := Aside0.mk H
            clear H
            go_wp2_with (first | ((with_reducible refine gate_builtin (b := .append) (xs := #[.tmp 9, .tmp 15]) rfl ?_); at_builtin; refine Kd.R_append (Kd.int .u8) (w0 := w) w.heap.size rfl (.tmp 9) (.tmp 15) 36 5 (.int .u8 0) 1 rfl Tryd.underlying36 info5 rfl (by decide) (by omega) u3 x3_1 ((Go.bits .and .u64 (ji4) 1) % 256) [.int .u8 ((Go.bits .and .u64 (ji4) 1) % 256)] (fun _ => True) (fun _ => False) rfl rfl ?aP (fun _ hk => hk.elim) ?aF ?aO ?aB ?aS ?aL ?_; (case aP => exact rfl); (case aB => exact (by repeat (first | (with_reducible first | exact HB.out | apply below_alloc | apply pw_below_drewN | apply below_drew1) | exact HB.out))); (case aF => exact (fun _ _ => trivial)); (case aO => exact (by (with_reducible repeat (first | apply Kd.R_alloc | apply Kd.R_drewN | apply Kd.R_drew)); exact HO_3.out)); (case aS => exact (below_size (by repeat (first | (with_reducible first | exact HB.out | apply below_alloc | apply pw_below_drewN | apply below_drew1) | exact HB.out)))); (case aL => have := LMc5.out; omega); intro v165 w6 ho hb hg hat; rw [← Ny164.out] at ho; have n0_ := Aside0.mk (hb); have n1_ := Aside0.mk (ho); clear HB; clear HO_3; have HB := n0_; have HO166 := n1_; clear n0_ n1_; clear ho hb hg hat))
            go_roundg k1
            case measure => have := HK1.out; omega
            case rel => exact ⟨(y164), (wrap64 (x4_1 - 1)), (by first | rfl | (simp; done) | (simp [*]; done)), H', ⟨by have := HK1.out; omega⟩, ⟨by (with_reducible repeat (first | apply Kd.R_alloc | apply Kd.R_drewN | apply Kd.R_drew)); exact HO166.out⟩, ⟨by repeat (first | (with_reducible first | exact HB.out | apply below_alloc | apply pw_below_drewN | apply below_drew1) | exact HB.out)⟩⟩
          · rw [if_neg c5] at H
            exact absurd H (by simp)
        · rw [if_neg c3] at H
          exact absurd H (by simp)
      · rw [if_neg c2] at H
        have c2b0 : decide (0 ≤ x4_1) = false := decide_eq_false c2
        clear c2
        obtain rfl := Option.some.inj H
        go_wp2
        go_ret
        exact ⟨_, by first | rfl | (simp [errW_none, errW_some] <;> rfl) | (simp [*, errW_none, errW_some] <;> rfl), by (with_reducible repeat (first | apply Kd.R_alloc | apply Kd.R_drewN | apply Kd.R_drew)); exact HO_3.out, by repeat (first | (with_reducible first | exact HB.out | apply below_alloc | apply pw_below_drewN | apply below_drew1) | exact HB.out)⟩

/-! ### shuttleref03_Rest: function 18 -/
def shuttleref03_Rest.l0 : Nat → List Int → Int → Int → Int → Int → Option (Int)
  | 0, _, _, _, _, _ => none
  | k + 1, x0, x1, x5, x6, x7 => if x7 < (x0.length : Int) then (if 0 ≤ x7 then (if 0 ≤ x6 then (if (Go.bits .and .u64 (shr .u64 (Go.bits .xor .u64 (IntKind.u64.wrap (x5 * 2)) (IntKind.u64.wrap (Go.bits .and .u8 (rd x0 x7) 1))) x6) 1) = 1 then (shuttleref03_Rest.l0 k x0 x1 (Go.bits .xor .u64 (Go.bits .xor .u64 (IntKind.u64.wrap (x5 * 2)) (IntKind.u64.wrap (Go.bits .and .u8 (rd x0 x7) 1))) x1) x6 (wrap64 (x7 + 1))) else (shuttleref03_Rest.l0 k x0 x1 (Go.bits .xor .u64 (IntKind.u64.wrap (x5 * 2)) (IntKind.u64.wrap (Go.bits .and .u8 (rd x0 x7) 1))) x6 (wrap64 (x7 + 1)))) else (none)) else (none)) else (some x5)
def shuttleref03_Rest.f (k : Nat) (l0 : List Int) (a1 : Int) : Option (Int) := (shuttleref03_Degree.f k a1).bind fun t167 => (shuttleref03_Rest.l0 k l0 a1 0 t167 0)
theorem shuttleref03_Rest.mono_l : ∀ k, (∀ y0 y1 y2 y3 y4, LeO (shuttleref03_Rest.l0 k y0 y1 y2 y3 y4) (shuttleref03_Rest.l0 (k + 1) y0 y1 y2 y3 y4))
  | 0 => fun _ _ _ _ _ r h => by simp [shuttleref03_Rest.l0] at h
  | k + 1 => by
    have ih0 := shuttleref03_Rest.mono_l k
    · intro y0 y1 y2 y3 y4
      unfold shuttleref03_Rest.l0
      repeat' first
      | (with_reducible exact ih0 _ _ _ _ _)
      | (with_reducible exact shuttleref03_Degree.mono _ _)
      | (with_reducible exact LeO.refl _)
      | (with_reducible exact LeO.none _)
      | (with_reducible refine LeO.ite ?_ ?_)
      | (with_reducible refine LeO.bind ?_ (fun _ => ?_))
      | exact ih0 _ _ _ _ _
      | exact shuttleref03_Degree.mono _ _
      | exact LeO.none _
      | refine LeO.ite ?_ ?_
      | refine LeO.bind ?_ (fun _ => ?_)
theorem shuttleref03_Rest.mono : ∀ a0 a1 k, LeO (shuttleref03_Rest.f k a0 a1) (shuttleref03_Rest.f (k + 1) a0 a1) := by
  intro a0 a1 k
  have ih0 := shuttleref03_Rest.mono_l k
  unfold shuttleref03_Rest.f
  repeat' first
      | (with_reducible exact ih0 _ _ _ _ _)
      | (with_reducible exact shuttleref03_Degree.mono _ _)
      | (with_reducible exact LeO.refl _)
      | (with_reducible exact LeO.none _)
      | (with_reducible refine LeO.ite ?_ ?_)
      | (with_reducible refine LeO.bind ?_ (fun _ => ?_))
      | exact ih0 _ _ _ _ _
      | exact shuttleref03_Degree.mono _ _
      | exact LeO.none _
      | refine LeO.ite ?_ ?_
      | refine LeO.bind ?_ (fun _ => ?_)
set_option maxHeartbeats 8000000 in
set_option maxRecDepth 100000 in
theorem shuttleref03_Rest.calls (k : Nat) (A0 : Option Addr) (c0 : Nat) (l0 : List Int) (a1 : Int) (r : Int) (w : World) (hr0 : Kd.C (Kd.int .u8) w A0 l0.length l0) (hc0 : l0.length ≤ c0) (h : shuttleref03_Rest.f k l0 a1 = some r) :
    Calls Tryd.prog 18 #[.slice A0 l0.length c0, .int .u64 a1] w fun e w' => e = .returned (.int .u64 r) ∧ Drawn0 w w' := by
  have HR0 := Aside0.mk hr0
  have HC0 := Aside0.mk hc0
  clear hr0 hc0
  have H : ((shuttleref03_Degree.f k a1).bind fun t167 => (shuttleref03_Rest.l0 k l0 a1 0 t167 0)) = some r := h
  clear h
  replace H := Option.bind_eq_some_iff.mp H
  obtain ⟨t167, A30, H⟩ := H
  replace H : (shuttleref03_Rest.l0 k l0 a1 0 t167 0) = some r := H
  have A3 := Aside0.mk A30
  clear A30
  have H' := Aside0.mk H
  clear H
  go_enter Tryd.func18, Tryd.ntmps18
  go_wp2_with (first | ((with_reducible refine gate_callee (f := 11) rfl ?_); refine goesL_ (some 9) rfl rfl Tryd.func11 (by kernel_rfl) rfl #[.int .u64 a1] rfl (by (try simp only [List.map_toArray, List.map_cons, List.map_nil]); first | done | rfl | (simp only [List.length_drop, List.length_take]; rfl)) ?_; (with_reducible refine (shuttleref03_Degree.calls k a1 t167 _ A3.out).mono ?_); rintro e w' ⟨rfl, ⟨nd, rfl⟩⟩; refine ⟨_, rfl, ?_⟩))
  go_loopg [5, 7] k (fun kq v5 v7 w' => ∃ (x5_1 : Int) (x7_1 : Int), v5 = .int .u64 x5_1 ∧ v7 = .int .i64 x7_1 ∧ Aside0 (shuttleref03_Rest.l0 kq l0 a1 x5_1 t167 x7_1 = some r) ∧ Aside0 (kq ≤ k) ∧ Drawn0 w w')
  case atStart => exact ⟨(0), (0), (by first | rfl | (simp; done) | (simp [*]; done)), (by first | rfl | (simp; done) | (simp [*]; done)), H', ⟨Nat.le_refl _⟩, by repeat (first | exact Drawn0.refl _ | apply Drawn0.step)⟩
  case round =>
    clear H'
    try clear c1
    try clear p2
    obtain ⟨x5_1, x7_1, rfl, rfl, HA, HK1, ⟨m1, rfl⟩⟩ := hrel
    cases gk with
    | zero => exact absurd HA.out (by simp [shuttleref03_Rest.l0])
    | succ k1 =>
      have H := HA.out
      clear HA
      simp only [shuttleref03_Rest.l0] at H
      by_cases c4 : x7_1 < (l0.length : Int)
      · rw [if_pos c4] at H
        have c4b0 : decide (x7_1 < (l0.length : Int)) = true := decide_eq_true c4
        clear c4
        by_cases c5 : 0 ≤ x7_1
        · rw [if_pos c5] at H
          have c5b0 : decide (0 ≤ x7_1) = true := decide_eq_true c5
          clear c5
          by_cases c6 : 0 ≤ t167
          · rw [if_pos c6] at H
            have c6b0 := eq_true c6
            have c6b1 : decide (0 ≤ t167) = true := decide_eq_true c6
            clear c6
            obtain ⟨ji7, hji7⟩ : ∃ j_ : Int, (shr .u64 (Go.bits .xor .u64 (IntKind.u64.wrap (x5_1 * 2)) (IntKind.u64.wrap (Go.bits .and .u8 (rd l0 x7_1) 1))) t167) = j_ := ⟨_, rfl⟩
            replace H : (if (Go.bits .and .u64 (ji7) 1) = 1 then (shuttleref03_Rest.l0 k1 l0 a1 (Go.bits .xor .u64 (Go.bits .xor .u64 (IntKind.u64.wrap (x5_1 * 2)) (IntKind.u64.wrap (Go.bits .and .u8 (rd l0 x7_1) 1))) a1) t167 (wrap64 (x7_1 + 1))) else (shuttleref03_Rest.l0 k1 l0 a1 (Go.bits .xor .u64 (IntKind.u64.wrap (x5_1 * 2)) (IntKind.u64.wrap (Go.bits .and .u8 (rd l0 x7_1) 1))) t167 (wrap64 (x7_1 + 1)))) = some r := by first | (rw [hji7] at H; exact H) | (simp only [hji7] at H ⊢; exact H)
            have hji7_ : ((Go.bits .xor .u64 (IntKind.u64.wrap (x5_1 * 2)) (IntKind.u64.wrap (Go.bits .and .u8 (rd l0 x7_1) 1))) / 2 ^ min t167.toNat 64) = ji7 := hji7
            have hji7z : t167 ≤ 64 → ((Go.bits .xor .u64 (IntKind.u64.wrap (x5_1 * 2)) (IntKind.u64.wrap (Go.bits .and .u8 (rd l0 x7_1) 1))) / 2 ^ t167.toNat) = ji7 := shr_small hji7
            by_cases c8 : (Go.bits .and .u64 (ji7) 1) = 1
            · rw [if_pos c8] at H
              have c8b0 : ((Go.bits .and .u64 (ji7) 1) == 1) = true := beq_iff_eq.mpr c8
              have c8b1 : ((Go.bits .and .u64 (ji7) 1) != 1) = false := bne_eq_false_iff_eq.mpr c8
              clear c8
              have H' := Aside0.mk H
              clear H
              have p168 : 0 ≤ (x7_1 : Int) := of_decide_eq_true (by first | (with_reducible assumption) | assumption)
              have q168 : x7_1 < (l0.length : Int) := of_decide_eq_true (by first | (with_reducible assumption) | assumption)
              obtain ⟨ad168, e168, hx168_0⟩ := Kd.at_int HR0.out x7_1 p168 q168
              cases e168
              replace p168 := eq_true p168
              replace q168 := eq_true q168
              go_wp2
              go_roundg k1
              case measure => have := HK1.out; omega
              case rel => exact ⟨(Go.bits .xor .u64 (Go.bits .xor .u64 (IntKind.u64.wrap (x5_1 * 2)) (IntKind.u64.wrap (Go.bits .and .u8 (rd l0 x7_1) 1))) a1), (wrap64 (x7_1 + 1)), (by first | rfl | (simp; done) | (simp [*]; done)), (by first | rfl | (simp; done) | (simp [*]; done)), H', ⟨by have := HK1.out; omega⟩, by repeat (first | exact Drawn0.refl _ | apply Drawn0.step)⟩
            · rw [if_neg c8] at H
              have c8b0 : ((Go.bits .and .u64 (ji7) 1) == 1) = false := beq_eq_false_iff_ne.mpr c8
              have c8b1 : ((Go.bits .and .u64 (ji7) 1) != 1) = true := bne_iff_ne.mpr c8
              have H' := Aside0.mk H
              clear H
              have p168 : 0 ≤ (x7_1 : Int) := of_decide_eq_true (by first | (with_reducible assumption) | assumption)
              have q168 : x7_1 < (l0.length : Int) := of_decide_eq_true (by first | (with_reducible assumption) | assumption)
              obtain ⟨ad168, e168, hx168_0⟩ := Kd.at_int HR0.out x7_1 p168 q168
              cases e168
              replace p168 := eq_true p168
              replace q168 := eq_true q168
              go_wp2
              go_roundg k1
              case measure => have := HK1.out; omega
              case rel => exact ⟨(Go.bits .xor .u64 (IntKind.u64.wrap (x5_1 * 2)) (IntKind.u64.wrap (Go.bits .and .u8 (rd l0 x7_1) 1))), (wrap64 (x7_1 + 1)), (by first | rfl | (simp; done) | (simp [*]; done)), (by first | rfl | (simp; done) | (simp [*]; done)), H', ⟨by have := HK1.out; omega⟩, by repeat (first | exact Drawn0.refl _ | apply Drawn0.step)⟩
          · rw [if_neg c6] at H
            exact absurd H (by simp)
        · rw [if_neg c5] at H
          exact absurd H (by simp)
      · rw [if_neg c4] at H
        have c4b0 : decide (x7_1 < (l0.length : Int)) = false := decide_eq_false c4
        clear c4
        obtain rfl := Option.some.inj H
        go_wp2
        go_ret
        exact ⟨by first | rfl | (simp; done) | (simp [*]; done), by repeat (first | exact Drawn0.refl _ | apply Drawn0.step)⟩

end Go.Proofs.YtbkeogllicgbaaaDoor.Q
