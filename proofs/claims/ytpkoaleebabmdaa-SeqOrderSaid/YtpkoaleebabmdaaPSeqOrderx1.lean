-- PRINTED BY print.sh 35421559b90ae4d0a3588c463048766b98c2df88dd9212a6774a882060cdf62d: not written by this session
import Derived.Test.YtpkoaleebabmdaaPSeqOrderx0
namespace Go.Proofs.Ytpkoaleebabmdaa.PSeqOrder
open Go.RowKit Go.Proofs.YtpkoaleebabmdaaW.PrintWords Go.Proofs.YtpkoaleebabmdaaW.PrintLast Go.Proofs.YtpkoaleebabmdaaW.PrintMore
attribute [local go_sem] max2_int min2_int max_two min_two max_three min_three max_four min_four   -- for this text's walks alone
set_option linter.unusedVariables false
set_option linter.unusedSimpArgs false

/-! ### seq_Plus: function 9 -/
def seq_Plus.f (a0 : Int) (a1 : Int) : Option (Int) := some (IntKind.u16.wrap (a0 + (IntKind.u16.wrap (a1))))
set_option maxHeartbeats 8000000 in
set_option maxRecDepth 100000 in
theorem seq_Plus.calls (a0 : Int) (a1 : Int) (r : Int) (w : World) (h : seq_Plus.f a0 a1 = some r) :
    Calls Try.prog 9 #[.int .u16 a0, .int .i64 a1] w fun e w' => e = .returned (.int .u16 r) ∧ Drawn0 w w' := by
  have H : (some (IntKind.u16.wrap (a0 + (IntKind.u16.wrap (a1))))) = some r := h
  clear h
  obtain rfl := Option.some.inj H
  go_enter Try.func9, Try.ntmps9
  go_wp2
  go_ret
  exact ⟨by first | rfl | (simp; done) | (simp [*]; done), by repeat (first | exact Drawn0.refl _ | apply Drawn0.step)⟩

/-! ### seq_Ahead: function 13 -/
def seq_Ahead.f (a0 : Int) (a1 : Int) : Option (Int) := some (wrap64 (IntKind.u16.wrap (a1 - a0)))
set_option maxHeartbeats 8000000 in
set_option maxRecDepth 100000 in
theorem seq_Ahead.calls (a0 : Int) (a1 : Int) (r : Int) (w : World) (h : seq_Ahead.f a0 a1 = some r) :
    Calls Try.prog 13 #[.int .u16 a0, .int .u16 a1] w fun e w' => e = .returned (.int .i64 r) ∧ Drawn0 w w' := by
  have H : (some (wrap64 (IntKind.u16.wrap (a1 - a0)))) = some r := h
  clear h
  obtain rfl := Option.some.inj H
  go_enter Try.func13, Try.ntmps13
  go_wp2
  go_ret
  exact ⟨by first | rfl | (simp; done) | (simp [*]; done), by repeat (first | exact Drawn0.refl _ | apply Drawn0.step)⟩

/-! ### seq_Before: function 12 -/
def seq_Before.f (a0 : Int) (a1 : Int) : Option (Bool) := (seq_Ahead.f a0 a1).bind fun t101 => (if t101 ≥ 1 then (some (decide (t101 < 32768))) else (some false))
set_option maxHeartbeats 8000000 in
set_option maxRecDepth 100000 in
theorem seq_Before.calls (a0 : Int) (a1 : Int) (r : Bool) (w : World) (h : seq_Before.f a0 a1 = some r) :
    Calls Try.prog 12 #[.int .u16 a0, .int .u16 a1] w fun e w' => e = .returned (.bool r) ∧ Drawn0 w w' := by
  have H : ((seq_Ahead.f a0 a1).bind fun t101 => (if t101 ≥ 1 then (some (decide (t101 < 32768))) else (some false))) = some r := h
  clear h
  replace H := Option.bind_eq_some_iff.mp H
  obtain ⟨t101, A30, H⟩ := H
  replace H : (if t101 ≥ 1 then (some (decide (t101 < 32768))) else (some false)) = some r := H
  have A3 := Aside0.mk A30
  clear A30
  by_cases c4 : t101 ≥ 1
  · rw [if_pos c4] at H
    have c4b0 : decide (1 ≤ t101) = true := decide_eq_true c4
    clear c4
    obtain rfl := Option.some.inj H
    go_enter Try.func12, Try.ntmps12
    go_wp2_with (first | ((with_reducible refine gate_callee (f := 13) rfl ?_); refine goesL_ (some 8) rfl rfl Try.func13 (by kernel_rfl) rfl #[.int .u16 a0, .int .u16 a1] rfl (by (try simp only [List.map_toArray, List.map_cons, List.map_nil]); first | done | rfl | (simp only [List.length_drop, List.length_take]; rfl)) ?_; (with_reducible refine (seq_Ahead.calls a0 a1 t101 _ A3.out).mono ?_); rintro e w' ⟨rfl, ⟨nd, rfl⟩⟩; refine ⟨_, rfl, ?_⟩))
    go_ret
    exact ⟨by first | rfl | (simp; done) | (simp [*]; done), by repeat (first | exact Drawn0.refl _ | apply Drawn0.step)⟩
  · rw [if_neg c4] at H
    have c4b0 : decide (1 ≤ t101) = false := decide_eq_false c4
    clear c4
    obtain rfl := Option.some.inj H
    go_enter Try.func12, Try.ntmps12
    go_wp2_with (first | ((with_reducible refine gate_callee (f := 13) rfl ?_); refine goesL_ (some 8) rfl rfl Try.func13 (by kernel_rfl) rfl #[.int .u16 a0, .int .u16 a1] rfl (by (try simp only [List.map_toArray, List.map_cons, List.map_nil]); first | done | rfl | (simp only [List.length_drop, List.length_take]; rfl)) ?_; (with_reducible refine (seq_Ahead.calls a0 a1 t101 _ A3.out).mono ?_); rintro e w' ⟨rfl, ⟨nd, rfl⟩⟩; refine ⟨_, rfl, ?_⟩))
    go_ret
    exact ⟨by first | rfl | (simp; done) | (simp [*]; done), by repeat (first | exact Drawn0.refl _ | apply Drawn0.step)⟩

/-! ### shuttlelaw14_round: function 10 -/
def shuttlelaw14_round.f  : Option (Bool) := (seq_Plus.f 65535 2).bind fun t102 => (if t102 = 1 then ((seq_Before.f 65535 1).bind fun t103 => (if t103 = true then ((seq_Before.f 1 65535).bind fun t104 => (some (!t104))) else (some false))) else (some false))
set_option maxHeartbeats 8000000 in
set_option maxRecDepth 100000 in
theorem shuttlelaw14_round.calls  (r : Bool) (w : World) (h : shuttlelaw14_round.f  = some r) :
    Calls Try.prog 10 #[] w fun e w' => e = .returned (.bool r) ∧ Drawn0 w w' := by
  have H : ((seq_Plus.f 65535 2).bind fun t102 => (if t102 = 1 then ((seq_Before.f 65535 1).bind fun t103 => (if t103 = true then ((seq_Before.f 1 65535).bind fun t104 => (some (!t104))) else (some false))) else (some false))) = some r := h
  clear h
  replace H := Option.bind_eq_some_iff.mp H
  obtain ⟨t102, A10, H⟩ := H
  replace H : (if t102 = 1 then ((seq_Before.f 65535 1).bind fun t103 => (if t103 = true then ((seq_Before.f 1 65535).bind fun t104 => (some (!t104))) else (some false))) else (some false)) = some r := H
  have A1 := Aside0.mk A10
  clear A10
  by_cases c2 : t102 = 1
  · rw [if_pos c2] at H
    have c2b0 : (t102 == 1) = true := beq_iff_eq.mpr c2
    have c2b1 : (t102 != 1) = false := bne_eq_false_iff_eq.mpr c2
    clear c2
    replace H := Option.bind_eq_some_iff.mp H
    obtain ⟨t103, A30, H⟩ := H
    replace H : (if t103 = true then ((seq_Before.f 1 65535).bind fun t104 => (some (!t104))) else (some false)) = some r := H
    have A3 := Aside0.mk A30
    clear A30
    by_cases c4 : t103 = true
    · subst c4
      have H1 : ((seq_Before.f 1 65535).bind fun t104 => (some (!t104))) = some r := by rw [if_pos rfl] at H; exact H
      clear H
      have H := H1
      clear H1
      replace H := Option.bind_eq_some_iff.mp H
      obtain ⟨t104, A50, H⟩ := H
      replace H : (some (!t104)) = some r := H
      have A5 := Aside0.mk A50
      clear A50
      obtain rfl := Option.some.inj H
      go_enter Try.func10, Try.ntmps10
      go_wp2_with (first | ((with_reducible refine gate_callee (f := 9) rfl ?_); refine goesL_ (some 1) rfl rfl Try.func9 (by kernel_rfl) rfl #[.int .u16 65535, .int .i64 2] rfl (by (try simp only [List.map_toArray, List.map_cons, List.map_nil]); first | done | rfl | (simp only [List.length_drop, List.length_take]; rfl)) ?_; (with_reducible refine (seq_Plus.calls 65535 2 t102 _ A1.out).mono ?_); rintro e w' ⟨rfl, ⟨nd, rfl⟩⟩; refine ⟨_, rfl, ?_⟩) | (go_at_call 12; (with_reducible refine (seq_Before.calls 65535 1 true _ A3.out).mono ?_); rintro e w' ⟨rfl, ⟨nd, rfl⟩⟩) | (go_at_call 12; (with_reducible refine (seq_Before.calls 1 65535 t104 _ A5.out).mono ?_); rintro e w' ⟨rfl, ⟨nd, rfl⟩⟩))
      go_ret
      exact ⟨by first | rfl | (simp; done) | (simp [*]; done), by repeat (first | exact Drawn0.refl _ | apply Drawn0.step)⟩
    · replace c4 := Bool.eq_false_iff.mpr c4
      subst c4
      have H1 : (some false) = some r := by rw [if_neg (show ¬ (false = true) by decide)] at H; exact H
      clear H
      have H := H1
      clear H1
      obtain rfl := Option.some.inj H
      go_enter Try.func10, Try.ntmps10
      go_wp2_with (first | ((with_reducible refine gate_callee (f := 9) rfl ?_); refine goesL_ (some 1) rfl rfl Try.func9 (by kernel_rfl) rfl #[.int .u16 65535, .int .i64 2] rfl (by (try simp only [List.map_toArray, List.map_cons, List.map_nil]); first | done | rfl | (simp only [List.length_drop, List.length_take]; rfl)) ?_; (with_reducible refine (seq_Plus.calls 65535 2 t102 _ A1.out).mono ?_); rintro e w' ⟨rfl, ⟨nd, rfl⟩⟩; refine ⟨_, rfl, ?_⟩) | (go_at_call 12; (with_reducible refine (seq_Before.calls 65535 1 false _ A3.out).mono ?_); rintro e w' ⟨rfl, ⟨nd, rfl⟩⟩))
      go_ret
      exact ⟨by first | rfl | (simp; done) | (simp [*]; done), by repeat (first | exact Drawn0.refl _ | apply Drawn0.step)⟩
  · rw [if_neg c2] at H
    have c2b0 : (t102 == 1) = false := beq_eq_false_iff_ne.mpr c2
    have c2b1 : (t102 != 1) = true := bne_iff_ne.mpr c2
    obtain rfl := Option.some.inj H
    go_enter Try.func10, Try.ntmps10
    go_wp2_with (first | ((with_reducible refine gate_callee (f := 9) rfl ?_); refine goesL_ (some 1) rfl rfl Try.func9 (by kernel_rfl) rfl #[.int .u16 65535, .int .i64 2] rfl (by (try simp only [List.map_toArray, List.map_cons, List.map_nil]); first | done | rfl | (simp only [List.length_drop, List.length_take]; rfl)) ?_; (with_reducible refine (seq_Plus.calls 65535 2 t102 _ A1.out).mono ?_); rintro e w' ⟨rfl, ⟨nd, rfl⟩⟩; refine ⟨_, rfl, ?_⟩))
    go_ret
    exact ⟨by first | rfl | (simp; done) | (simp [*]; done), by repeat (first | exact Drawn0.refl _ | apply Drawn0.step)⟩

/-! ### shuttlelaw14_SeqOrder: function 4 -/
def shuttlelaw14_SeqOrder.f (a0 : Int) (a1 : Int) (a2 : Int) : Option (Bool) := (seq_Plus.f a0 (wrap64 (1 + (wrap64 (Int.tmod (IntKind.u64.wrap (a1)) 30000))))).bind fun t105 => ((seq_Plus.f t105 (wrap64 (1 + (wrap64 (Int.tmod (IntKind.u64.wrap (a2)) 2767))))).bind fun t106 => ((shuttlelaw14_round.f).bind fun t107 => (if t107 = true then ((seq_Before.f a0 t105).bind fun t108 => (if t108 = true then ((seq_Before.f t105 t106).bind fun t109 => (if t109 = true then ((seq_Before.f a0 t106).bind fun t110 => (if t110 = true then ((seq_Before.f t106 a0).bind fun t111 => (if t111 = true then (some false) else ((seq_Ahead.f a0 t106).bind fun t112 => (some (t112 == (wrap64 ((wrap64 (1 + (wrap64 (Int.tmod (IntKind.u64.wrap (a1)) 30000)))) + (wrap64 (1 + (wrap64 (Int.tmod (IntKind.u64.wrap (a2)) 2767))))))))))) else (some false))) else (some false))) else (some false))) else (some false))))
set_option maxHeartbeats 8000000 in
set_option maxRecDepth 100000 in
theorem shuttlelaw14_SeqOrder.calls (a0 : Int) (a1 : Int) (a2 : Int) (r : Bool) (w : World) (h : shuttlelaw14_SeqOrder.f a0 a1 a2 = some r) :
    Calls Try.prog 4 #[.int .u16 a0, .int .i64 a1, .int .i64 a2] w fun e w' => e = .returned (.bool r) ∧ Drawn0 w w' := by
  have H : ((seq_Plus.f a0 (wrap64 (1 + (wrap64 (Int.tmod (IntKind.u64.wrap (a1)) 30000))))).bind fun t105 => ((seq_Plus.f t105 (wrap64 (1 + (wrap64 (Int.tmod (IntKind.u64.wrap (a2)) 2767))))).bind fun t106 => ((shuttlelaw14_round.f).bind fun t107 => (if t107 = true then ((seq_Before.f a0 t105).bind fun t108 => (if t108 = true then ((seq_Before.f t105 t106).bind fun t109 => (if t109 = true then ((seq_Before.f a0 t106).bind fun t110 => (if t110 = true then ((seq_Before.f t106 a0).bind fun t111 => (if t111 = true then (some false) else ((seq_Ahead.f a0 t106).bind fun t112 => (some (t112 == (wrap64 ((wrap64 (1 + (wrap64 (Int.tmod (IntKind.u64.wrap (a1)) 30000)))) + (wrap64 (1 + (wrap64 (Int.tmod (IntKind.u64.wrap (a2)) 2767))))))))))) else (some false))) else (some false))) else (some false))) else (some false))))) = some r := h
  clear h
  replace H := Option.bind_eq_some_iff.mp H
  obtain ⟨t105, A40, H⟩ := H
  replace H : ((seq_Plus.f t105 (wrap64 (1 + (wrap64 (Int.tmod (IntKind.u64.wrap (a2)) 2767))))).bind fun t106 => ((shuttlelaw14_round.f).bind fun t107 => (if t107 = true then ((seq_Before.f a0 t105).bind fun t108 => (if t108 = true then ((seq_Before.f t105 t106).bind fun t109 => (if t109 = true then ((seq_Before.f a0 t106).bind fun t110 => (if t110 = true then ((seq_Before.f t106 a0).bind fun t111 => (if t111 = true then (some false) else ((seq_Ahead.f a0 t106).bind fun t112 => (some (t112 == (wrap64 ((wrap64 (1 + (wrap64 (Int.tmod (IntKind.u64.wrap (a1)) 30000)))) + (wrap64 (1 + (wrap64 (Int.tmod (IntKind.u64.wrap (a2)) 2767))))))))))) else (some false))) else (some false))) else (some false))) else (some false)))) = some r := H
  have A4 := Aside0.mk A40
  clear A40
  replace H := Option.bind_eq_some_iff.mp H
  obtain ⟨t106, A50, H⟩ := H
  replace H : ((shuttlelaw14_round.f).bind fun t107 => (if t107 = true then ((seq_Before.f a0 t105).bind fun t108 => (if t108 = true then ((seq_Before.f t105 t106).bind fun t109 => (if t109 = true then ((seq_Before.f a0 t106).bind fun t110 => (if t110 = true then ((seq_Before.f t106 a0).bind fun t111 => (if t111 = true then (some false) else ((seq_Ahead.f a0 t106).bind fun t112 => (some (t112 == (wrap64 ((wrap64 (1 + (wrap64 (Int.tmod (IntKind.u64.wrap (a1)) 30000)))) + (wrap64 (1 + (wrap64 (Int.tmod (IntKind.u64.wrap (a2)) 2767))))))))))) else (some false))) else (some false))) else (some false))) else (some false))) = some r := H
  have A5 := Aside0.mk A50
  clear A50
  replace H := Option.bind_eq_some_iff.mp H
  obtain ⟨t107, A60, H⟩ := H
  replace H : (if t107 = true then ((seq_Before.f a0 t105).bind fun t108 => (if t108 = true then ((seq_Before.f t105 t106).bind fun t109 => (if t109 = true then ((seq_Before.f a0 t106).bind fun t110 => (if t110 = true then ((seq_Before.f t106 a0).bind fun t111 => (if t111 = true then (some false) else ((seq_Ahead.f a0 t106).bind fun t112 => (some (t112 == (wrap64 ((wrap64 (1 + (wrap64 (Int.tmod (IntKind.u64.wrap (a1)) 30000)))) + (wrap64 (1 + (wrap64 (Int.tmod (IntKind.u64.wrap (a2)) 2767))))))))))) else (some false))) else (some false))) else (some false))) else (some false)) = some r := H
  have A6 := Aside0.mk A60
  clear A60
  by_cases c7 : t107 = true
  · subst c7
    have H1 : ((seq_Before.f a0 t105).bind fun t108 => (if t108 = true then ((seq_Before.f t105 t106).bind fun t109 => (if t109 = true then ((seq_Before.f a0 t106).bind fun t110 => (if t110 = true then ((seq_Before.f t106 a0).bind fun t111 => (if t111 = true then (some false) else ((seq_Ahead.f a0 t106).bind fun t112 => (some (t112 == (wrap64 ((wrap64 (1 + (wrap64 (Int.tmod (IntKind.u64.wrap (a1)) 30000)))) + (wrap64 (1 + (wrap64 (Int.tmod (IntKind.u64.wrap (a2)) 2767))))))))))) else (some false))) else (some false))) else (some false))) = some r := by rw [if_pos rfl] at H; exact H
    clear H
    have H := H1
    clear H1
    replace H := Option.bind_eq_some_iff.mp H
    obtain ⟨t108, A80, H⟩ := H
    replace H : (if t108 = true then ((seq_Before.f t105 t106).bind fun t109 => (if t109 = true then ((seq_Before.f a0 t106).bind fun t110 => (if t110 = true then ((seq_Before.f t106 a0).bind fun t111 => (if t111 = true then (some false) else ((seq_Ahead.f a0 t106).bind fun t112 => (some (t112 == (wrap64 ((wrap64 (1 + (wrap64 (Int.tmod (IntKind.u64.wrap (a1)) 30000)))) + (wrap64 (1 + (wrap64 (Int.tmod (IntKind.u64.wrap (a2)) 2767))))))))))) else (some false))) else (some false))) else (some false)) = some r := H
    have A8 := Aside0.mk A80
    clear A80
    by_cases c9 : t108 = true
    · subst c9
      have H1 : ((seq_Before.f t105 t106).bind fun t109 => (if t109 = true then ((seq_Before.f a0 t106).bind fun t110 => (if t110 = true then ((seq_Before.f t106 a0).bind fun t111 => (if t111 = true then (some false) else ((seq_Ahead.f a0 t106).bind fun t112 => (some (t112 == (wrap64 ((wrap64 (1 + (wrap64 (Int.tmod (IntKind.u64.wrap (a1)) 30000)))) + (wrap64 (1 + (wrap64 (Int.tmod (IntKind.u64.wrap (a2)) 2767))))))))))) else (some false))) else (some false))) = some r := by rw [if_pos rfl] at H; exact H
      clear H
      have H := H1
      clear H1
      replace H := Option.bind_eq_some_iff.mp H
      obtain ⟨t109, A100, H⟩ := H
      replace H : (if t109 = true then ((seq_Before.f a0 t106).bind fun t110 => (if t110 = true then ((seq_Before.f t106 a0).bind fun t111 => (if t111 = true then (some false) else ((seq_Ahead.f a0 t106).bind fun t112 => (some (t112 == (wrap64 ((wrap64 (1 + (wrap64 (Int.tmod (IntKind.u64.wrap (a1)) 30000)))) + (wrap64 (1 + (wrap64 (Int.tmod (IntKind.u64.wrap (a2)) 2767))))))))))) else (some false))) else (some false)) = some r := H
      have A10 := Aside0.mk A100
      clear A100
      by_cases c11 : t109 = true
      · subst c11
        have H1 : ((seq_Before.f a0 t106).bind fun t110 => (if t110 = true then ((seq_Before.f t106 a0).bind fun t111 => (if t111 = true then (some false) else ((seq_Ahead.f a0 t106).bind fun t112 => (some (t112 == (wrap64 ((wrap64 (1 + (wrap64 (Int.tmod (IntKind.u64.wrap (a1)) 30000)))) + (wrap64 (1 + (wrap64 (Int.tmod (IntKind.u64.wrap (a2)) 2767))))))))))) else (some false))) = some r := by rw [if_pos rfl] at H; exact H
        clear H
        have H := H1
        clear H1
        replace H := Option.bind_eq_some_iff.mp H
        obtain ⟨t110, A120, H⟩ := H
        replace H : (if t110 = true then ((seq_Before.f t106 a0).bind fun t111 => (if t111 = true then (some false) else ((seq_Ahead.f a0 t106).bind fun t112 => (some (t112 == (wrap64 ((wrap64 (1 + (wrap64 (Int.tmod (IntKind.u64.wrap (a1)) 30000)))) + (wrap64 (1 + (wrap64 (Int.tmod (IntKind.u64.wrap (a2)) 2767))))))))))) else (some false)) = some r := H
        have A12 := Aside0.mk A120
        clear A120
        by_cases c13 : t110 = true
        · subst c13
          have H1 : ((seq_Before.f t106 a0).bind fun t111 => (if t111 = true then (some false) else ((seq_Ahead.f a0 t106).bind fun t112 => (some (t112 == (wrap64 ((wrap64 (1 + (wrap64 (Int.tmod (IntKind.u64.wrap (a1)) 30000)))) + (wrap64 (1 + (wrap64 (Int.tmod (IntKind.u64.wrap (a2)) 2767))))))))))) = some r := by rw [if_pos rfl] at H; exact H
          clear H
          have H := H1
          clear H1
          replace H := Option.bind_eq_some_iff.mp H
          obtain ⟨t111, A140, H⟩ := H
          replace H : (if t111 = true then (some false) else ((seq_Ahead.f a0 t106).bind fun t112 => (some (t112 == (wrap64 ((wrap64 (1 + (wrap64 (Int.tmod (IntKind.u64.wrap (a1)) 30000)))) + (wrap64 (1 + (wrap64 (Int.tmod (IntKind.u64.wrap (a2)) 2767)))))))))) = some r := H
          have A14 := Aside0.mk A140
          clear A140
          by_cases c15 : t111 = true
          · subst c15
            have H1 : (some false) = some r := by rw [if_pos rfl] at H; exact H
            clear H
            have H := H1
            clear H1
            obtain rfl := Option.some.inj H
            go_enter Try.func4, Try.ntmps4
            go_wp2_with (first | ((with_reducible refine gate_callee (f := 9) rfl ?_); refine goesL_ (some 23) rfl rfl Try.func9 (by kernel_rfl) rfl #[.int .u16 a0, .int .i64 (wrap64 (1 + (wrap64 (Int.tmod (IntKind.u64.wrap (a1)) 30000))))] rfl (by (try simp only [List.map_toArray, List.map_cons, List.map_nil]); first | done | rfl | (simp only [List.length_drop, List.length_take]; rfl)) ?_; (with_reducible refine (seq_Plus.calls a0 (wrap64 (1 + (wrap64 (Int.tmod (IntKind.u64.wrap (a1)) 30000)))) t105 _ A4.out).mono ?_); rintro e w' ⟨rfl, ⟨nd, rfl⟩⟩; refine ⟨_, rfl, ?_⟩) | ((with_reducible refine gate_callee (f := 9) rfl ?_); refine goesL_ (some 26) rfl rfl Try.func9 (by kernel_rfl) rfl #[.int .u16 t105, .int .i64 (wrap64 (1 + (wrap64 (Int.tmod (IntKind.u64.wrap (a2)) 2767))))] rfl (by (try simp only [List.map_toArray, List.map_cons, List.map_nil]); first | done | rfl | (simp only [List.length_drop, List.length_take]; rfl)) ?_; (with_reducible refine (seq_Plus.calls t105 (wrap64 (1 + (wrap64 (Int.tmod (IntKind.u64.wrap (a2)) 2767)))) t106 _ A5.out).mono ?_); rintro e w' ⟨rfl, ⟨nd, rfl⟩⟩; refine ⟨_, rfl, ?_⟩) | ((with_reducible refine gate_callee (f := 10) rfl ?_); refine goesL_ (some 27) rfl rfl Try.func10 (by kernel_rfl) rfl #[] rfl (by (try simp only [List.map_toArray, List.map_cons, List.map_nil]); first | done | rfl | (simp only [List.length_drop, List.length_take]; rfl)) ?_; (with_reducible refine (shuttlelaw14_round.calls  true _ A6.out).mono ?_); rintro e w' ⟨rfl, ⟨nd, rfl⟩⟩; refine ⟨_, rfl, ?_⟩) | (go_at_call 12; (with_reducible refine (seq_Before.calls a0 t105 true _ A8.out).mono ?_); rintro e w' ⟨rfl, ⟨nd, rfl⟩⟩) | (go_at_call 12; (with_reducible refine (seq_Before.calls t105 t106 true _ A10.out).mono ?_); rintro e w' ⟨rfl, ⟨nd, rfl⟩⟩) | (go_at_call 12; (with_reducible refine (seq_Before.calls a0 t106 true _ A12.out).mono ?_); rintro e w' ⟨rfl, ⟨nd, rfl⟩⟩) | (go_at_call 12; (with_reducible refine (seq_Before.calls t106 a0 true _ A14.out).mono ?_); rintro e w' ⟨rfl, ⟨nd, rfl⟩⟩))
            go_ret
            exact ⟨by first | rfl | (simp; done) | (simp [*]; done), by repeat (first | exact Drawn0.refl _ | apply Drawn0.step)⟩
          · replace c15 := Bool.eq_false_iff.mpr c15
            subst c15
            have H1 : ((seq_Ahead.f a0 t106).bind fun t112 => (some (t112 == (wrap64 ((wrap64 (1 + (wrap64 (Int.tmod (IntKind.u64.wrap (a1)) 30000)))) + (wrap64 (1 + (wrap64 (Int.tmod (IntKind.u64.wrap (a2)) 2767))))))))) = some r := by rw [if_neg (show ¬ (false = true) by decide)] at H; exact H
            clear H
            have H := H1
            clear H1
            replace H := Option.bind_eq_some_iff.mp H
            obtain ⟨t112, A160, H⟩ := H
            replace H : (some (t112 == (wrap64 ((wrap64 (1 + (wrap64 (Int.tmod (IntKind.u64.wrap (a1)) 30000)))) + (wrap64 (1 + (wrap64 (Int.tmod (IntKind.u64.wrap (a2)) 2767)))))))) = some r := H
            have A16 := Aside0.mk A160
            clear A160
            obtain rfl := Option.some.inj H
            go_enter Try.func4, Try.ntmps4
            go_wp2_with (first | ((with_reducible refine gate_callee (f := 9) rfl ?_); refine goesL_ (some 23) rfl rfl Try.func9 (by kernel_rfl) rfl #[.int .u16 a0, .int .i64 (wrap64 (1 + (wrap64 (Int.tmod (IntKind.u64.wrap (a1)) 30000))))] rfl (by (try simp only [List.map_toArray, List.map_cons, List.map_nil]); first | done | rfl | (simp only [List.length_drop, List.length_take]; rfl)) ?_; (with_reducible refine (seq_Plus.calls a0 (wrap64 (1 + (wrap64 (Int.tmod (IntKind.u64.wrap (a1)) 30000)))) t105 _ A4.out).mono ?_); rintro e w' ⟨rfl, ⟨nd, rfl⟩⟩; refine ⟨_, rfl, ?_⟩) | ((with_reducible refine gate_callee (f := 9) rfl ?_); refine goesL_ (some 26) rfl rfl Try.func9 (by kernel_rfl) rfl #[.int .u16 t105, .int .i64 (wrap64 (1 + (wrap64 (Int.tmod (IntKind.u64.wrap (a2)) 2767))))] rfl (by (try simp only [List.map_toArray, List.map_cons, List.map_nil]); first | done | rfl | (simp only [List.length_drop, List.length_take]; rfl)) ?_; (with_reducible refine (seq_Plus.calls t105 (wrap64 (1 + (wrap64 (Int.tmod (IntKind.u64.wrap (a2)) 2767)))) t106 _ A5.out).mono ?_); rintro e w' ⟨rfl, ⟨nd, rfl⟩⟩; refine ⟨_, rfl, ?_⟩) | ((with_reducible refine gate_callee (f := 10) rfl ?_); refine goesL_ (some 27) rfl rfl Try.func10 (by kernel_rfl) rfl #[] rfl (by (try simp only [List.map_toArray, List.map_cons, List.map_nil]); first | done | rfl | (simp only [List.length_drop, List.length_take]; rfl)) ?_; (with_reducible refine (shuttlelaw14_round.calls  true _ A6.out).mono ?_); rintro e w' ⟨rfl, ⟨nd, rfl⟩⟩; refine ⟨_, rfl, ?_⟩) | (go_at_call 12; (with_reducible refine (seq_Before.calls a0 t105 true _ A8.out).mono ?_); rintro e w' ⟨rfl, ⟨nd, rfl⟩⟩) | (go_at_call 12; (with_reducible refine (seq_Before.calls t105 t106 true _ A10.out).mono ?_); rintro e w' ⟨rfl, ⟨nd, rfl⟩⟩) | (go_at_call 12; (with_reducible refine (seq_Before.calls a0 t106 true _ A12.out).mono ?_); rintro e w' ⟨rfl, ⟨nd, rfl⟩⟩) | (go_at_call 12; (with_reducible refine (seq_Before.calls t106 a0 false _ A14.out).mono ?_); rintro e w' ⟨rfl, ⟨nd, rfl⟩⟩) | (go_at_call 13; (with_reducible refine (seq_Ahead.calls a0 t106 t112 _ A16.out).mono ?_); rintro e w' ⟨rfl, ⟨nd, rfl⟩⟩))
            go_ret
            exact ⟨by first | rfl | (simp; done) | (simp [*]; done), by repeat (first | exact Drawn0.refl _ | apply Drawn0.step)⟩
        · replace c13 := Bool.eq_false_iff.mpr c13
          subst c13
          have H1 : (some false) = some r := by rw [if_neg (show ¬ (false = true) by decide)] at H; exact H
          clear H
          have H := H1
          clear H1
          obtain rfl := Option.some.inj H
          go_enter Try.func4, Try.ntmps4
          go_wp2_with (first | ((with_reducible refine gate_callee (f := 9) rfl ?_); refine goesL_ (some 23) rfl rfl Try.func9 (by kernel_rfl) rfl #[.int .u16 a0, .int .i64 (wrap64 (1 + (wrap64 (Int.tmod (IntKind.u64.wrap (a1)) 30000))))] rfl (by (try simp only [List.map_toArray, List.map_cons, List.map_nil]); first | done | rfl | (simp only [List.length_drop, List.length_take]; rfl)) ?_; (with_reducible refine (seq_Plus.calls a0 (wrap64 (1 + (wrap64 (Int.tmod (IntKind.u64.wrap (a1)) 30000)))) t105 _ A4.out).mono ?_); rintro e w' ⟨rfl, ⟨nd, rfl⟩⟩; refine ⟨_, rfl, ?_⟩) | ((with_reducible refine gate_callee (f := 9) rfl ?_); refine goesL_ (some 26) rfl rfl Try.func9 (by kernel_rfl) rfl #[.int .u16 t105, .int .i64 (wrap64 (1 + (wrap64 (Int.tmod (IntKind.u64.wrap (a2)) 2767))))] rfl (by (try simp only [List.map_toArray, List.map_cons, List.map_nil]); first | done | rfl | (simp only [List.length_drop, List.length_take]; rfl)) ?_; (with_reducible refine (seq_Plus.calls t105 (wrap64 (1 + (wrap64 (Int.tmod (IntKind.u64.wrap (a2)) 2767)))) t106 _ A5.out).mono ?_); rintro e w' ⟨rfl, ⟨nd, rfl⟩⟩; refine ⟨_, rfl, ?_⟩) | ((with_reducible refine gate_callee (f := 10) rfl ?_); refine goesL_ (some 27) rfl rfl Try.func10 (by kernel_rfl) rfl #[] rfl (by (try simp only [List.map_toArray, List.map_cons, List.map_nil]); first | done | rfl | (simp only [List.length_drop, List.length_take]; rfl)) ?_; (with_reducible refine (shuttlelaw14_round.calls  true _ A6.out).mono ?_); rintro e w' ⟨rfl, ⟨nd, rfl⟩⟩; refine ⟨_, rfl, ?_⟩) | (go_at_call 12; (with_reducible refine (seq_Before.calls a0 t105 true _ A8.out).mono ?_); rintro e w' ⟨rfl, ⟨nd, rfl⟩⟩) | (go_at_call 12; (with_reducible refine (seq_Before.calls t105 t106 true _ A10.out).mono ?_); rintro e w' ⟨rfl, ⟨nd, rfl⟩⟩) | (go_at_call 12; (with_reducible refine (seq_Before.calls a0 t106 false _ A12.out).mono ?_); rintro e w' ⟨rfl, ⟨nd, rfl⟩⟩))
          go_ret
          exact ⟨by first | rfl | (simp; done) | (simp [*]; done), by repeat (first | exact Drawn0.refl _ | apply Drawn0.step)⟩
      · replace c11 := Bool.eq_false_iff.mpr c11
        subst c11
        have H1 : (some false) = some r := by rw [if_neg (show ¬ (false = true) by decide)] at H; exact H
        clear H
        have H := H1
        clear H1
        obtain rfl := Option.some.inj H
        go_enter Try.func4, Try.ntmps4
        go_wp2_with (first | ((with_reducible refine gate_callee (f := 9) rfl ?_); refine goesL_ (some 23) rfl rfl Try.func9 (by kernel_rfl) rfl #[.int .u16 a0, .int .i64 (wrap64 (1 + (wrap64 (Int.tmod (IntKind.u64.wrap (a1)) 30000))))] rfl (by (try simp only [List.map_toArray, List.map_cons, List.map_nil]); first | done | rfl | (simp only [List.length_drop, List.length_take]; rfl)) ?_; (with_reducible refine (seq_Plus.calls a0 (wrap64 (1 + (wrap64 (Int.tmod (IntKind.u64.wrap (a1)) 30000)))) t105 _ A4.out).mono ?_); rintro e w' ⟨rfl, ⟨nd, rfl⟩⟩; refine ⟨_, rfl, ?_⟩) | ((with_reducible refine gate_callee (f := 9) rfl ?_); refine goesL_ (some 26) rfl rfl Try.func9 (by kernel_rfl) rfl #[.int .u16 t105, .int .i64 (wrap64 (1 + (wrap64 (Int.tmod (IntKind.u64.wrap (a2)) 2767))))] rfl (by (try simp only [List.map_toArray, List.map_cons, List.map_nil]); first | done | rfl | (simp only [List.length_drop, List.length_take]; rfl)) ?_; (with_reducible refine (seq_Plus.calls t105 (wrap64 (1 + (wrap64 (Int.tmod (IntKind.u64.wrap (a2)) 2767)))) t106 _ A5.out).mono ?_); rintro e w' ⟨rfl, ⟨nd, rfl⟩⟩; refine ⟨_, rfl, ?_⟩) | ((with_reducible refine gate_callee (f := 10) rfl ?_); refine goesL_ (some 27) rfl rfl Try.func10 (by kernel_rfl) rfl #[] rfl (by (try simp only [List.map_toArray, List.map_cons, List.map_nil]); first | done | rfl | (simp only [List.length_drop, List.length_take]; rfl)) ?_; (with_reducible refine (shuttlelaw14_round.calls  true _ A6.out).mono ?_); rintro e w' ⟨rfl, ⟨nd, rfl⟩⟩; refine ⟨_, rfl, ?_⟩) | (go_at_call 12; (with_reducible refine (seq_Before.calls a0 t105 true _ A8.out).mono ?_); rintro e w' ⟨rfl, ⟨nd, rfl⟩⟩) | (go_at_call 12; (with_reducible refine (seq_Before.calls t105 t106 false _ A10.out).mono ?_); rintro e w' ⟨rfl, ⟨nd, rfl⟩⟩))
        go_ret
        exact ⟨by first | rfl | (simp; done) | (simp [*]; done), by repeat (first | exact Drawn0.refl _ | apply Drawn0.step)⟩
    · replace c9 := Bool.eq_false_iff.mpr c9
      subst c9
      have H1 : (some false) = some r := by rw [if_neg (show ¬ (false = true) by decide)] at H; exact H
      clear H
      have H := H1
      clear H1
      obtain rfl := Option.some.inj H
      go_enter Try.func4, Try.ntmps4
      go_wp2_with (first | ((with_reducible refine gate_callee (f := 9) rfl ?_); refine goesL_ (some 23) rfl rfl Try.func9 (by kernel_rfl) rfl #[.int .u16 a0, .int .i64 (wrap64 (1 + (wrap64 (Int.tmod (IntKind.u64.wrap (a1)) 30000))))] rfl (by (try simp only [List.map_toArray, List.map_cons, List.map_nil]); first | done | rfl | (simp only [List.length_drop, List.length_take]; rfl)) ?_; (with_reducible refine (seq_Plus.calls a0 (wrap64 (1 + (wrap64 (Int.tmod (IntKind.u64.wrap (a1)) 30000)))) t105 _ A4.out).mono ?_); rintro e w' ⟨rfl, ⟨nd, rfl⟩⟩; refine ⟨_, rfl, ?_⟩) | ((with_reducible refine gate_callee (f := 9) rfl ?_); refine goesL_ (some 26) rfl rfl Try.func9 (by kernel_rfl) rfl #[.int .u16 t105, .int .i64 (wrap64 (1 + (wrap64 (Int.tmod (IntKind.u64.wrap (a2)) 2767))))] rfl (by (try simp only [List.map_toArray, List.map_cons, List.map_nil]); first | done | rfl | (simp only [List.length_drop, List.length_take]; rfl)) ?_; (with_reducible refine (seq_Plus.calls t105 (wrap64 (1 + (wrap64 (Int.tmod (IntKind.u64.wrap (a2)) 2767)))) t106 _ A5.out).mono ?_); rintro e w' ⟨rfl, ⟨nd, rfl⟩⟩; refine ⟨_, rfl, ?_⟩) | ((with_reducible refine gate_callee (f := 10) rfl ?_); refine goesL_ (some 27) rfl rfl Try.func10 (by kernel_rfl) rfl #[] rfl (by (try simp only [List.map_toArray, List.map_cons, List.map_nil]); first | done | rfl | (simp only [List.length_drop, List.length_take]; rfl)) ?_; (with_reducible refine (shuttlelaw14_round.calls  true _ A6.out).mono ?_); rintro e w' ⟨rfl, ⟨nd, rfl⟩⟩; refine ⟨_, rfl, ?_⟩) | (go_at_call 12; (with_reducible refine (seq_Before.calls a0 t105 false _ A8.out).mono ?_); rintro e w' ⟨rfl, ⟨nd, rfl⟩⟩))
      go_ret
      exact ⟨by first | rfl | (simp; done) | (simp [*]; done), by repeat (first | exact Drawn0.refl _ | apply Drawn0.step)⟩
  · replace c7 := Bool.eq_false_iff.mpr c7
    subst c7
    have H1 : (some false) = some r := by rw [if_neg (show ¬ (false = true) by decide)] at H; exact H
    clear H
    have H := H1
    clear H1
    obtain rfl := Option.some.inj H
    go_enter Try.func4, Try.ntmps4
    go_wp2_with (first | ((with_reducible refine gate_callee (f := 9) rfl ?_); refine goesL_ (some 23) rfl rfl Try.func9 (by kernel_rfl) rfl #[.int .u16 a0, .int .i64 (wrap64 (1 + (wrap64 (Int.tmod (IntKind.u64.wrap (a1)) 30000))))] rfl (by (try simp only [List.map_toArray, List.map_cons, List.map_nil]); first | done | rfl | (simp only [List.length_drop, List.length_take]; rfl)) ?_; (with_reducible refine (seq_Plus.calls a0 (wrap64 (1 + (wrap64 (Int.tmod (IntKind.u64.wrap (a1)) 30000)))) t105 _ A4.out).mono ?_); rintro e w' ⟨rfl, ⟨nd, rfl⟩⟩; refine ⟨_, rfl, ?_⟩) | ((with_reducible refine gate_callee (f := 9) rfl ?_); refine goesL_ (some 26) rfl rfl Try.func9 (by kernel_rfl) rfl #[.int .u16 t105, .int .i64 (wrap64 (1 + (wrap64 (Int.tmod (IntKind.u64.wrap (a2)) 2767))))] rfl (by (try simp only [List.map_toArray, List.map_cons, List.map_nil]); first | done | rfl | (simp only [List.length_drop, List.length_take]; rfl)) ?_; (with_reducible refine (seq_Plus.calls t105 (wrap64 (1 + (wrap64 (Int.tmod (IntKind.u64.wrap (a2)) 2767)))) t106 _ A5.out).mono ?_); rintro e w' ⟨rfl, ⟨nd, rfl⟩⟩; refine ⟨_, rfl, ?_⟩) | ((with_reducible refine gate_callee (f := 10) rfl ?_); refine goesL_ (some 27) rfl rfl Try.func10 (by kernel_rfl) rfl #[] rfl (by (try simp only [List.map_toArray, List.map_cons, List.map_nil]); first | done | rfl | (simp only [List.length_drop, List.length_take]; rfl)) ?_; (with_reducible refine (shuttlelaw14_round.calls  false _ A6.out).mono ?_); rintro e w' ⟨rfl, ⟨nd, rfl⟩⟩; refine ⟨_, rfl, ?_⟩))
    go_ret
    exact ⟨by first | rfl | (simp; done) | (simp [*]; done), by repeat (first | exact Drawn0.refl _ | apply Drawn0.step)⟩

/-- THE ONE PURE STATEMENT of shuttlelaw14_SeqOrder: yours. -/
def shuttlelaw14_SeqOrder.Pure : Prop := ∀ (a0 : Int) (a1 : Int) (a2 : Int), (Lit.int .u16 a0).wf = true → (Lit.int .i64 a1).wf = true → (Lit.int .i64 a2).wf = true → shuttlelaw14_SeqOrder.f a0 a1 a2 = some true
theorem shuttlelaw14_SeqOrder.walk (P : shuttlelaw14_SeqOrder.Pure) (a0 : Int) (a1 : Int) (a2 : Int) (w : World) (w0 : (Lit.int .u16 a0).wf = true) (w1 : (Lit.int .i64 a1).wf = true) (w2 : (Lit.int .i64 a2).wf = true) :
    Calls Try.prog 4 #[.int .u16 a0, .int .i64 a1, .int .i64 a2] w fun e w' => e = .returned (.bool true) ∧ Below w.heap.size w w' := by
  have h := P a0 a1 a2 w0 w1 w2
  refine (shuttlelaw14_SeqOrder.calls a0 a1 a2 true w h).mono ?_
  rintro e w' ⟨rfl, hd⟩
  exact ⟨rfl, hd.below⟩

end Go.Proofs.Ytpkoaleebabmdaa.PSeqOrder
