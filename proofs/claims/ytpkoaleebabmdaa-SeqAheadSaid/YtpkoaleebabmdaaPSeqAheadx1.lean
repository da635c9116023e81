-- PRINTED BY print.sh 35421559b90ae4d0a3588c463048766b98c2df88dd9212a6774a882060cdf62d: not written by this session
import Derived.Test.YtpkoaleebabmdaaPSeqAheadx0
namespace Go.Proofs.Ytpkoaleebabmdaa.PSeqAhead
open Go.RowKit Go.Proofs.YtpkoaleebabmdaaW.PrintWords Go.Proofs.YtpkoaleebabmdaaW.PrintLast Go.Proofs.YtpkoaleebabmdaaW.PrintMore
attribute [local go_sem] max2_int min2_int max_two min_two max_three min_three max_four min_four   -- for this text's walks alone
set_option linter.unusedVariables false
set_option linter.unusedSimpArgs false

/-! ### seq_Plus: function 9 -/
def seq_Plus.f (a0 : Int) (a1 : Int) : Option (Int) := some (IntKind.u16.wrap (a0 + (IntKind.u16.wrap (a1))))
set_option maxHeartbeats 8000000 in
set_option maxRecDepth 100000 in
theorem seq_Plus.calls (a0 : Int) (a1 : Int) (r : Int) (w : World) (h : seq_Plus.f a0 a1 = some r) :
    Calls Try.prog 9 #[.int .u16 a0, .int .i64 a1] w fun e w' => e = .returned (.int .u16 r) ∧ Drawn0 w w' := by
  have H : (some (IntKind.u16.wrap (a0 + (IntKind.u16.wrap (a1))))) = some r := h
  clear h
  obtain rfl := Option.some.inj H
  go_enter Try.func9, Try.ntmps9
  go_wp2
  go_ret
  exact ⟨by first | rfl | (simp; done) | (simp [*]; done), by repeat (first | exact Drawn0.refl _ | apply Drawn0.step)⟩

/-! ### seq_Ahead: function 13 -/
def seq_Ahead.f (a0 : Int) (a1 : Int) : Option (Int) := some (wrap64 (IntKind.u16.wrap (a1 - a0)))
set_option maxHeartbeats 8000000 in
set_option maxRecDepth 100000 in
theorem seq_Ahead.calls (a0 : Int) (a1 : Int) (r : Int) (w : World) (h : seq_Ahead.f a0 a1 = some r) :
    Calls Try.prog 13 #[.int .u16 a0, .int .u16 a1] w fun e w' => e = .returned (.int .i64 r) ∧ Drawn0 w w' := by
  have H : (some (wrap64 (IntKind.u16.wrap (a1 - a0)))) = some r := h
  clear h
  obtain rfl := Option.some.inj H
  go_enter Try.func13, Try.ntmps13
  go_wp2
  go_ret
  exact ⟨by first | rfl | (simp; done) | (simp [*]; done), by repeat (first | exact Drawn0.refl _ | apply Drawn0.step)⟩

/-! ### seq_Before: function 12 -/
def seq_Before.f (a0 : Int) (a1 : Int) : Option (Bool) := (seq_Ahead.f a0 a1).bind fun t101 => (if t101 ≥ 1 then (some (decide (t101 < 32768))) else (some false))
set_option maxHeartbeats 8000000 in
set_option maxRecDepth 100000 in
theorem seq_Before.calls (a0 : Int) (a1 : Int) (r : Bool) (w : World) (h : seq_Before.f a0 a1 = some r) :
    Calls Try.prog 12 #[.int .u16 a0, .int .u16 a1] w fun e w' => e = .returned (.bool r) ∧ Drawn0 w w' := by
  have H : ((seq_Ahead.f a0 a1).bind fun t101 => (if t101 ≥ 1 then (some (decide (t101 < 32768))) else (some false))) = some r := h
  clear h
  replace H := Option.bind_eq_some_iff.mp H
  obtain ⟨t101, A30, H⟩ := H
  replace H : (if t101 ≥ 1 then (some (decide (t101 < 32768))) else (some false)) = some r := H
  have A3 := Aside0.mk A30
  clear A30
  by_cases c4 : t101 ≥ 1
  · rw [if_pos c4] at H
    have c4b0 : decide (1 ≤ t101) = true := decide_eq_true c4
    clear c4
    obtain rfl := Option.some.inj H
    go_enter Try.func12, Try.ntmps12
    go_wp2_with (first | ((with_reducible refine gate_callee (f := 13) rfl ?_); refine goesL_ (some 8) rfl rfl Try.func13 (by kernel_rfl) rfl #[.int .u16 a0, .int .u16 a1] rfl (by (try simp only [List.map_toArray, List.map_cons, List.map_nil]); first | done | rfl | (simp only [List.length_drop, List.length_take]; rfl)) ?_; (with_reducible refine (seq_Ahead.calls a0 a1 t101 _ A3.out).mono ?_); rintro e w' ⟨rfl, ⟨nd, rfl⟩⟩; refine ⟨_, rfl, ?_⟩))
    go_ret
    exact ⟨by first | rfl | (simp; done) | (simp [*]; done), by repeat (first | exact Drawn0.refl _ | apply Drawn0.step)⟩
  · rw [if_neg c4] at H
    have c4b0 : decide (1 ≤ t101) = false := decide_eq_false c4
    clear c4
    obtain rfl := Option.some.inj H
    go_enter Try.func12, Try.ntmps12
    go_wp2_with (first | ((with_reducible refine gate_callee (f := 13) rfl ?_); refine goesL_ (some 8) rfl rfl Try.func13 (by kernel_rfl) rfl #[.int .u16 a0, .int .u16 a1] rfl (by (try simp only [List.map_toArray, List.map_cons, List.map_nil]); first | done | rfl | (simp only [List.length_drop, List.length_take]; rfl)) ?_; (with_reducible refine (seq_Ahead.calls a0 a1 t101 _ A3.out).mono ?_); rintro e w' ⟨rfl, ⟨nd, rfl⟩⟩; refine ⟨_, rfl, ?_⟩))
    go_ret
    exact ⟨by first | rfl | (simp; done) | (simp [*]; done), by repeat (first | exact Drawn0.refl _ | apply Drawn0.step)⟩

/-! ### shuttlelaw14_round: function 10 -/
def shuttlelaw14_round.f  : Option (Bool) := (seq_Plus.f 65535 2).bind fun t102 => (if t102 = 1 then ((seq_Before.f 65535 1).bind fun t103 => (if t103 = true then ((seq_Before.f 1 65535).bind fun t104 => (some (!t104))) else (some false))) else (some false))
set_option maxHeartbeats 8000000 in
set_option maxRecDepth 100000 in
theorem shuttlelaw14_round.calls  (r : Bool) (w : World) (h : shuttlelaw14_round.f  = some r) :
    Calls Try.prog 10 #[] w fun e w' => e = .returned (.bool r) ∧ Drawn0 w w' := by
  have H : ((seq_Plus.f 65535 2).bind fun t102 => (if t102 = 1 then ((seq_Before.f 65535 1).bind fun t103 => (if t103 = true then ((seq_Before.f 1 65535).bind fun t104 => (some (!t104))) else (some false))) else (some false))) = some r := h
  clear h
  replace H := Option.bind_eq_some_iff.mp H
  obtain ⟨t102, A10, H⟩ := H
  replace H : (if t102 = 1 then ((seq_Before.f 65535 1).bind fun t103 => (if t103 = true then ((seq_Before.f 1 65535).bind fun t104 => (some (!t104))) else (some false))) else (some false)) = some r := H
  have A1 := Aside0.mk A10
  clear A10
  by_cases c2 : t102 = 1
  · rw [if_pos c2] at H
    have c2b0 : (t102 == 1) = true := beq_iff_eq.mpr c2
    have c2b1 : (t102 != 1) = false := bne_eq_false_iff_eq.mpr c2
    clear c2
    replace H := Option.bind_eq_some_iff.mp H
    obtain ⟨t103, A30, H⟩ := H
    replace H : (if t103 = true then ((seq_Before.f 1 65535).bind fun t104 => (some (!t104))) else (some false)) = some r := H
    have A3 := Aside0.mk A30
    clear A30
    by_cases c4 : t103 = true
    · subst c4
      have H1 : ((seq_Before.f 1 65535).bind fun t104 => (some (!t104))) = some r := by rw [if_pos rfl] at H; exact H
      clear H
      have H := H1
      clear H1
      replace H := Option.bind_eq_some_iff.mp H
      obtain ⟨t104, A50, H⟩ := H
      replace H : (some (!t104)) = some r := H
      have A5 := Aside0.mk A50
      clear A50
      obtain rfl := Option.some.inj H
      go_enter Try.func10, Try.ntmps10
      go_wp2_with (first | ((with_reducible refine gate_callee (f := 9) rfl ?_); refine goesL_ (some 1) rfl rfl Try.func9 (by kernel_rfl) rfl #[.int .u16 65535, .int .i64 2] rfl (by (try simp only [List.map_toArray, List.map_cons, List.map_nil]); first | done | rfl | (simp only [List.length_drop, List.length_take]; rfl)) ?_; (with_reducible refine (seq_Plus.calls 65535 2 t102 _ A1.out).mono ?_); rintro e w' ⟨rfl, ⟨nd, rfl⟩⟩; refine ⟨_, rfl, ?_⟩) | (go_at_call 12; (with_reducible refine (seq_Before.calls 65535 1 true _ A3.out).mono ?_); rintro e w' ⟨rfl, ⟨nd, rfl⟩⟩) | (go_at_call 12; (with_reducible refine (seq_Before.calls 1 65535 t104 _ A5.out).mono ?_); rintro e w' ⟨rfl, ⟨nd, rfl⟩⟩))
      go_ret
      exact ⟨by first | rfl | (simp; done) | (simp [*]; done), by repeat (first | exact Drawn0.refl _ | apply Drawn0.step)⟩
    · replace c4 := Bool.eq_false_iff.mpr c4
      subst c4
      have H1 : (some false) = some r := by rw [if_neg (show ¬ (false = true) by decide)] at H; exact H
      clear H
      have H := H1
      clear H1
      obtain rfl := Option.some.inj H
      go_enter Try.func10, Try.ntmps10
      go_wp2_with (first | ((with_reducible refine gate_callee (f := 9) rfl ?_); refine goesL_ (some 1) rfl rfl Try.func9 (by kernel_rfl) rfl #[.int .u16 65535, .int .i64 2] rfl (by (try simp only [List.map_toArray, List.map_cons, List.map_nil]); first | done | rfl | (simp only [List.length_drop, List.length_take]; rfl)) ?_; (with_reducible refine (seq_Plus.calls 65535 2 t102 _ A1.out).mono ?_); rintro e w' ⟨rfl, ⟨nd, rfl⟩⟩; refine ⟨_, rfl, ?_⟩) | (go_at_call 12; (with_reducible refine (seq_Before.calls 65535 1 false _ A3.out).mono ?_); rintro e w' ⟨rfl, ⟨nd, rfl⟩⟩))
      go_ret
      exact ⟨by first | rfl | (simp; done) | (simp [*]; done), by repeat (first | exact Drawn0.refl _ | apply Drawn0.step)⟩
  · rw [if_neg c2] at H
    have c2b0 : (t102 == 1) = false := beq_eq_false_iff_ne.mpr c2
    have c2b1 : (t102 != 1) = true := bne_iff_ne.mpr c2
    obtain rfl := Option.some.inj H
    go_enter Try.func10, Try.ntmps10
    go_wp2_with (first | ((with_reducible refine gate_callee (f := 9) rfl ?_); refine goesL_ (some 1) rfl rfl Try.func9 (by kernel_rfl) rfl #[.int .u16 65535, .int .i64 2] rfl (by (try simp only [List.map_toArray, List.map_cons, List.map_nil]); first | done | rfl | (simp only [List.length_drop, List.length_take]; rfl)) ?_; (with_reducible refine (seq_Plus.calls 65535 2 t102 _ A1.out).mono ?_); rintro e w' ⟨rfl, ⟨nd, rfl⟩⟩; refine ⟨_, rfl, ?_⟩))
    go_ret
    exact ⟨by first | rfl | (simp; done) | (simp [*]; done), by repeat (first | exact Drawn0.refl _ | apply Drawn0.step)⟩

/-! ### shuttleref14_Plus: function 11 -/
def shuttleref14_Plus.f (a0 : Int) (a1 : Int) : Option (Int) := some (Int.tmod (wrap64 ((Int.tmod (wrap64 (a0 + (Int.tmod a1 65536))) 65536) + 65536)) 65536)
set_option maxHeartbeats 8000000 in
set_option maxRecDepth 100000 in
theorem shuttleref14_Plus.calls (a0 : Int) (a1 : Int) (r : Int) (w : World) (h : shuttleref14_Plus.f a0 a1 = some r) :
    Calls Try.prog 11 #[.int .i64 a0, .int .i64 a1] w fun e w' => e = .returned (.int .i64 r) ∧ Drawn0 w w' := by
  have H : (some (Int.tmod (wrap64 ((Int.tmod (wrap64 (a0 + (Int.tmod a1 65536))) 65536) + 65536)) 65536)) = some r := h
  clear h
  obtain rfl := Option.some.inj H
  go_enter Try.func11, Try.ntmps11
  go_wp2
  go_ret
  exact ⟨by first | rfl | (simp; done) | (simp [*]; done), by repeat (first | exact Drawn0.refl _ | apply Drawn0.step)⟩

/-! ### shuttleref14_Ahead: function 14 -/
def shuttleref14_Ahead.l0 : Nat → Int → Int → Int → Option (Int)
  | 0, _, _, _ => none
  | k + 1, x0, x1, x5 => (shuttleref14_Plus.f x0 x5).bind fun t105 => (if t105 = x1 then (some x5) else (shuttleref14_Ahead.l0 k x0 x1 (wrap64 (x5 + 1))))
def shuttleref14_Ahead.f (k : Nat) (a0 : Int) (a1 : Int) : Option (Int) := shuttleref14_Ahead.l0 k a0 a1 0
theorem shuttleref14_Ahead.mono_l : ∀ k, (∀ y0 y1 y2, LeO (shuttleref14_Ahead.l0 k y0 y1 y2) (shuttleref14_Ahead.l0 (k + 1) y0 y1 y2))
  | 0 => fun _ _ _ r h => by simp [shuttleref14_Ahead.l0] at h
  | k + 1 => by
    have ih0 := shuttleref14_Ahead.mono_l k
    · intro y0 y1 y2
      unfold shuttleref14_Ahead.l0
      repeat' first
      | (with_reducible exact ih0 _ _ _)
      | (with_reducible exact LeO.refl _)
      | (with_reducible exact LeO.none _)
      | (with_reducible refine LeO.ite ?_ ?_)
      | (with_reducible refine LeO.bind ?_ (fun _ => ?_))
      | exact ih0 _ _ _
      | exact LeO.none _
      | refine LeO.ite ?_ ?_
      | refine LeO.bind ?_ (fun _ => ?_)
theorem shuttleref14_Ahead.mono : ∀ a0 a1 k, LeO (shuttleref14_Ahead.f k a0 a1) (shuttleref14_Ahead.f (k + 1) a0 a1) := by
  intro a0 a1 k
  have ih0 := shuttleref14_Ahead.mono_l k
  unfold shuttleref14_Ahead.f
  repeat' first
      | (with_reducible exact ih0 _ _ _)
      | (with_reducible exact LeO.refl _)
      | (with_reducible exact LeO.none _)
      | (with_reducible refine LeO.ite ?_ ?_)
      | (with_reducible refine LeO.bind ?_ (fun _ => ?_))
      | exact ih0 _ _ _
      | exact LeO.none _
      | refine LeO.ite ?_ ?_
      | refine LeO.bind ?_ (fun _ => ?_)
set_option maxHeartbeats 8000000 in
set_option maxRecDepth 100000 in
theorem shuttleref14_Ahead.calls (k : Nat) (a0 : Int) (a1 : Int) (r : Int) (w : World) (h : shuttleref14_Ahead.f k a0 a1 = some r) :
    Calls Try.prog 14 #[.int .i64 a0, .int .i64 a1] w fun e w' => e = .returned (.int .i64 r) ∧ Drawn0 w w' := by
  have H : (shuttleref14_Ahead.l0 k a0 a1 0) = some r := h
  clear h
  have H' := Aside0.mk H
  clear H
  go_enter Try.func14, Try.ntmps14
  go_wp2
  go_loopg [5] k (fun kq v5 w' => ∃ (x5_1 : Int), v5 = .int .i64 x5_1 ∧ Aside0 (shuttleref14_Ahead.l0 kq a0 a1 x5_1 = some r) ∧ Aside0 (kq ≤ k) ∧ Drawn0 w w')
  case atStart => exact ⟨(0), (by first | rfl | (simp; done) | (simp [*]; done)), H', ⟨Nat.le_refl _⟩, by repeat (first | exact Drawn0.refl _ | apply Drawn0.step)⟩
  case round =>
    clear H'
    try clear c1
    try clear p2
    obtain ⟨x5_1, rfl, HA, HK1, ⟨m1, rfl⟩⟩ := hrel
    cases gk with
    | zero => exact absurd HA.out (by simp [shuttleref14_Ahead.l0])
    | succ k1 =>
      have H := HA.out
      clear HA
      simp only [shuttleref14_Ahead.l0] at H
      replace H := Option.bind_eq_some_iff.mp H
      obtain ⟨t105, A30, H⟩ := H
      replace H : (if t105 = a1 then (some x5_1) else (shuttleref14_Ahead.l0 k1 a0 a1 (wrap64 (x5_1 + 1)))) = some r := H
      have A3 := Aside0.mk A30
      clear A30
      by_cases c4 : t105 = a1
      · rw [if_pos c4] at H
        have c4b0 : (t105 == a1) = true := beq_iff_eq.mpr c4
        have c4b1 : (t105 != a1) = false := bne_eq_false_iff_eq.mpr c4
        clear c4
        obtain rfl := Option.some.inj H
        go_wp2_with (first | ((with_reducible refine gate_callee (f := 11) rfl ?_); refine goesL_ (some 8) rfl rfl Try.func11 (by kernel_rfl) rfl #[.int .i64 a0, .int .i64 x5_1] rfl (by (try simp only [List.map_toArray, List.map_cons, List.map_nil]); first | done | rfl | (simp only [List.length_drop, List.length_take]; rfl)) ?_; (with_reducible refine (shuttleref14_Plus.calls a0 x5_1 t105 _ A3.out).mono ?_); rintro e w' ⟨rfl, ⟨nd, rfl⟩⟩; refine ⟨_, rfl, ?_⟩))
        go_ret
        exact ⟨by first | rfl | (simp; done) | (simp [*]; done), by repeat (first | exact Drawn0.refl _ | apply Drawn0.step)⟩
      · rw [if_neg c4] at H
        have c4b0 : (t105 == a1) = false := beq_eq_false_iff_ne.mpr c4
        have c4b1 : (t105 != a1) = true := bne_iff_ne.mpr c4
        have H' := Aside0.mk H
        clear H
        go_wp2_with (first | ((with_reducible refine gate_callee (f := 11) rfl ?_); refine goesL_ (some 8) rfl rfl Try.func11 (by kernel_rfl) rfl #[.int .i64 a0, .int .i64 x5_1] rfl (by (try simp only [List.map_toArray, List.map_cons, List.map_nil]); first | done | rfl | (simp only [List.length_drop, List.length_take]; rfl)) ?_; (with_reducible refine (shuttleref14_Plus.calls a0 x5_1 t105 _ A3.out).mono ?_); rintro e w' ⟨rfl, ⟨nd, rfl⟩⟩; refine ⟨_, rfl, ?_⟩))
        go_roundg k1
        case measure => have := HK1.out; omega
        case rel => exact ⟨(wrap64 (x5_1 + 1)), (by first | rfl | (simp; done) | (simp [*]; done)), H', ⟨by have := HK1.out; omega⟩, by repeat (first | exact Drawn0.refl _ | apply Drawn0.step)⟩

/-! ### seq_Within: function 15 -/
def seq_Within.f (a0 : Int) (a1 : Int) (a2 : Int) : Option (Bool) := (seq_Ahead.f a0 a2).bind fun t106 => (some (decide (t106 < a1)))
set_option maxHeartbeats 8000000 in
set_option maxRecDepth 100000 in
theorem seq_Within.calls (a0 : Int) (a1 : Int) (a2 : Int) (r : Bool) (w : World) (h : seq_Within.f a0 a1 a2 = some r) :
    Calls Try.prog 15 #[.int .u16 a0, .int .i64 a1, .int .u16 a2] w fun e w' => e = .returned (.bool r) ∧ Drawn0 w w' := by
  have H : ((seq_Ahead.f a0 a2).bind fun t106 => (some (decide (t106 < a1)))) = some r := h
  clear h
  replace H := Option.bind_eq_some_iff.mp H
  obtain ⟨t106, A40, H⟩ := H
  replace H : (some (decide (t106 < a1))) = some r := H
  have A4 := Aside0.mk A40
  clear A40
  obtain rfl := Option.some.inj H
  go_enter Try.func15, Try.ntmps15
  go_wp2_with (first | ((with_reducible refine gate_callee (f := 13) rfl ?_); refine goesL_ (some 9) rfl rfl Try.func13 (by kernel_rfl) rfl #[.int .u16 a0, .int .u16 a2] rfl (by (try simp only [List.map_toArray, List.map_cons, List.map_nil]); first | done | rfl | (simp only [List.length_drop, List.length_take]; rfl)) ?_; (with_reducible refine (seq_Ahead.calls a0 a2 t106 _ A4.out).mono ?_); rintro e w' ⟨rfl, ⟨nd, rfl⟩⟩; refine ⟨_, rfl, ?_⟩))
  go_ret
  exact ⟨by first | rfl | (simp; done) | (simp [*]; done), by repeat (first | exact Drawn0.refl _ | apply Drawn0.step)⟩

/-! ### shuttlelaw14_SeqAhead: function 5 -/
def shuttlelaw14_SeqAhead.j0 : Nat → Int → Int → Int → Int → Int → Bool → Option (Bool)
  | 0, _, _, _, _, _, _ => none
  | k + 1, x7, x8, x9, x10, x11, x53 => if x53 = true then (some false) else (if x10 = 0 then (if x11 = 0 then ((seq_Before.f x8 x7).bind fun t114 => (some (!t114))) else (some false)) else (if (wrap64 (x9 + x11)) = 65536 then (if x10 = 32768 then (some true) else ((seq_Before.f x7 x8).bind fun t115 => ((seq_Before.f x8 x7).bind fun t116 => (some (t115 != t116))))) else (some false)))
def shuttlelaw14_SeqAhead.f (k : Nat) (a0 : Int) (a1 : Int) (a2 : Int) : Option (Bool) := (seq_Ahead.f a0 a1).bind fun t107 => ((shuttleref14_Ahead.f k (wrap64 (a0)) (wrap64 (a1))).bind fun t108 => ((seq_Ahead.f a1 a0).bind fun t109 => ((shuttlelaw14_round.f).bind fun t110 => (if t110 = true then (if t107 = t108 then ((seq_Before.f a0 a1).bind fun t111 => (if t108 ≥ 1 then (if (t111 != (decide (t108 ≤ 32767))) = true then (shuttlelaw14_SeqAhead.j0 k a0 a1 t107 t108 t109 true) else ((seq_Within.f a0 a2 a1).bind fun t112 => (shuttlelaw14_SeqAhead.j0 k a0 a1 t107 t108 t109 (t112 != (decide (t108 < a2)))))) else (if (t111 != false) = true then (shuttlelaw14_SeqAhead.j0 k a0 a1 t107 t108 t109 true) else ((seq_Within.f a0 a2 a1).bind fun t113 => (shuttlelaw14_SeqAhead.j0 k a0 a1 t107 t108 t109 (t113 != (decide (t108 < a2)))))))) else (shuttlelaw14_SeqAhead.j0 k a0 a1 t107 t108 t109 true)) else (shuttlelaw14_SeqAhead.j0 k a0 a1 t107 t108 t109 true)))))
theorem shuttlelaw14_SeqAhead.mono_l : ∀ k, (∀ y0 y1 y2 y3 y4 y5, LeO (shuttlelaw14_SeqAhead.j0 k y0 y1 y2 y3 y4 y5) (shuttlelaw14_SeqAhead.j0 (k + 1) y0 y1 y2 y3 y4 y5))
  | 0 => fun _ _ _ _ _ _ r h => by simp [shuttlelaw14_SeqAhead.j0] at h
  | k + 1 => by
    have ih0 := shuttlelaw14_SeqAhead.mono_l k
    · intro y0 y1 y2 y3 y4 y5
      unfold shuttlelaw14_SeqAhead.j0
      repeat' first
      | (with_reducible exact ih0 _ _ _ _ _ _)
      | (with_reducible exact shuttleref14_Ahead.mono _ _ _)
      | (with_reducible exact LeO.refl _)
      | (with_reducible exact LeO.none _)
      | (with_reducible refine LeO.ite ?_ ?_)
      | (with_reducible refine LeO.bind ?_ (fun _ => ?_))
      | exact ih0 _ _ _ _ _ _
      | exact shuttleref14_Ahead.mono _ _ _
      | exact LeO.none _
      | refine LeO.ite ?_ ?_
      | refine LeO.bind ?_ (fun _ => ?_)
theorem shuttlelaw14_SeqAhead.mono : ∀ a0 a1 a2 k, LeO (shuttlelaw14_SeqAhead.f k a0 a1 a2) (shuttlelaw14_SeqAhead.f (k + 1) a0 a1 a2) := by
  intro a0 a1 a2 k
  have ih0 := shuttlelaw14_SeqAhead.mono_l k
  unfold shuttlelaw14_SeqAhead.f
  repeat' first
      | (with_reducible exact ih0 _ _ _ _ _ _)
      | (with_reducible exact shuttleref14_Ahead.mono _ _ _)
      | (with_reducible exact LeO.refl _)
      | (with_reducible exact LeO.none _)
      | (with_reducible refine LeO.ite ?_ ?_)
      | (with_reducible refine LeO.bind ?_ (fun _ => ?_))
      | exact ih0 _ _ _ _ _ _
      | exact shuttleref14_Ahead.mono _ _ _
      | exact LeO.none _
      | refine LeO.ite ?_ ?_
      | refine LeO.bind ?_ (fun _ => ?_)
set_option maxHeartbeats 8000000 in
set_option maxRecDepth 100000 in
theorem shuttlelaw14_SeqAhead.calls (k : Nat) (a0 : Int) (a1 : Int) (a2 : Int) (r : Bool) (w : World) (h : shuttlelaw14_SeqAhead.f k a0 a1 a2 = some r) :
    Calls Try.prog 5 #[.int .u16 a0, .int .u16 a1, .int .i64 a2] w fun e w' => e = .returned (.bool r) ∧ Drawn0 w w' := by
  have H : ((seq_Ahead.f a0 a1).bind fun t107 => ((shuttleref14_Ahead.f k (wrap64 (a0)) (wrap64 (a1))).bind fun t108 => ((seq_Ahead.f a1 a0).bind fun t109 => ((shuttlelaw14_round.f).bind fun t110 => (if t110 = true then (if t107 = t108 then ((seq_Before.f a0 a1).bind fun t111 => (if t108 ≥ 1 then (if (t111 != (decide (t108 ≤ 32767))) = true then (shuttlelaw14_SeqAhead.j0 k a0 a1 t107 t108 t109 true) else ((seq_Within.f a0 a2 a1).bind fun t112 => (shuttlelaw14_SeqAhead.j0 k a0 a1 t107 t108 t109 (t112 != (decide (t108 < a2)))))) else (if (t111 != false) = true then (shuttlelaw14_SeqAhead.j0 k a0 a1 t107 t108 t109 true) else ((seq_Within.f a0 a2 a1).bind fun t113 => (shuttlelaw14_SeqAhead.j0 k a0 a1 t107 t108 t109 (t113 != (decide (t108 < a2)))))))) else (shuttlelaw14_SeqAhead.j0 k a0 a1 t107 t108 t109 true)) else (shuttlelaw14_SeqAhead.j0 k a0 a1 t107 t108 t109 true)))))) = some r := h
  clear h
  replace H := Option.bind_eq_some_iff.mp H
  obtain ⟨t107, A40, H⟩ := H
  replace H : ((shuttleref14_Ahead.f k (wrap64 (a0)) (wrap64 (a1))).bind fun t108 => ((seq_Ahead.f a1 a0).bind fun t109 => ((shuttlelaw14_round.f).bind fun t110 => (if t110 = true then (if t107 = t108 then ((seq_Before.f a0 a1).bind fun t111 => (if t108 ≥ 1 then (if (t111 != (decide (t108 ≤ 32767))) = true then (shuttlelaw14_SeqAhead.j0 k a0 a1 t107 t108 t109 true) else ((seq_Within.f a0 a2 a1).bind fun t112 => (shuttlelaw14_SeqAhead.j0 k a0 a1 t107 t108 t109 (t112 != (decide (t108 < a2)))))) else (if (t111 != false) = true then (shuttlelaw14_SeqAhead.j0 k a0 a1 t107 t108 t109 true) else ((seq_Within.f a0 a2 a1).bind fun t113 => (shuttlelaw14_SeqAhead.j0 k a0 a1 t107 t108 t109 (t113 != (decide (t108 < a2)))))))) else (shuttlelaw14_SeqAhead.j0 k a0 a1 t107 t108 t109 true)) else (shuttlelaw14_SeqAhead.j0 k a0 a1 t107 t108 t109 true))))) = some r := H
  have A4 := Aside0.mk A40
  clear A40
  replace H := Option.bind_eq_some_iff.mp H
  obtain ⟨t108, A50, H⟩ := H
  replace H : ((seq_Ahead.f a1 a0).bind fun t109 => ((shuttlelaw14_round.f).bind fun t110 => (if t110 = true then (if t107 = t108 then ((seq_Before.f a0 a1).bind fun t111 => (if t108 ≥ 1 then (if (t111 != (decide (t108 ≤ 32767))) = true then (shuttlelaw14_SeqAhead.j0 k a0 a1 t107 t108 t109 true) else ((seq_Within.f a0 a2 a1).bind fun t112 => (shuttlelaw14_SeqAhead.j0 k a0 a1 t107 t108 t109 (t112 != (decide (t108 < a2)))))) else (if (t111 != false) = true then (shuttlelaw14_SeqAhead.j0 k a0 a1 t107 t108 t109 true) else ((seq_Within.f a0 a2 a1).bind fun t113 => (shuttlelaw14_SeqAhead.j0 k a0 a1 t107 t108 t109 (t113 != (decide (t108 < a2)))))))) else (shuttlelaw14_SeqAhead.j0 k a0 a1 t107 t108 t109 true)) else (shuttlelaw14_SeqAhead.j0 k a0 a1 t107 t108 t109 true)))) = some r := H
  have A5 := Aside0.mk A50
  clear A50
  replace H := Option.bind_eq_some_iff.mp H
  obtain ⟨t109, A60, H⟩ := H
  replace H : ((shuttlelaw14_round.f).bind fun t110 => (if t110 = true then (if t107 = t108 then ((seq_Before.f a0 a1).bind fun t111 => (if t108 ≥ 1 then (if (t111 != (decide (t108 ≤ 32767))) = true then (shuttlelaw14_SeqAhead.j0 k a0 a1 t107 t108 t109 true) else ((seq_Within.f a0 a2 a1).bind fun t112 => (shuttlelaw14_SeqAhead.j0 k a0 a1 t107 t108 t109 (t112 != (decide (t108 < a2)))))) else (if (t111 != false) = true then (shuttlelaw14_SeqAhead.j0 k a0 a1 t107 t108 t109 true) else ((seq_Within.f a0 a2 a1).bind fun t113 => (shuttlelaw14_SeqAhead.j0 k a0 a1 t107 t108 t109 (t113 != (decide (t108 < a2)))))))) else (shuttlelaw14_SeqAhead.j0 k a0 a1 t107 t108 t109 true)) else (shuttlelaw14_SeqAhead.j0 k a0 a1 t107 t108 t109 true))) = some r := H
  have A6 := Aside0.mk A60
  clear A60
  have HC7 := Aside0.mk H
  clear H
  go_enter Try.func5, Try.ntmps5
  go_upto_region 5 with (first | ((with_reducible refine gate_callee (f := 13) rfl ?_); refine goesL_ (some 16) rfl rfl Try.func13 (by kernel_rfl) rfl #[.int .u16 a0, .int .u16 a1] rfl (by (try simp only [List.map_toArray, List.map_cons, List.map_nil]); first | done | rfl | (simp only [List.length_drop, List.length_take]; rfl)) ?_; (with_reducible refine (seq_Ahead.calls a0 a1 t107 _ A4.out).mono ?_); rintro e w' ⟨rfl, ⟨nd, rfl⟩⟩; refine ⟨_, rfl, ?_⟩) | ((with_reducible refine gate_callee (f := 14) rfl ?_); refine goesL_ (some 21) rfl rfl Try.func14 (by kernel_rfl) rfl #[.int .i64 (wrap64 (a0)), .int .i64 (wrap64 (a1))] rfl (by (try simp only [List.map_toArray, List.map_cons, List.map_nil]); first | done | rfl | (simp only [List.length_drop, List.length_take]; rfl)) ?_; (with_reducible refine (shuttleref14_Ahead.calls k (wrap64 (a0)) (wrap64 (a1)) t108 _ A5.out).mono ?_); rintro e w' ⟨rfl, ⟨nd, rfl⟩⟩; refine ⟨_, rfl, ?_⟩) | ((with_reducible refine gate_callee (f := 13) rfl ?_); refine goesL_ (some 24) rfl rfl Try.func13 (by kernel_rfl) rfl #[.int .u16 a1, .int .u16 a0] rfl (by (try simp only [List.map_toArray, List.map_cons, List.map_nil]); first | done | rfl | (simp only [List.length_drop, List.length_take]; rfl)) ?_; (with_reducible refine (seq_Ahead.calls a1 a0 t109 _ A6.out).mono ?_); rintro e w' ⟨rfl, ⟨nd, rfl⟩⟩; refine ⟨_, rfl, ?_⟩))
  (try simp only [Act.put, List.setIfInBounds_toArray, List.set_cons_zero, List.set_cons_succ])
  go_cut [53] (fun v53 wc => ∃ (kq : Nat) (x53_6 : Bool), v53 = .bool x53_6 ∧ Aside0 (shuttlelaw14_SeqAhead.j0 kq a0 a1 t107 t108 t109 x53_6 = some r) ∧ Aside0 (kq ≤ k) ∧ Drawn0 w wc)
  case first =>
    have H := HC7.out
    clear HC7
    replace H := Option.bind_eq_some_iff.mp H
    obtain ⟨t110, A80, H⟩ := H
    replace H : (if t110 = true then (if t107 = t108 then ((seq_Before.f a0 a1).bind fun t111 => (if t108 ≥ 1 then (if (t111 != (decide (t108 ≤ 32767))) = true then (shuttlelaw14_SeqAhead.j0 k a0 a1 t107 t108 t109 true) else ((seq_Within.f a0 a2 a1).bind fun t112 => (shuttlelaw14_SeqAhead.j0 k a0 a1 t107 t108 t109 (t112 != (decide (t108 < a2)))))) else (if (t111 != false) = true then (shuttlelaw14_SeqAhead.j0 k a0 a1 t107 t108 t109 true) else ((seq_Within.f a0 a2 a1).bind fun t113 => (shuttlelaw14_SeqAhead.j0 k a0 a1 t107 t108 t109 (t113 != (decide (t108 < a2)))))))) else (shuttlelaw14_SeqAhead.j0 k a0 a1 t107 t108 t109 true)) else (shuttlelaw14_SeqAhead.j0 k a0 a1 t107 t108 t109 true)) = some r := H
    have A8 := Aside0.mk A80
    clear A80
    by_cases c9 : t110 = true
    · subst c9
      have H1 : (if t107 = t108 then ((seq_Before.f a0 a1).bind fun t111 => (if t108 ≥ 1 then (if (t111 != (decide (t108 ≤ 32767))) = true then (shuttlelaw14_SeqAhead.j0 k a0 a1 t107 t108 t109 true) else ((seq_Within.f a0 a2 a1).bind fun t112 => (shuttlelaw14_SeqAhead.j0 k a0 a1 t107 t108 t109 (t112 != (decide (t108 < a2)))))) else (if (t111 != false) = true then (shuttlelaw14_SeqAhead.j0 k a0 a1 t107 t108 t109 true) else ((seq_Within.f a0 a2 a1).bind fun t113 => (shuttlelaw14_SeqAhead.j0 k a0 a1 t107 t108 t109 (t113 != (decide (t108 < a2)))))))) else (shuttlelaw14_SeqAhead.j0 k a0 a1 t107 t108 t109 true)) = some r := by rw [if_pos rfl] at H; exact H
      clear H
      have H := H1
      clear H1
      by_cases c10 : t107 = t108
      · rw [if_pos c10] at H
        have c10b0 : (t107 == t108) = true := beq_iff_eq.mpr c10
        have c10b1 : (t107 != t108) = false := bne_eq_false_iff_eq.mpr c10
        clear c10
        (first | rw [c10b0] | (simp only [i64_w, i32_w]; rw [c10b0]) | skip)
        replace H := Option.bind_eq_some_iff.mp H
        obtain ⟨t111, A110, H⟩ := H
        replace H : (if t108 ≥ 1 then (if (t111 != (decide (t108 ≤ 32767))) = true then (shuttlelaw14_SeqAhead.j0 k a0 a1 t107 t108 t109 true) else ((seq_Within.f a0 a2 a1).bind fun t112 => (shuttlelaw14_SeqAhead.j0 k a0 a1 t107 t108 t109 (t112 != (decide (t108 < a2)))))) else (if (t111 != false) = true then (shuttlelaw14_SeqAhead.j0 k a0 a1 t107 t108 t109 true) else ((seq_Within.f a0 a2 a1).bind fun t113 => (shuttlelaw14_SeqAhead.j0 k a0 a1 t107 t108 t109 (t113 != (decide (t108 < a2))))))) = some r := H
        have A11 := Aside0.mk A110
        clear A110
        by_cases c12 : t108 ≥ 1
        · rw [if_pos c12] at H
          have c12b0 : decide (1 ≤ t108) = true := decide_eq_true c12
          clear c12
          by_cases c13 : (t111 != (decide (t108 ≤ 32767))) = true
          · rw [if_pos c13] at H
            have c13b0 : (t111 != (decide (t108 ≤ 32767))) = true := c13
            (try (have c13b1 : decide (t111 = (decide (t108 ≤ 32767))) = false := by simpa using c13))
            (try (have c13b2 : (t111 == (decide (t108 ≤ 32767))) = false := by simpa using c13))
            (try (have c13b3 : ¬ (t111 = (decide (t108 ≤ 32767))) := by simpa using c13))
            clear c13
            have H' := Aside0.mk H
            clear H
            go_wp2_with (first | ((with_reducible refine gate_callee (f := 10) rfl ?_); refine goesL_ (some 25) rfl rfl Try.func10 (by kernel_rfl) rfl #[] rfl (by (try simp only [List.map_toArray, List.map_cons, List.map_nil]); first | done | rfl | (simp only [List.length_drop, List.length_take]; rfl)) ?_; (with_reducible refine (shuttlelaw14_round.calls  true _ A8.out).mono ?_); rintro e w' ⟨rfl, ⟨nd, rfl⟩⟩; refine ⟨_, rfl, ?_⟩) | (go_at_call 12; (with_reducible refine (seq_Before.calls a0 a1 t111 _ A11.out).mono ?_); rintro e w' ⟨rfl, ⟨nd, rfl⟩⟩))
            go_meet
            case rel => exact ⟨_, (true), (by first | rfl | (simp; done) | (simp [*]; done)), H', ⟨by first | omega | exact Nat.le_refl _⟩, by repeat (first | exact Drawn0.refl _ | apply Drawn0.step)⟩
          · rw [if_neg c13] at H
            have c13b0 : (t111 != (decide (t108 ≤ 32767))) = false := by simpa using c13
            (try (have c13b1 : decide (t111 = (decide (t108 ≤ 32767))) = true := by simpa using c13))
            (try (have c13b2 : (t111 == (decide (t108 ≤ 32767))) = true := by simpa using c13))
            clear c13
            replace H := Option.bind_eq_some_iff.mp H
            obtain ⟨t112, A140, H⟩ := H
            replace H : (shuttlelaw14_SeqAhead.j0 k a0 a1 t107 t108 t109 (t112 != (decide (t108 < a2)))) = some r := H
            have A14 := Aside0.mk A140
            clear A140
            have H' := Aside0.mk H
            clear H
            go_wp2_with (first | ((with_reducible refine gate_callee (f := 10) rfl ?_); refine goesL_ (some 25) rfl rfl Try.func10 (by kernel_rfl) rfl #[] rfl (by (try simp only [List.map_toArray, List.map_cons, List.map_nil]); first | done | rfl | (simp only [List.length_drop, List.length_take]; rfl)) ?_; (with_reducible refine (shuttlelaw14_round.calls  true _ A8.out).mono ?_); rintro e w' ⟨rfl, ⟨nd, rfl⟩⟩; refine ⟨_, rfl, ?_⟩) | (go_at_call 12; (with_reducible refine (seq_Before.calls a0 a1 t111 _ A11.out).mono ?_); rintro e w' ⟨rfl, ⟨nd, rfl⟩⟩) | (go_at_call 15; (with_reducible refine (seq_Within.calls a0 a2 a1 t112 _ A14.out).mono ?_); rintro e w' ⟨rfl, ⟨nd, rfl⟩⟩))
            go_meet
            case rel => exact ⟨_, ((t112 != (decide (t108 < a2)))), (by first | rfl | (simp; done) | (simp [*]; done)), H', ⟨by first | omega | exact Nat.le_refl _⟩, by repeat (first | exact Drawn0.refl _ | apply Drawn0.step)⟩
        · rw [if_neg c12] at H
          have c12b0 : decide (1 ≤ t108) = false := decide_eq_false c12
          clear c12
          by_cases c15 : (t111 != false) = true
          · rw [if_pos c15] at H
            have c15b0 : (t111 != false) = true := c15
            (try (have c15b1 : decide (t111 = false) = false := by simpa using c15))
            (try (have c15b2 : (t111 == false) = false := by simpa using c15))
            (try (have c15b3 : ¬ (t111 = false) := by simpa using c15))
            clear c15
            have H' := Aside0.mk H
            clear H
            go_wp2_with (first | ((with_reducible refine gate_callee (f := 10) rfl ?_); refine goesL_ (some 25) rfl rfl Try.func10 (by kernel_rfl) rfl #[] rfl (by (try simp only [List.map_toArray, List.map_cons, List.map_nil]); first | done | rfl | (simp only [List.length_drop, List.length_take]; rfl)) ?_; (with_reducible refine (shuttlelaw14_round.calls  true _ A8.out).mono ?_); rintro e w' ⟨rfl, ⟨nd, rfl⟩⟩; refine ⟨_, rfl, ?_⟩) | (go_at_call 12; (with_reducible refine (seq_Before.calls a0 a1 t111 _ A11.out).mono ?_); rintro e w' ⟨rfl, ⟨nd, rfl⟩⟩))
            go_meet
            case rel => exact ⟨_, (true), (by first | rfl | (simp; done) | (simp [*]; done)), H', ⟨by first | omega | exact Nat.le_refl _⟩, by repeat (first | exact Drawn0.refl _ | apply Drawn0.step)⟩
          · rw [if_neg c15] at H
            have c15b0 : (t111 != false) = false := by simpa using c15
            (try (have c15b1 : decide (t111 = false) = true := by simpa using c15))
            (try (have c15b2 : (t111 == false) = true := by simpa using c15))
            clear c15
            replace H := Option.bind_eq_some_iff.mp H
            obtain ⟨t113, A160, H⟩ := H
            replace H : (shuttlelaw14_SeqAhead.j0 k a0 a1 t107 t108 t109 (t113 != (decide (t108 < a2)))) = some r := H
            have A16 := Aside0.mk A160
            clear A160
            have H' := Aside0.mk H
            clear H
            go_wp2_with (first | ((with_reducible refine gate_callee (f := 10) rfl ?_); refine goesL_ (some 25) rfl rfl Try.func10 (by kernel_rfl) rfl #[] rfl (by (try simp only [List.map_toArray, List.map_cons, List.map_nil]); first | done | rfl | (simp only [List.length_drop, List.length_take]; rfl)) ?_; (with_reducible refine (shuttlelaw14_round.calls  true _ A8.out).mono ?_); rintro e w' ⟨rfl, ⟨nd, rfl⟩⟩; refine ⟨_, rfl, ?_⟩) | (go_at_call 12; (with_reducible refine (seq_Before.calls a0 a1 t111 _ A11.out).mono ?_); rintro e w' ⟨rfl, ⟨nd, rfl⟩⟩) | (go_at_call 15; (with_reducible refine (seq_Within.calls a0 a2 a1 t113 _ A16.out).mono ?_); rintro e w' ⟨rfl, ⟨nd, rfl⟩⟩))
            go_meet
            case rel => exact ⟨_, ((t113 != (decide (t108 < a2)))), (by first | rfl | (simp; done) | (simp [*]; done)), H', ⟨by first | omega | exact Nat.le_refl _⟩, by repeat (first | exact Drawn0.refl _ | apply Drawn0.step)⟩
      · rw [if_neg c10] at H
        have c10b0 : (t107 == t108) = false := beq_eq_false_iff_ne.mpr c10
        have c10b1 : (t107 != t108) = true := bne_iff_ne.mpr c10
        (first | rw [c10b0] | (simp only [i64_w, i32_w]; rw [c10b0]) | skip)
        have H' := Aside0.mk H
        clear H
        go_wp2_with (first | ((with_reducible refine gate_callee (f := 10) rfl ?_); refine goesL_ (some 25) rfl rfl Try.func10 (by kernel_rfl) rfl #[] rfl (by (try simp only [List.map_toArray, List.map_cons, List.map_nil]); first | done | rfl | (simp only [List.length_drop, List.length_take]; rfl)) ?_; (with_reducible refine (shuttlelaw14_round.calls  true _ A8.out).mono ?_); rintro e w' ⟨rfl, ⟨nd, rfl⟩⟩; refine ⟨_, rfl, ?_⟩))
        go_meet
        case rel => exact ⟨_, (true), (by first | rfl | (simp; done) | (simp [*]; done)), H', ⟨by first | omega | exact Nat.le_refl _⟩, by repeat (first | exact Drawn0.refl _ | apply Drawn0.step)⟩
    · replace c9 := Bool.eq_false_iff.mpr c9
      subst c9
      have H1 : (shuttlelaw14_SeqAhead.j0 k a0 a1 t107 t108 t109 true) = some r := by rw [if_neg (show ¬ (false = true) by decide)] at H; exact H
      clear H
      have H := H1
      clear H1
      have H' := Aside0.mk H
      clear H
      go_wp2_with (first | ((with_reducible refine gate_callee (f := 10) rfl ?_); refine goesL_ (some 25) rfl rfl Try.func10 (by kernel_rfl) rfl #[] rfl (by (try simp only [List.map_toArray, List.map_cons, List.map_nil]); first | done | rfl | (simp only [List.length_drop, List.length_take]; rfl)) ?_; (with_reducible refine (shuttlelaw14_round.calls  false _ A8.out).mono ?_); rintro e w' ⟨rfl, ⟨nd, rfl⟩⟩; refine ⟨_, rfl, ?_⟩))
      go_meet
      case rel => exact ⟨_, (true), (by first | rfl | (simp; done) | (simp [*]; done)), H', ⟨by first | omega | exact Nat.le_refl _⟩, by repeat (first | exact Drawn0.refl _ | apply Drawn0.step)⟩
  case rest =>
    clear HC7
    try clear c1
    try clear p2
    try clear c5
    try clear p6
    try clear c9
    try clear c10
    try clear c10b0
    try clear c10b1
    try clear c12
    try clear c12b0
    try clear c13
    try clear c13b0
    try clear c13b1
    try clear c13b2
    try clear c14
    try clear c15
    try clear c15b0
    try clear c15b1
    try clear c15b2
    obtain ⟨kq, x53_6, rfl, HA, HJ6, ⟨mc6, rfl⟩⟩ := hcut
    cases kq with
    | zero => exact absurd HA.out (by simp [shuttlelaw14_SeqAhead.j0])
    | succ kj6 =>
      have H := HA.out
      clear HA
      simp only [shuttlelaw14_SeqAhead.j0] at H
      by_cases c17 : x53_6 = true
      · subst c17
        have H1 : (some false) = some r := by rw [if_pos rfl] at H; exact H
        clear H
        have H := H1
        clear H1
        obtain rfl := Option.some.inj H
        go_wp2
        go_ret
        exact ⟨by first | rfl | (simp; done) | (simp [*]; done), by repeat (first | exact Drawn0.refl _ | apply Drawn0.step)⟩
      · replace c17 := Bool.eq_false_iff.mpr c17
        subst c17
        have H1 : (if t108 = 0 then (if t109 = 0 then ((seq_Before.f a1 a0).bind fun t114 => (some (!t114))) else (some false)) else (if (wrap64 (t107 + t109)) = 65536 then (if t108 = 32768 then (some true) else ((seq_Before.f a0 a1).bind fun t115 => ((seq_Before.f a1 a0).bind fun t116 => (some (t115 != t116))))) else (some false))) = some r := by rw [if_neg (show ¬ (false = true) by decide)] at H; exact H
        clear H
        have H := H1
        clear H1
        by_cases c18 : t108 = 0
        · rw [if_pos c18] at H
          have c18b0 : (t108 == 0) = true := beq_iff_eq.mpr c18
          have c18b1 : (t108 != 0) = false := bne_eq_false_iff_eq.mpr c18
          clear c18
          by_cases c19 : t109 = 0
          · rw [if_pos c19] at H
            have c19b0 : (t109 == 0) = true := beq_iff_eq.mpr c19
            have c19b1 : (t109 != 0) = false := bne_eq_false_iff_eq.mpr c19
            clear c19
            replace H := Option.bind_eq_some_iff.mp H
            obtain ⟨t114, A200, H⟩ := H
            replace H : (some (!t114)) = some r := H
            have A20 := Aside0.mk A200
            clear A200
            obtain rfl := Option.some.inj H
            go_wp2_with (first | (go_at_call 12; (with_reducible refine (seq_Before.calls a1 a0 t114 _ A20.out).mono ?_); rintro e w' ⟨rfl, ⟨nd, rfl⟩⟩))
            go_ret
            exact ⟨by first | rfl | (simp; done) | (simp [*]; done), by repeat (first | exact Drawn0.refl _ | apply Drawn0.step)⟩
          · rw [if_neg c19] at H
            have c19b0 : (t109 == 0) = false := beq_eq_false_iff_ne.mpr c19
            have c19b1 : (t109 != 0) = true := bne_iff_ne.mpr c19
            obtain rfl := Option.some.inj H
            go_wp2
            go_ret
            exact ⟨by first | rfl | (simp; done) | (simp [*]; done), by repeat (first | exact Drawn0.refl _ | apply Drawn0.step)⟩
        · rw [if_neg c18] at H
          have c18b0 : (t108 == 0) = false := beq_eq_false_iff_ne.mpr c18
          have c18b1 : (t108 != 0) = true := bne_iff_ne.mpr c18
          by_cases c21 : (wrap64 (t107 + t109)) = 65536
          · rw [if_pos c21] at H
            have c21b0 : ((wrap64 (t107 + t109)) == 65536) = true := beq_iff_eq.mpr c21
            have c21b1 : ((wrap64 (t107 + t109)) != 65536) = false := bne_eq_false_iff_eq.mpr c21
            clear c21
            by_cases c22 : t108 = 32768
            · rw [if_pos c22] at H
              have c22b0 : (t108 == 32768) = true := beq_iff_eq.mpr c22
              have c22b1 : (t108 != 32768) = false := bne_eq_false_iff_eq.mpr c22
              clear c22
              obtain rfl := Option.some.inj H
              go_wp2
              go_ret
              exact ⟨by first | rfl | (simp; done) | (simp [*]; done), by repeat (first | exact Drawn0.refl _ | apply Drawn0.step)⟩
            · rw [if_neg c22] at H
              have c22b0 : (t108 == 32768) = false := beq_eq_false_iff_ne.mpr c22
              have c22b1 : (t108 != 32768) = true := bne_iff_ne.mpr c22
              replace H := Option.bind_eq_some_iff.mp H
              obtain ⟨t115, A230, H⟩ := H
              replace H : ((seq_Before.f a1 a0).bind fun t116 => (some (t115 != t116))) = some r := H
              have A23 := Aside0.mk A230
              clear A230
              replace H := Option.bind_eq_some_iff.mp H
              obtain ⟨t116, A240, H⟩ := H
              replace H : (some (t115 != t116)) = some r := H
              have A24 := Aside0.mk A240
              clear A240
              obtain rfl := Option.some.inj H
              go_wp2_with (first | (go_at_call 12; (with_reducible refine (seq_Before.calls a0 a1 t115 _ A23.out).mono ?_); rintro e w' ⟨rfl, ⟨nd, rfl⟩⟩) | (go_at_call 12; (with_reducible refine (seq_Before.calls a1 a0 t116 _ A24.out).mono ?_); rintro e w' ⟨rfl, ⟨nd, rfl⟩⟩))
              go_ret
              exact ⟨by first | rfl | (simp; done) | (simp [*]; done), by repeat (first | exact Drawn0.refl _ | apply Drawn0.step)⟩
          · rw [if_neg c21] at H
            have c21b0 : ((wrap64 (t107 + t109)) == 65536) = false := beq_eq_false_iff_ne.mpr c21
            have c21b1 : ((wrap64 (t107 + t109)) != 65536) = true := bne_iff_ne.mpr c21
            obtain rfl := Option.some.inj H
            go_wp2
            go_ret
            exact ⟨by first | rfl | (simp; done) | (simp [*]; done), by repeat (first | exact Drawn0.refl _ | apply Drawn0.step)⟩

/-- THE ONE PURE STATEMENT of shuttlelaw14_SeqAhead: yours. -/
def shuttlelaw14_SeqAhead.Pure : Prop := ∀ (a0 : Int) (a1 : Int) (a2 : Int), (Lit.int .u16 a0).wf = true → (Lit.int .u16 a1).wf = true → (Lit.int .i64 a2).wf = true → ∃ k, shuttlelaw14_SeqAhead.f k a0 a1 a2 = some true
theorem shuttlelaw14_SeqAhead.walk (P : shuttlelaw14_SeqAhead.Pure) (a0 : Int) (a1 : Int) (a2 : Int) (w : World) (w0 : (Lit.int .u16 a0).wf = true) (w1 : (Lit.int .u16 a1).wf = true) (w2 : (Lit.int .i64 a2).wf = true) :
    Calls Try.prog 5 #[.int .u16 a0, .int .u16 a1, .int .i64 a2] w fun e w' => e = .returned (.bool true) ∧ Below w.heap.size w w' := by
  obtain ⟨k, h⟩ := P a0 a1 a2 w0 w1 w2
  refine (shuttlelaw14_SeqAhead.calls k a0 a1 a2 true w h).mono ?_
  rintro e w' ⟨rfl, hd⟩
  exact ⟨rfl, hd.below⟩

end Go.Proofs.Ytpkoaleebabmdaa.PSeqAhead
