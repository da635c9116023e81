/- Machine side of the statements of this seat: of each function what it computes, and that the code computes it (lines made by a program of ours on the pattern of the print). No condition of our own. -/
import Derived.Test.YtdakfabdegiboaaQ0
import Derived.Test.YtdakfabdegiboaaQ1
import Derived.Test.YtdakfabdegiboaaQ2
namespace Go.Proofs.Ytdakfabdegiboaa.Q
open Go.RowKit Go.Proofs.YtdakfabdegiboaaW.PrintWords Go.Proofs.YtdakfabdegiboaaW.PrintLast Go.Proofs.YtdakfabdegiboaaW.PrintMore
attribute [local go_sem] max2_int min2_int max_two min_two max_three min_three max_four min_four   -- for this text's walks alone
set_option linter.unusedVariables false
set_option linter.unusedSimpArgs false

/-! ### shuttlelaw33_ShuffleOrders: function 5 -/
mutual
def shuttlelaw33_ShuffleOrders.j0 : Nat → Int → Int → Bool → Option (Bool)
  | 0, _, _, _ => none
  | k + 1, x0, x1, x17 => if x17 = true then (shuttlelaw33_ShuffleOrders.j1 k (Int.tmod x0 300) x1) else (shuttlelaw33_ShuffleOrders.j1 k x0 x1)
def shuttlelaw33_ShuffleOrders.j1 : Nat → Int → Int → Option (Bool)
  | 0, _, _ => none
  | k + 1, x0, x1 => (shuffle_Order.f k x0 x1).bind fun bt140 => ((shuffle_Apart.f k x0 x1).bind fun bt144 => ((shuttlelaw33_shuffles.f k).bind fun t146 => (if t146 = true then ((shuttleref33_Right.f x0 x1).bind fun t147 => (if t147 = true then ((shuttleref33_Order.f k x0 x1).bind fun t148 => (if bt140.2 = 0 then (if bt144.2 = 0 then (if (bt140.1.length : Int) = x0 then ((shuttleref33_Apart.f k x0 x1).bind fun t151 => (shuttlelaw33_ShuffleOrders.j2 k x0 bt140.1 t148 (bt144.1 != t151))) else (shuttlelaw33_ShuffleOrders.j2 k x0 bt140.1 t148 true)) else (shuttlelaw33_ShuffleOrders.j2 k x0 bt140.1 t148 true)) else (shuttlelaw33_ShuffleOrders.j2 k x0 bt140.1 t148 true))) else (if bt140.2 = 1 then (if bt144.2 = 1 then (if (bt140.1.length : Int) = 0 then (some (bt144.1 == 0)) else (some false)) else (some false)) else (some false)))) else (some false))))
def shuttlelaw33_ShuffleOrders.j2 : Nat → Int → List Int → List Int → Bool → Option (Bool)
  | 0, _, _, _, _ => none
  | k + 1, x0, x5, x9, x74 => if x74 = true then (some false) else (if 0 ≤ x0 then (if (x0 : Int).toNat ≤ 281474976710656 then (shuttlelaw33_ShuffleOrders.l0 k x0 x5 x9 (List.replicate (x0 : Int).toNat false) 0) else (none)) else (none))
def shuttlelaw33_ShuffleOrders.l0 : Nat → Int → List Int → List Int → List Bool → Int → Option (Bool)
  | 0, _, _, _, _, _ => none
  | k + 1, x0, x5, x9, x10, x11 => if x11 < x0 then (if 0 ≤ x11 then (if x11 < (x5.length : Int) then (if x11 < (x9.length : Int) then (if (rd x5 x11) = (rd x9 x11) then (if 0 ≤ (rd x5 x11) then (if (rd x5 x11) < (x10.length : Int) then (if rdOf false x10 (rd x5 x11) = true then (some false) else (shuttlelaw33_ShuffleOrders.l0 k x0 x5 x9 (x10.set ((rd x5 x11) : Int).toNat true) (wrap64 (x11 + 1)))) else (none)) else (none)) else (some false)) else (none)) else (none)) else (none)) else (some true)
end
def shuttlelaw33_ShuffleOrders.f (k : Nat) (a0 : Int) (a1 : Int) : Option (Bool) := if a0 > 300 then (shuttlelaw33_ShuffleOrders.j0 k a0 a1 (decide (a0 ≤ 65536))) else (shuttlelaw33_ShuffleOrders.j0 k a0 a1 false)
theorem shuttlelaw33_ShuffleOrders.mono_l : ∀ k, (∀ y0 y1 y2, LeO (shuttlelaw33_ShuffleOrders.j0 k y0 y1 y2) (shuttlelaw33_ShuffleOrders.j0 (k + 1) y0 y1 y2)) ∧ (∀ y0 y1, LeO (shuttlelaw33_ShuffleOrders.j1 k y0 y1) (shuttlelaw33_ShuffleOrders.j1 (k + 1) y0 y1)) ∧ (∀ y0 y1 y2 y3, LeO (shuttlelaw33_ShuffleOrders.j2 k y0 y1 y2 y3) (shuttlelaw33_ShuffleOrders.j2 (k + 1) y0 y1 y2 y3)) ∧ (∀ y0 y1 y2 y3 y4, LeO (shuttlelaw33_ShuffleOrders.l0 k y0 y1 y2 y3 y4) (shuttlelaw33_ShuffleOrders.l0 (k + 1) y0 y1 y2 y3 y4))
  | 0 => ⟨fun _ _ _ r h => by simp [shuttlelaw33_ShuffleOrders.j0] at h, fun _ _ r h => by simp [shuttlelaw33_ShuffleOrders.j1] at h, fun _ _ _ _ r h => by simp [shuttlelaw33_ShuffleOrders.j2] at h, fun _ _ _ _ _ r h => by simp [shuttlelaw33_ShuffleOrders.l0] at h⟩
  | k + 1 => by
    obtain ⟨ih0, ih1, ih2, ih3⟩ := shuttlelaw33_ShuffleOrders.mono_l k
    refine ⟨?_, ?_, ?_, ?_⟩
    · intro y0 y1 y2
      unfold shuttlelaw33_ShuffleOrders.j0
      repeat' first
      | (with_reducible exact ih0 _ _ _)
      | (with_reducible exact ih1 _ _)
      | (with_reducible exact ih2 _ _ _ _)
      | (with_reducible exact ih3 _ _ _ _ _)
      | (with_reducible exact shuffle_Apart.mono _ _ _)
      | (with_reducible exact shuffle_Order.mono _ _ _)
      | (with_reducible exact shuttlelaw33_shuffles.mono _)
      | (with_reducible exact shuttleref33_Apart.mono _ _ _)
      | (with_reducible exact shuttleref33_Order.mono _ _ _)
      | (with_reducible exact LeO.refl _)
      | (with_reducible exact LeO.none _)
      | (with_reducible refine LeO.ite ?_ ?_)
      | (with_reducible refine LeO.bind ?_ (fun _ => ?_))
      | exact ih0 _ _ _
      | exact ih1 _ _
      | exact ih2 _ _ _ _
      | exact ih3 _ _ _ _ _
      | exact shuffle_Apart.mono _ _ _
      | exact shuffle_Order.mono _ _ _
      | exact shuttlelaw33_shuffles.mono _
      | exact shuttleref33_Apart.mono _ _ _
      | exact shuttleref33_Order.mono _ _ _
      | exact LeO.none _
      | refine LeO.ite ?_ ?_
      | refine LeO.bind ?_ (fun _ => ?_)
    · intro y0 y1
      unfold shuttlelaw33_ShuffleOrders.j1
      repeat' first
      | (with_reducible exact ih0 _ _ _)
      | (with_reducible exact ih1 _ _)
      | (with_reducible exact ih2 _ _ _ _)
      | (with_reducible exact ih3 _ _ _ _ _)
      | (with_reducible exact shuffle_Apart.mono _ _ _)
      | (with_reducible exact shuffle_Order.mono _ _ _)
      | (with_reducible exact shuttlelaw33_shuffles.mono _)
      | (with_reducible exact shuttleref33_Apart.mono _ _ _)
      | (with_reducible exact shuttleref33_Order.mono _ _ _)
      | (with_reducible exact LeO.refl _)
      | (with_reducible exact LeO.none _)
      | (with_reducible refine LeO.ite ?_ ?_)
      | (with_reducible refine LeO.bind ?_ (fun _ => ?_))
      | exact ih0 _ _ _
      | exact ih1 _ _
      | exact ih2 _ _ _ _
      | exact ih3 _ _ _ _ _
      | exact shuffle_Apart.mono _ _ _
      | exact shuffle_Order.mono _ _ _
      | exact shuttlelaw33_shuffles.mono _
      | exact shuttleref33_Apart.mono _ _ _
      | exact shuttleref33_Order.mono _ _ _
      | exact LeO.none _
      | refine LeO.ite ?_ ?_
      | refine LeO.bind ?_ (fun _ => ?_)
    · intro y0 y1 y2 y3
      unfold shuttlelaw33_ShuffleOrders.j2
      repeat' first
      | (with_reducible exact ih0 _ _ _)
      | (with_reducible exact ih1 _ _)
      | (with_reducible exact ih2 _ _ _ _)
      | (with_reducible exact ih3 _ _ _ _ _)
      | (with_reducible exact shuffle_Apart.mono _ _ _)
      | (with_reducible exact shuffle_Order.mono _ _ _)
      | (with_reducible exact shuttlelaw33_shuffles.mono _)
      | (with_reducible exact shuttleref33_Apart.mono _ _ _)
      | (with_reducible exact shuttleref33_Order.mono _ _ _)
      | (with_reducible exact LeO.refl _)
      | (with_reducible exact LeO.none _)
      | (with_reducible refine LeO.ite ?_ ?_)
      | (with_reducible refine LeO.bind ?_ (fun _ => ?_))
      | exact ih0 _ _ _
      | exact ih1 _ _
      | exact ih2 _ _ _ _
      | exact ih3 _ _ _ _ _
      | exact shuffle_Apart.mono _ _ _
      | exact shuffle_Order.mono _ _ _
      | exact shuttlelaw33_shuffles.mono _
      | exact shuttleref33_Apart.mono _ _ _
      | exact shuttleref33_Order.mono _ _ _
      | exact LeO.none _
      | refine LeO.ite ?_ ?_
      | refine LeO.bind ?_ (fun _ => ?_)
    · intro y0 y1 y2 y3 y4
      unfold shuttlelaw33_ShuffleOrders.l0
      repeat' first
      | (with_reducible exact ih0 _ _ _)
      | (with_reducible exact ih1 _ _)
      | (with_reducible exact ih2 _ _ _ _)
      | (with_reducible exact ih3 _ _ _ _ _)
      | (with_reducible exact shuffle_Apart.mono _ _ _)
      | (with_reducible exact shuffle_Order.mono _ _ _)
      | (with_reducible exact shuttlelaw33_shuffles.mono _)
      | (with_reducible exact shuttleref33_Apart.mono _ _ _)
      | (with_reducible exact shuttleref33_Order.mono _ _ _)
      | (with_reducible exact LeO.refl _)
      | (with_reducible exact LeO.none _)
      | (with_reducible refine LeO.ite ?_ ?_)
      | (with_reducible refine LeO.bind ?_ (fun _ => ?_))
      | exact ih0 _ _ _
      | exact ih1 _ _
      | exact ih2 _ _ _ _
      | exact ih3 _ _ _ _ _
      | exact shuffle_Apart.mono _ _ _
      | exact shuffle_Order.mono _ _ _
      | exact shuttlelaw33_shuffles.mono _
      | exact shuttleref33_Apart.mono _ _ _
      | exact shuttleref33_Order.mono _ _ _
      | exact LeO.none _
      | refine LeO.ite ?_ ?_
      | refine LeO.bind ?_ (fun _ => ?_)
theorem shuttlelaw33_ShuffleOrders.mono : ∀ a0 a1 k, LeO (shuttlelaw33_ShuffleOrders.f k a0 a1) (shuttlelaw33_ShuffleOrders.f (k + 1) a0 a1) := by
  intro a0 a1 k
  obtain ⟨ih0, ih1, ih2, ih3⟩ := shuttlelaw33_ShuffleOrders.mono_l k
  unfold shuttlelaw33_ShuffleOrders.f
  repeat' first
      | (with_reducible exact ih0 _ _ _)
      | (with_reducible exact ih1 _ _)
      | (with_reducible exact ih2 _ _ _ _)
      | (with_reducible exact ih3 _ _ _ _ _)
      | (with_reducible exact shuffle_Apart.mono _ _ _)
      | (with_reducible exact shuffle_Order.mono _ _ _)
      | (with_reducible exact shuttlelaw33_shuffles.mono _)
      | (with_reducible exact shuttleref33_Apart.mono _ _ _)
      | (with_reducible exact shuttleref33_Order.mono _ _ _)
      | (with_reducible exact LeO.refl _)
      | (with_reducible exact LeO.none _)
      | (with_reducible refine LeO.ite ?_ ?_)
      | (with_reducible refine LeO.bind ?_ (fun _ => ?_))
      | exact ih0 _ _ _
      | exact ih1 _ _
      | exact ih2 _ _ _ _
      | exact ih3 _ _ _ _ _
      | exact shuffle_Apart.mono _ _ _
      | exact shuffle_Order.mono _ _ _
      | exact shuttlelaw33_shuffles.mono _
      | exact shuttleref33_Apart.mono _ _ _
      | exact shuttleref33_Order.mono _ _ _
      | exact LeO.none _
      | refine LeO.ite ?_ ?_
      | refine LeO.bind ?_ (fun _ => ?_)
set_option maxHeartbeats 8000000 in
set_option maxRecDepth 100000 in
theorem shuttlelaw33_ShuffleOrders.calls (k : Nat) (a0 : Int) (a1 : Int) (r : Bool) (w : World) (h : shuttlelaw33_ShuffleOrders.f k a0 a1 = some r) :
    Calls Try.prog 5 #[.int .i64 a0, .int .i64 a1] w fun e w' => e = .returned (.bool r) ∧ Below w.heap.size w w' := by
  have HB := Aside0.mk (Below.refl w.heap.size w)
  have H : (if a0 > 300 then (shuttlelaw33_ShuffleOrders.j0 k a0 a1 (decide (a0 ≤ 65536))) else (shuttlelaw33_ShuffleOrders.j0 k a0 a1 false)) = some r := h
  clear h
  have HC3 := Aside0.mk H
  clear H
  go_enter Try.func5, Try.ntmps5
  go_upto_region 1 with (fail)
  repeat (go_quiet (fail); go_upto_region 1 with (fail))
  go_cut [17] (fun v17 wc => ∃ (kq : Nat) (x17_2 : Bool), v17 = .bool x17_2 ∧ Aside0 (shuttlelaw33_ShuffleOrders.j0 kq a0 a1 x17_2 = some r) ∧ Aside0 (kq ≤ k) ∧ Aside0 (Below w.heap.size w wc))
  case first =>
    have H := HC3.out
    clear HC3
    by_cases c4 : a0 > 300
    · rw [if_pos c4] at H
      have c4b0 : decide (300 < a0) = true := decide_eq_true c4
      clear c4
      (first | rw [c4b0] | (simp only [i64_w, i32_w]; rw [c4b0]) | skip)
      have H' := Aside0.mk H
      clear H
      go_wp2
      repeat (go_quiet (fail); try go_wp2)
      go_meet
      case rel => exact ⟨_, (decide (a0 ≤ 65536)), (by first | rfl | (simp; done) | (simp [*]; done)), H', ⟨by first | omega | exact Nat.le_refl _⟩, ⟨by repeat (first | (with_reducible first | exact HB.out | apply below_alloc | apply pw_below_drewN | apply below_drew1) | exact HB.out)⟩⟩
    · rw [if_neg c4] at H
      have c4b0 : decide (300 < a0) = false := decide_eq_false c4
      clear c4
      (first | rw [c4b0] | (simp only [i64_w, i32_w]; rw [c4b0]) | skip)
      have H' := Aside0.mk H
      clear H
      go_wp2
      repeat (go_quiet (fail); try go_wp2)
      go_meet
      case rel => exact ⟨_, (false), (by first | rfl | (simp; done) | (simp [*]; done)), H', ⟨by first | omega | exact Nat.le_refl _⟩, ⟨by repeat (first | (with_reducible first | exact HB.out | apply below_alloc | apply pw_below_drewN | apply below_drew1) | exact HB.out)⟩⟩
  case rest =>
    clear HC3
    try clear p2
    try clear c4
    try clear c4b0
    obtain ⟨kq, x17_2, rfl, HA, HJ2, HB⟩ := hcut
    cases kq with
    | zero => exact absurd HA.out (by simp [shuttlelaw33_ShuffleOrders.j0])
    | succ kj2 =>
      have H := HA.out
      clear HA
      simp only [shuttlelaw33_ShuffleOrders.j0] at H
      have HC5 := Aside0.mk H
      clear H
      go_upto_if 17 with (fail)
      repeat (go_quiet (fail); go_upto_if 17 with (fail))
      go_cut [0] (fun v0 wc => ∃ (kq : Nat) (x0_4 : Int), v0 = .int .i64 x0_4 ∧ Aside0 (shuttlelaw33_ShuffleOrders.j1 kq x0_4 a1 = some r) ∧ Aside0 (kq ≤ kj2) ∧ Aside0 (Below w.heap.size w wc))
      case first =>
        have H := HC5.out
        clear HC5
        by_cases c6 : x17_2 = true
        · subst c6
          have H1 : (shuttlelaw33_ShuffleOrders.j1 kj2 (Int.tmod a0 300) a1) = some r := by rw [if_pos rfl] at H; exact H
          clear H
          have H := H1
          clear H1
          have H' := Aside0.mk H
          clear H
          go_wp2
          repeat (go_quiet (fail); try go_wp2)
          go_meet
          case rel => exact ⟨_, (Int.tmod a0 300), (by first | rfl | (simp; done) | (simp [*]; done)), H', ⟨by have := HJ2.out; first | omega | exact Nat.le_refl _⟩, ⟨by repeat (first | (with_reducible first | exact HB.out | apply below_alloc | apply pw_below_drewN | apply below_drew1) | exact HB.out)⟩⟩
        · replace c6 := Bool.eq_false_iff.mpr c6
          subst c6
          have H1 : (shuttlelaw33_ShuffleOrders.j1 kj2 a0 a1) = some r := by rw [if_neg (show ¬ (false = true) by decide)] at H; exact H
          clear H
          have H := H1
          clear H1
          have H' := Aside0.mk H
          clear H
          go_wp2
          repeat (go_quiet (fail); try go_wp2)
          go_meet
          case rel => exact ⟨_, (a0), (by first | rfl | (simp; done) | (simp [*]; done)), H', ⟨by have := HJ2.out; first | omega | exact Nat.le_refl _⟩, ⟨by repeat (first | (with_reducible first | exact HB.out | apply below_alloc | apply pw_below_drewN | apply below_drew1) | exact HB.out)⟩⟩
      case rest =>
        clear HC5
        try clear p2
        try clear c4
        try clear c4b0
        try clear c5
        try clear c6
        try clear p2
        obtain ⟨kq, x0_4, rfl, HA, HJ4, HB⟩ := hcut
        cases kq with
        | zero => exact absurd HA.out (by simp [shuttlelaw33_ShuffleOrders.j1])
        | succ kj4 =>
          have H := HA.out
          clear HA
          simp only [shuttlelaw33_ShuffleOrders.j1] at H
          replace H := Option.bind_eq_some_iff.mp H
          obtain ⟨⟨t140, t141⟩, A70, H⟩ := H
          replace H : ((shuffle_Apart.f kj4 x0_4 a1).bind fun bt144 => ((shuttlelaw33_shuffles.f kj4).bind fun t146 => (if t146 = true then ((shuttleref33_Right.f x0_4 a1).bind fun t147 => (if t147 = true then ((shuttleref33_Order.f kj4 x0_4 a1).bind fun t148 => (if t141 = 0 then (if bt144.2 = 0 then (if (t140.length : Int) = x0_4 then ((shuttleref33_Apart.f kj4 x0_4 a1).bind fun t151 => (shuttlelaw33_ShuffleOrders.j2 kj4 x0_4 t140 t148 (bt144.1 != t151))) else (shuttlelaw33_ShuffleOrders.j2 kj4 x0_4 t140 t148 true)) else (shuttlelaw33_ShuffleOrders.j2 kj4 x0_4 t140 t148 true)) else (shuttlelaw33_ShuffleOrders.j2 kj4 x0_4 t140 t148 true))) else (if t141 = 1 then (if bt144.2 = 1 then (if (t140.length : Int) = 0 then (some (bt144.1 == 0)) else (some false)) else (some false)) else (some false)))) else (some false)))) = some r := H
          have A7 := Aside0.mk A70
          clear A70
          replace H := Option.bind_eq_some_iff.mp H
          obtain ⟨⟨t144, t145⟩, A80, H⟩ := H
          replace H : ((shuttlelaw33_shuffles.f kj4).bind fun t146 => (if t146 = true then ((shuttleref33_Right.f x0_4 a1).bind fun t147 => (if t147 = true then ((shuttleref33_Order.f kj4 x0_4 a1).bind fun t148 => (if t141 = 0 then (if t145 = 0 then (if (t140.length : Int) = x0_4 then ((shuttleref33_Apart.f kj4 x0_4 a1).bind fun t151 => (shuttlelaw33_ShuffleOrders.j2 kj4 x0_4 t140 t148 (t144 != t151))) else (shuttlelaw33_ShuffleOrders.j2 kj4 x0_4 t140 t148 true)) else (shuttlelaw33_ShuffleOrders.j2 kj4 x0_4 t140 t148 true)) else (shuttlelaw33_ShuffleOrders.j2 kj4 x0_4 t140 t148 true))) else (if t141 = 1 then (if t145 = 1 then (if (t140.length : Int) = 0 then (some (t144 == 0)) else (some false)) else (some false)) else (some false)))) else (some false))) = some r := H
          have A8 := Aside0.mk A80
          clear A80
          replace H := Option.bind_eq_some_iff.mp H
          obtain ⟨t146, A90, H⟩ := H
          replace H : (if t146 = true then ((shuttleref33_Right.f x0_4 a1).bind fun t147 => (if t147 = true then ((shuttleref33_Order.f kj4 x0_4 a1).bind fun t148 => (if t141 = 0 then (if t145 = 0 then (if (t140.length : Int) = x0_4 then ((shuttleref33_Apart.f kj4 x0_4 a1).bind fun t151 => (shuttlelaw33_ShuffleOrders.j2 kj4 x0_4 t140 t148 (t144 != t151))) else (shuttlelaw33_ShuffleOrders.j2 kj4 x0_4 t140 t148 true)) else (shuttlelaw33_ShuffleOrders.j2 kj4 x0_4 t140 t148 true)) else (shuttlelaw33_ShuffleOrders.j2 kj4 x0_4 t140 t148 true))) else (if t141 = 1 then (if t145 = 1 then (if (t140.length : Int) = 0 then (some (t144 == 0)) else (some false)) else (some false)) else (some false)))) else (some false)) = some r := H
          have A9 := Aside0.mk A90
          clear A90
          by_cases c10 : t146 = true
          · subst c10
            have H1 : ((shuttleref33_Right.f x0_4 a1).bind fun t147 => (if t147 = true then ((shuttleref33_Order.f kj4 x0_4 a1).bind fun t148 => (if t141 = 0 then (if t145 = 0 then (if (t140.length : Int) = x0_4 then ((shuttleref33_Apart.f kj4 x0_4 a1).bind fun t151 => (shuttlelaw33_ShuffleOrders.j2 kj4 x0_4 t140 t148 (t144 != t151))) else (shuttlelaw33_ShuffleOrders.j2 kj4 x0_4 t140 t148 true)) else (shuttlelaw33_ShuffleOrders.j2 kj4 x0_4 t140 t148 true)) else (shuttlelaw33_ShuffleOrders.j2 kj4 x0_4 t140 t148 true))) else (if t141 = 1 then (if t145 = 1 then (if (t140.length : Int) = 0 then (some (t144 == 0)) else (some false)) else (some false)) else (some false)))) = some r := by rw [if_pos rfl] at H; exact H
            clear H
            have H := H1
            clear H1
            replace H := Option.bind_eq_some_iff.mp H
            obtain ⟨t147, A110, H⟩ := H
            replace H : (if t147 = true then ((shuttleref33_Order.f kj4 x0_4 a1).bind fun t148 => (if t141 = 0 then (if t145 = 0 then (if (t140.length : Int) = x0_4 then ((shuttleref33_Apart.f kj4 x0_4 a1).bind fun t151 => (shuttlelaw33_ShuffleOrders.j2 kj4 x0_4 t140 t148 (t144 != t151))) else (shuttlelaw33_ShuffleOrders.j2 kj4 x0_4 t140 t148 true)) else (shuttlelaw33_ShuffleOrders.j2 kj4 x0_4 t140 t148 true)) else (shuttlelaw33_ShuffleOrders.j2 kj4 x0_4 t140 t148 true))) else (if t141 = 1 then (if t145 = 1 then (if (t140.length : Int) = 0 then (some (t144 == 0)) else (some false)) else (some false)) else (some false))) = some r := H
            have A11 := Aside0.mk A110
            clear A110
            by_cases c12 : t147 = true
            · subst c12
              have H1 : ((shuttleref33_Order.f kj4 x0_4 a1).bind fun t148 => (if t141 = 0 then (if t145 = 0 then (if (t140.length : Int) = x0_4 then ((shuttleref33_Apart.f kj4 x0_4 a1).bind fun t151 => (shuttlelaw33_ShuffleOrders.j2 kj4 x0_4 t140 t148 (t144 != t151))) else (shuttlelaw33_ShuffleOrders.j2 kj4 x0_4 t140 t148 true)) else (shuttlelaw33_ShuffleOrders.j2 kj4 x0_4 t140 t148 true)) else (shuttlelaw33_ShuffleOrders.j2 kj4 x0_4 t140 t148 true))) = some r := by rw [if_pos rfl] at H; exact H
              clear H
              have H := H1
              clear H1
              replace H := Option.bind_eq_some_iff.mp H
              obtain ⟨t148, A130, H⟩ := H
              replace H : (if t141 = 0 then (if t145 = 0 then (if (t140.length : Int) = x0_4 then ((shuttleref33_Apart.f kj4 x0_4 a1).bind fun t151 => (shuttlelaw33_ShuffleOrders.j2 kj4 x0_4 t140 t148 (t144 != t151))) else (shuttlelaw33_ShuffleOrders.j2 kj4 x0_4 t140 t148 true)) else (shuttlelaw33_ShuffleOrders.j2 kj4 x0_4 t140 t148 true)) else (shuttlelaw33_ShuffleOrders.j2 kj4 x0_4 t140 t148 true)) = some r := H
              have A13 := Aside0.mk A130
              clear A130
              have HC14 := Aside0.mk H
              clear H
              go_upto_region 10 with (first | (go_at_call 11; (with_reducible refine (shuffle_Order.calls kj4 x0_4 a1 t140 t141 _ A7.out).mono ?_); rintro e w15 ⟨v142, rfl, ho0, hb⟩; have n0_ := Aside0.mk (Kd.R_lower ho0 (below_size (by repeat (first | (with_reducible first | exact HB.out | apply below_alloc | apply pw_below_drewN | apply below_drew1) | exact HB.out)))); have n1_ := Aside0.mk (below_step (by repeat (first | (with_reducible first | exact HB.out | apply below_alloc | apply pw_below_drewN | apply below_drew1) | exact HB.out)) hb); clear HB; have HO143 := n0_; have HB := n1_; clear n0_ n1_; (try clear hb); (try clear hb2); (try clear hk); (try clear hi); (try clear ho0)) | (go_at_call 13; (with_reducible refine (shuffle_Apart.calls kj4 x0_4 a1 t144 t145 _ A8.out).mono ?_); rintro e w16 ⟨rfl, hb⟩; have n0_ := Aside0.mk (Kd.R_below (by (with_reducible repeat (first | apply Kd.R_alloc | apply Kd.R_drewN | apply Kd.R_drew)); exact HO143.out) hb); have n1_ := Aside0.mk (below_step (by repeat (first | (with_reducible first | exact HB.out | apply below_alloc | apply pw_below_drewN | apply below_drew1) | exact HB.out)) hb); clear HO143; clear HB; have HO143 := n0_; have HB := n1_; clear n0_ n1_; (try clear hb); (try clear hb2); (try clear hk); (try clear hi)) | (go_at_call 12; (with_reducible refine (shuttlelaw33_shuffles.calls kj4  true _ A9.out).mono ?_); rintro e w17 ⟨rfl, hb⟩; have n0_ := Aside0.mk (Kd.R_below (by (with_reducible repeat (first | apply Kd.R_alloc | apply Kd.R_drewN | apply Kd.R_drew)); exact HO143.out) hb); have n1_ := Aside0.mk (below_step (by repeat (first | (with_reducible first | exact HB.out | apply below_alloc | apply pw_below_drewN | apply below_drew1) | exact HB.out)) hb); clear HO143; clear HB; have HO143 := n0_; have HB := n1_; clear n0_ n1_; (try clear hb); (try clear hb2); (try clear hk); (try clear hi)) | (go_at_call 14; (with_reducible refine (shuttleref33_Right.calls x0_4 a1 true _ A11.out).mono ?_); rintro e w' ⟨rfl, ⟨nd, rfl⟩⟩; (try first | exact ⟨rfl, _, World.drewN_drewN _ _ _⟩ | exact ⟨rfl, _, Eq.trans (World.drewN_drewN _ _ _) (congrArg (World.drewN _) (Nat.add_assoc _ _ _))⟩)) | (go_at_call 15; (with_reducible refine (shuttleref33_Order.calls kj4 x0_4 a1 t148 _ A13.out).mono ?_); rintro e w18 ⟨v149, rfl, ho0, hb⟩; have n0_ := Aside0.mk (Kd.R_elder' (by (with_reducible repeat (first | apply Kd.R_alloc | apply Kd.R_drewN | apply Kd.R_drew)); exact HO143.out) (Kd.R_base ho0) hb); have n1_ := Aside0.mk (Kd.R_lower (Kd.R_new' ho0 (Kd.R_lt (by (with_reducible repeat (first | apply Kd.R_alloc | apply Kd.R_drewN | apply Kd.R_drew)); exact HO143.out))) (below_size (by repeat (first | (with_reducible first | exact HB.out | apply below_alloc | apply pw_below_drewN | apply below_drew1) | exact HB.out)))); have n2_ := Aside0.mk (below_step (by repeat (first | (with_reducible first | exact HB.out | apply below_alloc | apply pw_below_drewN | apply below_drew1) | exact HB.out)) hb); clear HO143; clear HB; have HO143 := n0_; have HO150 := n1_; have HB := n2_; clear n0_ n1_ n2_; (try clear hb); (try clear hb2); (try clear hk); (try clear hi); (try clear ho0)))
              repeat (go_quiet (first | (go_at_call 11; (with_reducible refine (shuffle_Order.calls kj4 x0_4 a1 t140 t141 _ A7.out).mono ?_); rintro e w15 ⟨v142, rfl, ho0, hb⟩; have n0_ := Aside0.mk (Kd.R_lower ho0 (below_size (by repeat (first | (with_reducible first | exact HB.out | apply below_alloc | apply pw_below_drewN | apply below_drew1) | exact HB.out)))); have n1_ := Aside0.mk (below_step (by repeat (first | (with_reducible first | exact HB.out | apply below_alloc | apply pw_below_drewN | apply below_drew1) | exact HB.out)) hb); clear HB; have HO143 := n0_; have HB := n1_; clear n0_ n1_; (try clear hb); (try clear hb2); (try clear hk); (try clear hi); (try clear ho0)) | (go_at_call 13; (with_reducible refine (shuffle_Apart.calls kj4 x0_4 a1 t144 t145 _ A8.out).mono ?_); rintro e w16 ⟨rfl, hb⟩; have n0_ := Aside0.mk (Kd.R_below (by (with_reducible repeat (first | apply Kd.R_alloc | apply Kd.R_drewN | apply Kd.R_drew)); exact HO143.out) hb); have n1_ := Aside0.mk (below_step (by repeat (first | (with_reducible first | exact HB.out | apply below_alloc | apply pw_below_drewN | apply below_drew1) | exact HB.out)) hb); clear HO143; clear HB; have HO143 := n0_; have HB := n1_; clear n0_ n1_; (try clear hb); (try clear hb2); (try clear hk); (try clear hi)) | (go_at_call 12; (with_reducible refine (shuttlelaw33_shuffles.calls kj4  true _ A9.out).mono ?_); rintro e w17 ⟨rfl, hb⟩; have n0_ := Aside0.mk (Kd.R_below (by (with_reducible repeat (first | apply Kd.R_alloc | apply Kd.R_drewN | apply Kd.R_drew)); exact HO143.out) hb); have n1_ := Aside0.mk (below_step (by repeat (first | (with_reducible first | exact HB.out | apply below_alloc | apply pw_below_drewN | apply below_drew1) | exact HB.out)) hb); clear HO143; clear HB; have HO143 := n0_; have HB := n1_; clear n0_ n1_; (try clear hb); (try clear hb2); (try clear hk); (try clear hi)) | (go_at_call 14; (with_reducible refine (shuttleref33_Right.calls x0_4 a1 true _ A11.out).mono ?_); rintro e w' ⟨rfl, ⟨nd, rfl⟩⟩; (try first | exact ⟨rfl, _, World.drewN_drewN _ _ _⟩ | exact ⟨rfl, _, Eq.trans (World.drewN_drewN _ _ _) (congrArg (World.drewN _) (Nat.add_assoc _ _ _))⟩)) | (go_at_call 15; (with_reducible refine (shuttleref33_Order.calls kj4 x0_4 a1 t148 _ A13.out).mono ?_); rintro e w18 ⟨v149, rfl, ho0, hb⟩; have n0_ := Aside0.mk (Kd.R_elder' (by (with_reducible repeat (first | apply Kd.R_alloc | apply Kd.R_drewN | apply Kd.R_drew)); exact HO143.out) (Kd.R_base ho0) hb); have n1_ := Aside0.mk (Kd.R_lower (Kd.R_new' ho0 (Kd.R_lt (by (with_reducible repeat (first | apply Kd.R_alloc | apply Kd.R_drewN | apply Kd.R_drew)); exact HO143.out))) (below_size (by repeat (first | (with_reducible first | exact HB.out | apply below_alloc | apply pw_below_drewN | apply below_drew1) | exact HB.out)))); have n2_ := Aside0.mk (below_step (by repeat (first | (with_reducible first | exact HB.out | apply below_alloc | apply pw_below_drewN | apply below_drew1) | exact HB.out)) hb); clear HO143; clear HB; have HO143 := n0_; have HO150 := n1_; have HB := n2_; clear n0_ n1_ n2_; (try clear hb); (try clear hb2); (try clear hk); (try clear hi); (try clear ho0))); go_upto_region 10 with (first | (go_at_call 11; (with_reducible refine (shuffle_Order.calls kj4 x0_4 a1 t140 t141 _ A7.out).mono ?_); rintro e w15 ⟨v142, rfl, ho0, hb⟩; have n0_ := Aside0.mk (Kd.R_lower ho0 (below_size (by repeat (first | (with_reducible first | exact HB.out | apply below_alloc | apply pw_below_drewN | apply below_drew1) | exact HB.out)))); have n1_ := Aside0.mk (below_step (by repeat (first | (with_reducible first | exact HB.out | apply below_alloc | apply pw_below_drewN | apply below_drew1) | exact HB.out)) hb); clear HB; have HO143 := n0_; have HB := n1_; clear n0_ n1_; (try clear hb); (try clear hb2); (try clear hk); (try clear hi); (try clear ho0)) | (go_at_call 13; (with_reducible refine (shuffle_Apart.calls kj4 x0_4 a1 t144 t145 _ A8.out).mono ?_); rintro e w16 ⟨rfl, hb⟩; have n0_ := Aside0.mk (Kd.R_below (by (with_reducible repeat (first | apply Kd.R_alloc | apply Kd.R_drewN | apply Kd.R_drew)); exact HO143.out) hb); have n1_ := Aside0.mk (below_step (by repeat (first | (with_reducible first | exact HB.out | apply below_alloc | apply pw_below_drewN | apply below_drew1) | exact HB.out)) hb); clear HO143; clear HB; have HO143 := n0_; have HB := n1_; clear n0_ n1_; (try clear hb); (try clear hb2); (try clear hk); (try clear hi)) | (go_at_call 12; (with_reducible refine (shuttlelaw33_shuffles.calls kj4  true _ A9.out).mono ?_); rintro e w17 ⟨rfl, hb⟩; have n0_ := Aside0.mk (Kd.R_below (by (with_reducible repeat (first | apply Kd.R_alloc | apply Kd.R_drewN | apply Kd.R_drew)); exact HO143.out) hb); have n1_ := Aside0.mk (below_step (by repeat (first | (with_reducible first | exact HB.out | apply below_alloc | apply pw_below_drewN | apply below_drew1) | exact HB.out)) hb); clear HO143; clear HB; have HO143 := n0_; have HB := n1_; clear n0_ n1_; (try clear hb); (try clear hb2); (try clear hk); (try clear hi)) | (go_at_call 14; (with_reducible refine (shuttleref33_Right.calls x0_4 a1 true _ A11.out).mono ?_); rintro e w' ⟨rfl, ⟨nd, rfl⟩⟩; (try first | exact ⟨rfl, _, World.drewN_drewN _ _ _⟩ | exact ⟨rfl, _, Eq.trans (World.drewN_drewN _ _ _) (congrArg (World.drewN _) (Nat.add_assoc _ _ _))⟩)) | (go_at_call 15; (with_reducible refine (shuttleref33_Order.calls kj4 x0_4 a1 t148 _ A13.out).mono ?_); rintro e w18 ⟨v149, rfl, ho0, hb⟩; have n0_ := Aside0.mk (Kd.R_elder' (by (with_reducible repeat (first | apply Kd.R_alloc | apply Kd.R_drewN | apply Kd.R_drew)); exact HO143.out) (Kd.R_base ho0) hb); have n1_ := Aside0.mk (Kd.R_lower (Kd.R_new' ho0 (Kd.R_lt (by (with_reducible repeat (first | apply Kd.R_alloc | apply Kd.R_drewN | apply Kd.R_drew)); exact HO143.out))) (below_size (by repeat (first | (with_reducible first | exact HB.out | apply below_alloc | apply pw_below_drewN | apply below_drew1) | exact HB.out)))); have n2_ := Aside0.mk (below_step (by repeat (first | (with_reducible first | exact HB.out | apply below_alloc | apply pw_below_drewN | apply below_drew1) | exact HB.out)) hb); clear HO143; clear HB; have HO143 := n0_; have HO150 := n1_; have HB := n2_; clear n0_ n1_ n2_; (try clear hb); (try clear hb2); (try clear hk); (try clear hi); (try clear ho0))))
              (try simp only [Act.put, List.setIfInBounds_toArray, List.set_cons_zero, List.set_cons_succ])
              go_cut [74] (fun v74 wc => ∃ (kq : Nat) (x74_13 : Bool), v74 = .bool x74_13 ∧ Aside0 (shuttlelaw33_ShuffleOrders.j2 kq x0_4 t140 t148 x74_13 = some r) ∧ Aside0 (kq ≤ kj4) ∧ Aside0 (Kd.R (Kd.int .i64) 3 wc w.heap.size (fun k_ => some k_ ≠ (v149 : Value).ownBlock) v142 t140) ∧ Aside0 (Kd.R (Kd.int .i64) 3 wc w.heap.size (fun k_ => some k_ ≠ (v142 : Value).ownBlock) v149 t148) ∧ Aside0 (Below w.heap.size w wc))
              case first =>
                have H := HC14.out
                clear HC14
                by_cases c19 : t141 = 0
                · rw [if_pos c19] at H
                  have c19b0 : (t141 == 0) = true := beq_iff_eq.mpr c19
                  have c19b1 : (t141 != 0) = false := bne_eq_false_iff_eq.mpr c19
                  clear c19
                  (first | rw [c19b0] | (simp only [i64_w, i32_w]; rw [c19b0]) | skip)
                  by_cases c20 : t145 = 0
                  · rw [if_pos c20] at H
                    have c20b0 : (t145 == 0) = true := beq_iff_eq.mpr c20
                    have c20b1 : (t145 != 0) = false := bne_eq_false_iff_eq.mpr c20
                    clear c20
                    by_cases c21 : (t140.length : Int) = x0_4
                    · rw [if_pos c21] at H
                      have c21b0 : ((t140.length : Int) == x0_4) = true := beq_iff_eq.mpr c21
                      have c21b1 : ((t140.length : Int) != x0_4) = false := bne_eq_false_iff_eq.mpr c21
                      clear c21
                      replace H := Option.bind_eq_some_iff.mp H
                      obtain ⟨t151, A220, H⟩ := H
                      replace H : (shuttlelaw33_ShuffleOrders.j2 kj4 x0_4 t140 t148 (t144 != t151)) = some r := H
                      have A22 := Aside0.mk A220
                      clear A220
                      have H' := Aside0.mk H
                      clear H
                      obtain ⟨Ao23, co23, eo23⟩ := Kd.R_slice HO143.out
                      subst eo23
                      go_wp2_with (first | (go_at_call 16; (with_reducible refine (shuttleref33_Apart.calls kj4 x0_4 a1 t151 _ A22.out).mono ?_); rintro e w24 ⟨rfl, hb⟩; have n0_ := Aside0.mk (Kd.R_below (by (with_reducible repeat (first | apply Kd.R_alloc | apply Kd.R_drewN | apply Kd.R_drew)); exact HO143.out) hb); have n1_ := Aside0.mk (Kd.R_below (by (with_reducible repeat (first | apply Kd.R_alloc | apply Kd.R_drewN | apply Kd.R_drew)); exact HO150.out) hb); have n2_ := Aside0.mk (below_step (by repeat (first | (with_reducible first | exact HB.out | apply below_alloc | apply pw_below_drewN | apply below_drew1) | exact HB.out)) hb); clear HO143; clear HO150; clear HB; have HO143 := n0_; have HO150 := n1_; have HB := n2_; clear n0_ n1_ n2_; (try clear hb); (try clear hb2); (try clear hk); (try clear hi)))
                      repeat (go_quiet (first | (go_at_call 16; (with_reducible refine (shuttleref33_Apart.calls kj4 x0_4 a1 t151 _ A22.out).mono ?_); rintro e w24 ⟨rfl, hb⟩; have n0_ := Aside0.mk (Kd.R_below (by (with_reducible repeat (first | apply Kd.R_alloc | apply Kd.R_drewN | apply Kd.R_drew)); exact HO143.out) hb); have n1_ := Aside0.mk (Kd.R_below (by (with_reducible repeat (first | apply Kd.R_alloc | apply Kd.R_drewN | apply Kd.R_drew)); exact HO150.out) hb); have n2_ := Aside0.mk (below_step (by repeat (first | (with_reducible first | exact HB.out | apply below_alloc | apply pw_below_drewN | apply below_drew1) | exact HB.out)) hb); clear HO143; clear HO150; clear HB; have HO143 := n0_; have HO150 := n1_; have HB := n2_; clear n0_ n1_ n2_; (try clear hb); (try clear hb2); (try clear hk); (try clear hi))); try go_wp2_with (first | (go_at_call 16; (with_reducible refine (shuttleref33_Apart.calls kj4 x0_4 a1 t151 _ A22.out).mono ?_); rintro e w24 ⟨rfl, hb⟩; have n0_ := Aside0.mk (Kd.R_below (by (with_reducible repeat (first | apply Kd.R_alloc | apply Kd.R_drewN | apply Kd.R_drew)); exact HO143.out) hb); have n1_ := Aside0.mk (Kd.R_below (by (with_reducible repeat (first | apply Kd.R_alloc | apply Kd.R_drewN | apply Kd.R_drew)); exact HO150.out) hb); have n2_ := Aside0.mk (below_step (by repeat (first | (with_reducible first | exact HB.out | apply below_alloc | apply pw_below_drewN | apply below_drew1) | exact HB.out)) hb); clear HO143; clear HO150; clear HB; have HO143 := n0_; have HO150 := n1_; have HB := n2_; clear n0_ n1_ n2_; (try clear hb); (try clear hb2); (try clear hk); (try clear hi))))
                      go_meet
                      case rel => exact ⟨_, ((t144 != t151)), (by first | rfl | (simp; done) | (simp [*]; done)), H', ⟨by have := HJ2.out; have := HJ4.out; first | omega | exact Nat.le_refl _⟩, ⟨by (with_reducible repeat (first | apply Kd.R_alloc | apply Kd.R_drewN | apply Kd.R_drew)); exact Kd.R_mono HO143.out (fun _ hk => hk.2)⟩, ⟨by (with_reducible repeat (first | apply Kd.R_alloc | apply Kd.R_drewN | apply Kd.R_drew)); exact Kd.R_mono HO150.out (fun _ hk => hk.2)⟩, ⟨by repeat (first | (with_reducible first | exact HB.out | apply below_alloc | apply pw_below_drewN | apply below_drew1) | exact HB.out)⟩⟩
                    · rw [if_neg c21] at H
                      have c21b0 : ((t140.length : Int) == x0_4) = false := beq_eq_false_iff_ne.mpr c21
                      have c21b1 : ((t140.length : Int) != x0_4) = true := bne_iff_ne.mpr c21
                      have H' := Aside0.mk H
                      clear H
                      obtain ⟨Ao25, co25, eo25⟩ := Kd.R_slice HO143.out
                      subst eo25
                      go_wp2
                      repeat (go_quiet (fail); try go_wp2)
                      go_meet
                      case rel => exact ⟨_, (true), (by first | rfl | (simp; done) | (simp [*]; done)), H', ⟨by have := HJ2.out; have := HJ4.out; first | omega | exact Nat.le_refl _⟩, ⟨by (with_reducible repeat (first | apply Kd.R_alloc | apply Kd.R_drewN | apply Kd.R_drew)); exact Kd.R_mono HO143.out (fun _ hk => hk.2)⟩, ⟨by (with_reducible repeat (first | apply Kd.R_alloc | apply Kd.R_drewN | apply Kd.R_drew)); exact Kd.R_mono HO150.out (fun _ hk => hk.2)⟩, ⟨by repeat (first | (with_reducible first | exact HB.out | apply below_alloc | apply pw_below_drewN | apply below_drew1) | exact HB.out)⟩⟩
                  · rw [if_neg c20] at H
                    have c20b0 : (t145 == 0) = false := beq_eq_false_iff_ne.mpr c20
                    have c20b1 : (t145 != 0) = true := bne_iff_ne.mpr c20
                    have H' := Aside0.mk H
                    clear H
                    go_wp2
                    repeat (go_quiet (fail); try go_wp2)
                    go_meet
                    case rel => exact ⟨_, (true), (by first | rfl | (simp; done) | (simp [*]; done)), H', ⟨by have := HJ2.out; have := HJ4.out; first | omega | exact Nat.le_refl _⟩, ⟨by (with_reducible repeat (first | apply Kd.R_alloc | apply Kd.R_drewN | apply Kd.R_drew)); exact Kd.R_mono HO143.out (fun _ hk => hk.2)⟩, ⟨by (with_reducible repeat (first | apply Kd.R_alloc | apply Kd.R_drewN | apply Kd.R_drew)); exact Kd.R_mono HO150.out (fun _ hk => hk.2)⟩, ⟨by repeat (first | (with_reducible first | exact HB.out | apply below_alloc | apply pw_below_drewN | apply below_drew1) | exact HB.out)⟩⟩
                · rw [if_neg c19] at H
                  have c19b0 : (t141 == 0) = false := beq_eq_false_iff_ne.mpr c19
                  have c19b1 : (t141 != 0) = true := bne_iff_ne.mpr c19
                  (first | rw [c19b0] | (simp only [i64_w, i32_w]; rw [c19b0]) | skip)
                  have H' := Aside0.mk H
                  clear H
                  go_wp2
                  repeat (go_quiet (fail); try go_wp2)
                  go_meet
                  case rel => exact ⟨_, (true), (by first | rfl | (simp; done) | (simp [*]; done)), H', ⟨by have := HJ2.out; have := HJ4.out; first | omega | exact Nat.le_refl _⟩, ⟨by (with_reducible repeat (first | apply Kd.R_alloc | apply Kd.R_drewN | apply Kd.R_drew)); exact Kd.R_mono HO143.out (fun _ hk => hk.2)⟩, ⟨by (with_reducible repeat (first | apply Kd.R_alloc | apply Kd.R_drewN | apply Kd.R_drew)); exact Kd.R_mono HO150.out (fun _ hk => hk.2)⟩, ⟨by repeat (first | (with_reducible first | exact HB.out | apply below_alloc | apply pw_below_drewN | apply below_drew1) | exact HB.out)⟩⟩
              case rest =>
                clear HC14
                try clear c1
                try clear c2
                try clear p2
                try clear c4
                try clear c4b0
                try clear c5
                try clear c6
                try clear c10
                try clear c12
                try clear c19
                try clear c19b0
                try clear c19b1
                try clear c20
                try clear c20b0
                try clear c20b1
                try clear c21
                try clear c21b0
                try clear c21b1
                try clear p2
                obtain ⟨kq, x74_13, rfl, HA, HJ13, HO_5, HO_9, HB⟩ := hcut
                cases kq with
                | zero => exact absurd HA.out (by simp [shuttlelaw33_ShuffleOrders.j2])
                | succ kj13 =>
                  have H := HA.out
                  clear HA
                  simp only [shuttlelaw33_ShuffleOrders.j2] at H
                  by_cases c26 : x74_13 = true
                  · subst c26
                    have H1 : (some false) = some r := by rw [if_pos rfl] at H; exact H
                    clear H
                    have H := H1
                    clear H1
                    obtain rfl := Option.some.inj H
                    go_wp2
                    repeat (go_quiet (fail); try go_wp2)
                    go_ret
                    exact ⟨by first | rfl | (simp [errW_none, errW_some] <;> rfl) | (simp [*, errW_none, errW_some] <;> rfl), by repeat (first | (with_reducible first | exact HB.out | apply below_alloc | apply pw_below_drewN | apply below_drew1) | exact HB.out)⟩
                  · replace c26 := Bool.eq_false_iff.mpr c26
                    subst c26
                    have H1 : (if 0 ≤ x0_4 then (if (x0_4 : Int).toNat ≤ 281474976710656 then (shuttlelaw33_ShuffleOrders.l0 kj13 x0_4 t140 t148 (List.replicate (x0_4 : Int).toNat false) 0) else (none)) else (none)) = some r := by rw [if_neg (show ¬ (false = true) by decide)] at H; exact H
                    clear H
                    have H := H1
                    clear H1
                    by_cases c27 : 0 ≤ x0_4
                    · rw [if_pos c27] at H
                      have c27b0 := eq_true c27
                      have c27b1 : decide (0 ≤ x0_4) = true := decide_eq_true c27
                      clear c27
                      by_cases c28 : (x0_4 : Int).toNat ≤ 281474976710656
                      · rw [if_pos c28] at H
                        have c28b0 := eq_true c28
                        have c28b1 : decide ((x0_4 : Int).toNat ≤ 281474976710656) = true := decide_eq_true c28
                        clear c28
                        obtain ⟨y152, hy152⟩ : ∃ y_ : List Bool, y_ = (List.replicate (x0_4 : Int).toNat false) := ⟨_, rfl⟩
                        replace H : (shuttlelaw33_ShuffleOrders.l0 kj13 x0_4 t140 t148 y152 0) = some r := by first | (rw [hy152]; with_reducible exact H) | (have H2_ := (Option.bind_some _ _).symm.trans H; rw [hy152]; with_reducible exact H2_) | (have H2_ := (Option.bind_some _ _).symm.trans H; with_reducible exact H2_) | with_reducible exact H | (rw [hy152]; exact H) | exact H
                        have Ny152 := Aside0.mk hy152
                        clear hy152
                        have H' := Aside0.mk H
                        clear H
                        go_wp2_with (first | ((with_reducible refine gate_dst (N := 76) rfl ?_); (try (refine gate_guard (by rfl) ?_; dsimp only)); refine Kd.R_make Kd.bool _ 4 rfl (N := 76) rfl 39 _ _ rfl x0_4 rfl rfl Try.underlying39 (.bool false) 1 info4 rfl (by decide) (by omega) false (ok := fun _ => True) (okp := fun _ => True) rfl (fun _ hk => hk) trivial (of_decide_eq_true (by first | (with_reducible assumption) | assumption)) (Nat.le_trans (Nat.mul_le_mul_right _ (of_decide_eq_true (by first | (with_reducible assumption) | assumption) : x0_4.toNat ≤ 281474976710656)) (by omega)) (Below.refl _ _) (Nat.le_refl _) ?_; intro v153 w29 ho30 hb hg_ hnew_; clear hg_ hnew_; (first | rw [← Ny152.out] at ho30 | (simp only [Int.reduceToNat] at ho30; rw [← Ny152.out] at ho30)); have n0_ := Aside0.mk (Kd.R_below (by (with_reducible repeat (first | apply Kd.R_alloc | apply Kd.R_drewN | apply Kd.R_drew)); exact HO_5.out) hb); have n1_ := Aside0.mk (Kd.R_below (by (with_reducible repeat (first | apply Kd.R_alloc | apply Kd.R_drewN | apply Kd.R_drew)); exact HO_9.out) hb); have n2_ := Aside0.mk (Kd.R_lower ho30 (below_size (by repeat (first | (with_reducible first | exact HB.out | apply below_alloc | apply pw_below_drewN | apply below_drew1) | exact HB.out)))); have n3_ := Aside0.mk (below_step (by repeat (first | (with_reducible first | exact HB.out | apply below_alloc | apply pw_below_drewN | apply below_drew1) | exact HB.out)) hb); clear HO_5; clear HO_9; clear HB; have HO_5 := n0_; have HO_9 := n1_; have HO154 := n2_; have HB := n3_; clear n0_ n1_ n2_ n3_; clear hb ho30))
                        repeat (go_quiet (first | ((with_reducible refine gate_dst (N := 76) rfl ?_); (try (refine gate_guard (by rfl) ?_; dsimp only)); refine Kd.R_make Kd.bool _ 4 rfl (N := 76) rfl 39 _ _ rfl x0_4 rfl rfl Try.underlying39 (.bool false) 1 info4 rfl (by decide) (by omega) false (ok := fun _ => True) (okp := fun _ => True) rfl (fun _ hk => hk) trivial (of_decide_eq_true (by first | (with_reducible assumption) | assumption)) (Nat.le_trans (Nat.mul_le_mul_right _ (of_decide_eq_true (by first | (with_reducible assumption) | assumption) : x0_4.toNat ≤ 281474976710656)) (by omega)) (Below.refl _ _) (Nat.le_refl _) ?_; intro v153 w29 ho30 hb hg_ hnew_; clear hg_ hnew_; (first | rw [← Ny152.out] at ho30 | (simp only [Int.reduceToNat] at ho30; rw [← Ny152.out] at ho30)); have n0_ := Aside0.mk (Kd.R_below (by (with_reducible repeat (first | apply Kd.R_alloc | apply Kd.R_drewN | apply Kd.R_drew)); exact HO_5.out) hb); have n1_ := Aside0.mk (Kd.R_below (by (with_reducible repeat (first | apply Kd.R_alloc | apply Kd.R_drewN | apply Kd.R_drew)); exact HO_9.out) hb); have n2_ := Aside0.mk (Kd.R_lower ho30 (below_size (by repeat (first | (with_reducible first | exact HB.out | apply below_alloc | apply pw_below_drewN | apply below_drew1) | exact HB.out)))); have n3_ := Aside0.mk (below_step (by repeat (first | (with_reducible first | exact HB.out | apply below_alloc | apply pw_below_drewN | apply below_drew1) | exact HB.out)) hb); clear HO_5; clear HO_9; clear HB; have HO_5 := n0_; have HO_9 := n1_; have HO154 := n2_; have HB := n3_; clear n0_ n1_ n2_ n3_; clear hb ho30)); try go_wp2_with (first | ((with_reducible refine gate_dst (N := 76) rfl ?_); (try (refine gate_guard (by rfl) ?_; dsimp only)); refine Kd.R_make Kd.bool _ 4 rfl (N := 76) rfl 39 _ _ rfl x0_4 rfl rfl Try.underlying39 (.bool false) 1 info4 rfl (by decide) (by omega) false (ok := fun _ => True) (okp := fun _ => True) rfl (fun _ hk => hk) trivial (of_decide_eq_true (by first | (with_reducible assumption) | assumption)) (Nat.le_trans (Nat.mul_le_mul_right _ (of_decide_eq_true (by first | (with_reducible assumption) | assumption) : x0_4.toNat ≤ 281474976710656)) (by omega)) (Below.refl _ _) (Nat.le_refl _) ?_; intro v153 w29 ho30 hb hg_ hnew_; clear hg_ hnew_; (first | rw [← Ny152.out] at ho30 | (simp only [Int.reduceToNat] at ho30; rw [← Ny152.out] at ho30)); have n0_ := Aside0.mk (Kd.R_below (by (with_reducible repeat (first | apply Kd.R_alloc | apply Kd.R_drewN | apply Kd.R_drew)); exact HO_5.out) hb); have n1_ := Aside0.mk (Kd.R_below (by (with_reducible repeat (first | apply Kd.R_alloc | apply Kd.R_drewN | apply Kd.R_drew)); exact HO_9.out) hb); have n2_ := Aside0.mk (Kd.R_lower ho30 (below_size (by repeat (first | (with_reducible first | exact HB.out | apply below_alloc | apply pw_below_drewN | apply below_drew1) | exact HB.out)))); have n3_ := Aside0.mk (below_step (by repeat (first | (with_reducible first | exact HB.out | apply below_alloc | apply pw_below_drewN | apply below_drew1) | exact HB.out)) hb); clear HO_5; clear HO_9; clear HB; have HO_5 := n0_; have HO_9 := n1_; have HO154 := n2_; have HB := n3_; clear n0_ n1_ n2_ n3_; clear hb ho30)))
                        go_loopg [11] kj13 (fun kq v11 w' => ∃ (x10_4 : List Bool) (x11_4 : Int), v11 = .int .i64 x11_4 ∧ Aside0 (shuttlelaw33_ShuffleOrders.l0 kq x0_4 t140 t148 x10_4 x11_4 = some r) ∧ Aside0 (kq ≤ kj13) ∧ Aside0 (Kd.R (Kd.int .i64) 3 w' w.heap.size (fun k_ => some k_ ≠ (v149 : Value).ownBlock) v142 t140) ∧ Aside0 (Kd.R (Kd.int .i64) 3 w' w.heap.size (fun k_ => some k_ ≠ (v142 : Value).ownBlock) v149 t148) ∧ Aside0 (Kd.R Kd.bool 4 w' w.heap.size (fun _ => True) v153 x10_4) ∧ Aside0 (Below w.heap.size w w'))
                        case atStart => exact ⟨(y152), (0), (by first | rfl | (simp; done) | (simp [*]; done)), H', ⟨Nat.le_refl _⟩, ⟨by (with_reducible repeat (first | apply Kd.R_alloc | apply Kd.R_drewN | apply Kd.R_drew)); exact HO_5.out⟩, ⟨by (with_reducible repeat (first | apply Kd.R_alloc | apply Kd.R_drewN | apply Kd.R_drew)); exact HO_9.out⟩, ⟨by (with_reducible repeat (first | apply Kd.R_alloc | apply Kd.R_drewN | apply Kd.R_drew)); exact HO154.out⟩, ⟨by repeat (first | (with_reducible first | exact HB.out | apply below_alloc | apply pw_below_drewN | apply below_drew1) | exact HB.out)⟩⟩
                        case round =>
                          clear H'
                          try clear c1
                          try clear c2
                          try clear p2
                          try clear c4
                          try clear c4b0
                          try clear c5
                          try clear c6
                          try clear c10
                          try clear c12
                          try clear c19
                          try clear c19b0
                          try clear c19b1
                          try clear c20
                          try clear c20b0
                          try clear c20b1
                          try clear c21
                          try clear c21b0
                          try clear c21b1
                          try clear c26
                          try clear c27
                          try clear c27b0
                          try clear c27b1
                          try clear c28
                          try clear c28b0
                          try clear c28b1
                          try clear p2
                          obtain ⟨x10_4, x11_4, rfl, HA, HK4, HO_5, HO_9, HO_10, HB⟩ := hrel
                          cases gk with
                          | zero => exact absurd HA.out (by simp [shuttlelaw33_ShuffleOrders.l0])
                          | succ k4 =>
                            have H := HA.out
                            clear HA
                            simp only [shuttlelaw33_ShuffleOrders.l0] at H
                            by_cases c31 : x11_4 < x0_4
                            · rw [if_pos c31] at H
                              have c31b0 : decide (x11_4 < x0_4) = true := decide_eq_true c31
                              clear c31
                              by_cases c32 : 0 ≤ x11_4
                              · rw [if_pos c32] at H
                                have c32b0 : decide (0 ≤ x11_4) = true := decide_eq_true c32
                                clear c32
                                by_cases c33 : x11_4 < (t140.length : Int)
                                · rw [if_pos c33] at H
                                  have c33b0 : decide (x11_4 < (t140.length : Int)) = true := decide_eq_true c33
                                  clear c33
                                  by_cases c34 : x11_4 < (t148.length : Int)
                                  · rw [if_pos c34] at H
                                    have c34b0 : decide (x11_4 < (t148.length : Int)) = true := decide_eq_true c34
                                    clear c34
                                    by_cases c35 : (rd t140 x11_4) = (rd t148 x11_4)
                                    · rw [if_pos c35] at H
                                      have c35b0 : ((rd t140 x11_4) == (rd t148 x11_4)) = true := beq_iff_eq.mpr c35
                                      have c35b1 : ((rd t140 x11_4) != (rd t148 x11_4)) = false := bne_eq_false_iff_eq.mpr c35
                                      clear c35
                                      by_cases c36 : 0 ≤ (rd t140 x11_4)
                                      · rw [if_pos c36] at H
                                        have c36b0 : decide (0 ≤ (rd t140 x11_4)) = true := decide_eq_true c36
                                        clear c36
                                        by_cases c37 : (rd t140 x11_4) < (x10_4.length : Int)
                                        · rw [if_pos c37] at H
                                          have c37b0 : decide ((rd t140 x11_4) < (x10_4.length : Int)) = true := decide_eq_true c37
                                          clear c37
                                          obtain ⟨bq38, hbq38⟩ : ∃ b_ : Bool, b_ = (rdOf false x10_4 (rd t140 x11_4)) := ⟨_, rfl⟩
                                          replace H : (if bq38 = true then (some false) else (shuttlelaw33_ShuffleOrders.l0 k4 x0_4 t140 t148 (x10_4.set ((rd t140 x11_4) : Int).toNat true) (wrap64 (x11_4 + 1)))) = some r := by rw [← hbq38] at H; exact H
                                          have Nbq38 := Aside0.mk hbq38
                                          clear hbq38
                                          by_cases c39 : bq38 = true
                                          · subst c39
                                            have H1 : (some false) = some r := by rw [if_pos rfl] at H; exact H
                                            clear H
                                            have H := H1
                                            clear H1
                                            obtain rfl := Option.some.inj H
                                            obtain ⟨Ao40, co40, eo40⟩ := Kd.R_slice HO_5.out
                                            subst eo40
                                            have p155 : 0 ≤ (x11_4 : Int) := of_decide_eq_true (by first | (with_reducible assumption) | assumption)
                                            have q155 : x11_4 < (t140.length : Int) := of_decide_eq_true (by first | (with_reducible assumption) | assumption)
                                            obtain ⟨ad155, e155, hx155_0⟩ := Kd.at_int (Kd.R_reads' HO_5.out).2.2 x11_4 p155 q155
                                            cases e155
                                            replace p155 := eq_true p155
                                            replace q155 := eq_true q155
                                            obtain ⟨Ao41, co41, eo41⟩ := Kd.R_slice HO_9.out
                                            subst eo41
                                            have p156 : 0 ≤ (x11_4 : Int) := of_decide_eq_true (by first | (with_reducible assumption) | assumption)
                                            have q156 : x11_4 < (t148.length : Int) := of_decide_eq_true (by first | (with_reducible assumption) | assumption)
                                            obtain ⟨ad156, e156, hx156_0⟩ := Kd.at_int (Kd.R_reads' HO_9.out).2.2 x11_4 p156 q156
                                            cases e156
                                            replace p156 := eq_true p156
                                            replace q156 := eq_true q156
                                            have p157 : 0 ≤ (x11_4 : Int) := of_decide_eq_true (by first | (with_reducible assumption) | assumption)
                                            have q157 : x11_4 < (t140.length : Int) := of_decide_eq_true (by first | (with_reducible assumption) | assumption)
                                            obtain ⟨ad157, e157, hx157_0⟩ := Kd.at_int (Kd.R_reads' HO_5.out).2.2 x11_4 p157 q157
                                            obtain rfl : ad155 = ad157 := (by injection e157)
                                            replace p157 := eq_true p157
                                            replace q157 := eq_true q157
                                            obtain ⟨Ao42, co42, eo42⟩ := Kd.R_slice HO_10.out
                                            subst eo42
                                            have p158 : 0 ≤ ((rd t140 x11_4) : Int) := of_decide_eq_true (by first | (with_reducible assumption) | assumption)
                                            have q158 : (rd t140 x11_4) < (x10_4.length : Int) := of_decide_eq_true (by first | (with_reducible assumption) | assumption)
                                            obtain ⟨ad158, e158, hx158_0⟩ := Kd.at_bool (Kd.R_reads' HO_10.out).2.2 (rd t140 x11_4) p158 q158
                                            (try rw [← Nbq38.out] at hx158_0)
                                            cases e158
                                            replace p158 := eq_true p158
                                            replace q158 := eq_true q158
                                            go_wp2
                                            repeat (go_quiet (fail); try go_wp2)
                                            go_ret
                                            exact ⟨by first | rfl | (simp [errW_none, errW_some] <;> rfl) | (simp [*, errW_none, errW_some] <;> rfl), by repeat (first | (with_reducible first | exact HB.out | apply below_alloc | apply pw_below_drewN | apply below_drew1) | exact HB.out)⟩
                                          · replace c39 := Bool.eq_false_iff.mpr c39
                                            subst c39
                                            have H1 : (shuttlelaw33_ShuffleOrders.l0 k4 x0_4 t140 t148 (x10_4.set ((rd t140 x11_4) : Int).toNat true) (wrap64 (x11_4 + 1))) = some r := by rw [if_neg (show ¬ (false = true) by decide)] at H; exact H
                                            clear H
                                            have H := H1
                                            clear H1
                                            obtain ⟨y160, hy160⟩ : ∃ y_ : List Bool, y_ = (x10_4.set ((rd t140 x11_4) : Int).toNat true) := ⟨_, rfl⟩
                                            replace H : (shuttlelaw33_ShuffleOrders.l0 k4 x0_4 t140 t148 y160 (wrap64 (x11_4 + 1))) = some r := by first | (rw [hy160]; with_reducible exact H) | (have H2_ := (Option.bind_some _ _).symm.trans H; rw [hy160]; with_reducible exact H2_) | (have H2_ := (Option.bind_some _ _).symm.trans H; with_reducible exact H2_) | with_reducible exact H | (rw [hy160]; exact H) | exact H
                                            have Ny160 := Aside0.mk hy160
                                            clear hy160
                                            have H' := Aside0.mk H
                                            clear H
                                            obtain ⟨Ao44, co44, eo44⟩ := Kd.R_slice HO_5.out
                                            subst eo44
                                            have p155 : 0 ≤ (x11_4 : Int) := of_decide_eq_true (by first | (with_reducible assumption) | assumption)
                                            have q155 : x11_4 < (t140.length : Int) := of_decide_eq_true (by first | (with_reducible assumption) | assumption)
                                            obtain ⟨ad155, e155, hx155_0⟩ := Kd.at_int (Kd.R_reads' HO_5.out).2.2 x11_4 p155 q155
                                            cases e155
                                            replace p155 := eq_true p155
                                            replace q155 := eq_true q155
                                            obtain ⟨Ao45, co45, eo45⟩ := Kd.R_slice HO_9.out
                                            subst eo45
                                            have p156 : 0 ≤ (x11_4 : Int) := of_decide_eq_true (by first | (with_reducible assumption) | assumption)
                                            have q156 : x11_4 < (t148.length : Int) := of_decide_eq_true (by first | (with_reducible assumption) | assumption)
                                            obtain ⟨ad156, e156, hx156_0⟩ := Kd.at_int (Kd.R_reads' HO_9.out).2.2 x11_4 p156 q156
                                            cases e156
                                            replace p156 := eq_true p156
                                            replace q156 := eq_true q156
                                            have p157 : 0 ≤ (x11_4 : Int) := of_decide_eq_true (by first | (with_reducible assumption) | assumption)
                                            have q157 : x11_4 < (t140.length : Int) := of_decide_eq_true (by first | (with_reducible assumption) | assumption)
                                            obtain ⟨ad157, e157, hx157_0⟩ := Kd.at_int (Kd.R_reads' HO_5.out).2.2 x11_4 p157 q157
                                            obtain rfl : ad155 = ad157 := (by injection e157)
                                            replace p157 := eq_true p157
                                            replace q157 := eq_true q157
                                            obtain ⟨Ao46, co46, eo46⟩ := Kd.R_slice HO_10.out
                                            subst eo46
                                            have p158 : 0 ≤ ((rd t140 x11_4) : Int) := of_decide_eq_true (by first | (with_reducible assumption) | assumption)
                                            have q158 : (rd t140 x11_4) < (x10_4.length : Int) := of_decide_eq_true (by first | (with_reducible assumption) | assumption)
                                            obtain ⟨ad158, e158, hx158_0⟩ := Kd.at_bool (Kd.R_reads' HO_10.out).2.2 (rd t140 x11_4) p158 q158
                                            (try rw [← Nbq38.out] at hx158_0)
                                            cases e158
                                            replace p158 := eq_true p158
                                            replace q158 := eq_true q158
                                            have p159 : 0 ≤ (x11_4 : Int) := of_decide_eq_true (by first | (with_reducible assumption) | assumption)
                                            have q159 : x11_4 < (t140.length : Int) := of_decide_eq_true (by first | (with_reducible assumption) | assumption)
                                            obtain ⟨ad159, e159, hx159_0⟩ := Kd.at_int (Kd.R_reads' HO_5.out).2.2 x11_4 p159 q159
                                            obtain rfl : ad155 = ad159 := (by injection e159)
                                            replace p159 := eq_true p159
                                            replace q159 := eq_true q159
                                            have p43 : 0 ≤ ((rd t140 x11_4) : Int) := of_decide_eq_true (by first | (with_reducible assumption) | assumption)
                                            have q43 : ((rd t140 x11_4) : Int) < ((x10_4.length : Int) : Int) := of_decide_eq_true (by first | (with_reducible assumption) | assumption)
                                            obtain ⟨go43, co43, eo43, gb43, gl43, cl43, HG43⟩ := Kd.R_form HO_10.out (by omega)
                                            (first | cases eo43 | (injection eo43 with ea_ en_ ec_; (first | subst ea_ | (injection ea_ with ea_; subst ea_)); subst ec_; clear en_))
                                            have GB43 := Aside0.mk gb43
                                            have GG43 := Aside0.mk HG43
                                            clear gb43 gl43 HG43
                                            (first | simp only [add_plain] at hx158_0 | skip)
                                            obtain ⟨hx43_0, hf43_0⟩ := Kd.R_celln false HO_10.out ((rd t140 x11_4) : Int) p43 q43
                                            replace p43 := eq_true p43
                                            replace q43 := eq_true q43
                                            have HP47 := Kd.R_putg HO_10.out ((rd t140 x11_4) : Int) true
                                            go_wp2_with (first | ((with_reducible refine gate_store (t := 4) (p := 105) rfl ?_); (try (rw [drewN_self wr]; generalize hq_ : World.drewN wr _ = wr; have n0_ := Aside0.mk (Kd.R_at hq_ HO_5.out); have n1_ := Aside0.mk (Kd.R_at hq_ HO_9.out); have n2_ := Aside0.mk (Kd.R_at hq_ HO_10.out); have n3_ := Aside0.mk (below_at hq_ HB.out); clear hq_ HO_5 HO_9 HO_10 HB; have HO_5 := n0_; have HO_9 := n1_; have HO_10 := n2_; have HB := n3_; clear n0_ n1_ n2_ n3_; (try (have HP47 := Kd.R_putg HO_10.out ((rd t140 x11_4) : Int) true)))); refine store_event (t := 4) (p := 105) (v := ?vo_w48) (w1 := (wr.setCell ⟨go43, ((rd t140 x11_4) : Int).toNat, none⟩ (.bool true))) ?hg ?ho ?hn ?hr ?_; (case ho => rfl); (case hg => rfl); (case hn => rfl); (case hr => first | (go_simp; done) | (go_simp; rfl)); intro w48 hw; have hg : wr.grownBy w48 (some go43) := (by rw [hw]; exact HP47.2); have hp_ : Kd.R Kd.bool 4 w48 w.heap.size (fun _ => True) (.slice (some ⟨go43, 0, none⟩) x10_4.length co46) y160 := (by rw [hw, Ny160.out]; exact HP47.1); clear HP47; have n0_ := Aside0.mk (Kd.R_over' (v := (.slice (some ⟨go43, 0, none⟩) x10_4.length co46)) (by (with_reducible repeat (first | apply Kd.R_alloc | apply Kd.R_drewN | apply Kd.R_drew)); exact HO_5.out) (Kd.R_typed HO_10.out) (by decide) hg); have n1_ := Aside0.mk (Kd.R_over' (v := (.slice (some ⟨go43, 0, none⟩) x10_4.length co46)) (by (with_reducible repeat (first | apply Kd.R_alloc | apply Kd.R_drewN | apply Kd.R_drew)); exact HO_9.out) (Kd.R_typed HO_10.out) (by decide) hg); have n2_ := Aside0.mk (hp_); have n3_ := Aside0.mk ((by rw [hw]; exact below_set (HB.out) GB43.out : Below w.heap.size w w48)); clear HO_5; clear HO_9; clear HO_10; clear HB; have HO_5 := n0_; have HO_9 := n1_; have HO_10 := n2_; have HB := n3_; clear n0_ n1_ n2_ n3_; clear hg hw hp_))
                                            repeat (go_quiet (first | ((with_reducible refine gate_store (t := 4) (p := 105) rfl ?_); (try (rw [drewN_self wr]; generalize hq_ : World.drewN wr _ = wr; have n0_ := Aside0.mk (Kd.R_at hq_ HO_5.out); have n1_ := Aside0.mk (Kd.R_at hq_ HO_9.out); have n2_ := Aside0.mk (Kd.R_at hq_ HO_10.out); have n3_ := Aside0.mk (below_at hq_ HB.out); clear hq_ HO_5 HO_9 HO_10 HB; have HO_5 := n0_; have HO_9 := n1_; have HO_10 := n2_; have HB := n3_; clear n0_ n1_ n2_ n3_; (try (have HP47 := Kd.R_putg HO_10.out ((rd t140 x11_4) : Int) true)))); refine store_event (t := 4) (p := 105) (v := ?vo_w48) (w1 := (wr.setCell ⟨go43, ((rd t140 x11_4) : Int).toNat, none⟩ (.bool true))) ?hg ?ho ?hn ?hr ?_; (case ho => rfl); (case hg => rfl); (case hn => rfl); (case hr => first | (go_simp; done) | (go_simp; rfl)); intro w48 hw; have hg : wr.grownBy w48 (some go43) := (by rw [hw]; exact HP47.2); have hp_ : Kd.R Kd.bool 4 w48 w.heap.size (fun _ => True) (.slice (some ⟨go43, 0, none⟩) x10_4.length co46) y160 := (by rw [hw, Ny160.out]; exact HP47.1); clear HP47; have n0_ := Aside0.mk (Kd.R_over' (v := (.slice (some ⟨go43, 0, none⟩) x10_4.length co46)) (by (with_reducible repeat (first | apply Kd.R_alloc | apply Kd.R_drewN | apply Kd.R_drew)); exact HO_5.out) (Kd.R_typed HO_10.out) (by decide) hg); have n1_ := Aside0.mk (Kd.R_over' (v := (.slice (some ⟨go43, 0, none⟩) x10_4.length co46)) (by (with_reducible repeat (first | apply Kd.R_alloc | apply Kd.R_drewN | apply Kd.R_drew)); exact HO_9.out) (Kd.R_typed HO_10.out) (by decide) hg); have n2_ := Aside0.mk (hp_); have n3_ := Aside0.mk ((by rw [hw]; exact below_set (HB.out) GB43.out : Below w.heap.size w w48)); clear HO_5; clear HO_9; clear HO_10; clear HB; have HO_5 := n0_; have HO_9 := n1_; have HO_10 := n2_; have HB := n3_; clear n0_ n1_ n2_ n3_; clear hg hw hp_)); try go_wp2_with (first | ((with_reducible refine gate_store (t := 4) (p := 105) rfl ?_); (try (rw [drewN_self wr]; generalize hq_ : World.drewN wr _ = wr; have n0_ := Aside0.mk (Kd.R_at hq_ HO_5.out); have n1_ := Aside0.mk (Kd.R_at hq_ HO_9.out); have n2_ := Aside0.mk (Kd.R_at hq_ HO_10.out); have n3_ := Aside0.mk (below_at hq_ HB.out); clear hq_ HO_5 HO_9 HO_10 HB; have HO_5 := n0_; have HO_9 := n1_; have HO_10 := n2_; have HB := n3_; clear n0_ n1_ n2_ n3_; (try (have HP47 := Kd.R_putg HO_10.out ((rd t140 x11_4) : Int) true)))); refine store_event (t := 4) (p := 105) (v := ?vo_w48) (w1 := (wr.setCell ⟨go43, ((rd t140 x11_4) : Int).toNat, none⟩ (.bool true))) ?hg ?ho ?hn ?hr ?_; (case ho => rfl); (case hg => rfl); (case hn => rfl); (case hr => first | (go_simp; done) | (go_simp; rfl)); intro w48 hw; have hg : wr.grownBy w48 (some go43) := (by rw [hw]; exact HP47.2); have hp_ : Kd.R Kd.bool 4 w48 w.heap.size (fun _ => True) (.slice (some ⟨go43, 0, none⟩) x10_4.length co46) y160 := (by rw [hw, Ny160.out]; exact HP47.1); clear HP47; have n0_ := Aside0.mk (Kd.R_over' (v := (.slice (some ⟨go43, 0, none⟩) x10_4.length co46)) (by (with_reducible repeat (first | apply Kd.R_alloc | apply Kd.R_drewN | apply Kd.R_drew)); exact HO_5.out) (Kd.R_typed HO_10.out) (by decide) hg); have n1_ := Aside0.mk (Kd.R_over' (v := (.slice (some ⟨go43, 0, none⟩) x10_4.length co46)) (by (with_reducible repeat (first | apply Kd.R_alloc | apply Kd.R_drewN | apply Kd.R_drew)); exact HO_9.out) (Kd.R_typed HO_10.out) (by decide) hg); have n2_ := Aside0.mk (hp_); have n3_ := Aside0.mk ((by rw [hw]; exact below_set (HB.out) GB43.out : Below w.heap.size w w48)); clear HO_5; clear HO_9; clear HO_10; clear HB; have HO_5 := n0_; have HO_9 := n1_; have HO_10 := n2_; have HB := n3_; clear n0_ n1_ n2_ n3_; clear hg hw hp_)))
                                            go_roundg k4
                                            case measure => have := HJ2.out; have := HJ4.out; have := HJ13.out; have := HK4.out; omega
                                            case rel =>
                                              clear HP47
                                              generalize hq_ : World.drewN wr _ = wq
                                              have h5 := Kd.R_at hq_ HO_5.out
                                              have h9 := Kd.R_at hq_ HO_9.out
                                              have h10 := Kd.R_at hq_ HO_10.out
                                              have hB := below_at hq_ HB.out
                                              clear hq_
                                              have HP47 := Kd.R_putg h10 ((rd t140 x11_4) : Int) true
                                              have s5 := (Kd.R_over' (v := (.slice (some ⟨go43, 0, none⟩) x10_4.length co46)) h5 (Kd.R_typed h10) (by decide) HP47.2)
                                              have s9 := (Kd.R_over' (v := (.slice (some ⟨go43, 0, none⟩) x10_4.length co46)) h9 (Kd.R_typed h10) (by decide) HP47.2)
                                              have s10 : Kd.R Kd.bool 4 _ w.heap.size (fun _ => True) (.slice (some ⟨go43, 0, none⟩) x10_4.length co46) y160 := (by rw [Ny160.out]; exact HP47.1)
                                              exact ⟨(y160), (wrap64 (x11_4 + 1)), (by first | rfl | (simp; done) | (simp [*]; done)), H', ⟨by have := HJ2.out; have := HJ4.out; have := HJ13.out; have := HK4.out; omega⟩, ⟨s5⟩, ⟨s9⟩, ⟨s10⟩, ⟨below_set hB GB43.out⟩⟩
                                        · rw [if_neg c37] at H
                                          exact absurd H (by simp)
                                      · rw [if_neg c36] at H
                                        exact absurd H (by simp)
                                    · rw [if_neg c35] at H
                                      have c35b0 : ((rd t140 x11_4) == (rd t148 x11_4)) = false := beq_eq_false_iff_ne.mpr c35
                                      have c35b1 : ((rd t140 x11_4) != (rd t148 x11_4)) = true := bne_iff_ne.mpr c35
                                      obtain rfl := Option.some.inj H
                                      obtain ⟨Ao49, co49, eo49⟩ := Kd.R_slice HO_5.out
                                      subst eo49
                                      have p155 : 0 ≤ (x11_4 : Int) := of_decide_eq_true (by first | (with_reducible assumption) | assumption)
                                      have q155 : x11_4 < (t140.length : Int) := of_decide_eq_true (by first | (with_reducible assumption) | assumption)
                                      obtain ⟨ad155, e155, hx155_0⟩ := Kd.at_int (Kd.R_reads' HO_5.out).2.2 x11_4 p155 q155
                                      cases e155
                                      replace p155 := eq_true p155
                                      replace q155 := eq_true q155
                                      obtain ⟨Ao50, co50, eo50⟩ := Kd.R_slice HO_9.out
                                      subst eo50
                                      have p156 : 0 ≤ (x11_4 : Int) := of_decide_eq_true (by first | (with_reducible assumption) | assumption)
                                      have q156 : x11_4 < (t148.length : Int) := of_decide_eq_true (by first | (with_reducible assumption) | assumption)
                                      obtain ⟨ad156, e156, hx156_0⟩ := Kd.at_int (Kd.R_reads' HO_9.out).2.2 x11_4 p156 q156
                                      cases e156
                                      replace p156 := eq_true p156
                                      replace q156 := eq_true q156
                                      go_wp2
                                      repeat (go_quiet (fail); try go_wp2)
                                      go_ret
                                      exact ⟨by first | rfl | (simp [errW_none, errW_some] <;> rfl) | (simp [*, errW_none, errW_some] <;> rfl), by repeat (first | (with_reducible first | exact HB.out | apply below_alloc | apply pw_below_drewN | apply below_drew1) | exact HB.out)⟩
                                  · rw [if_neg c34] at H
                                    exact absurd H (by simp)
                                · rw [if_neg c33] at H
                                  exact absurd H (by simp)
                              · rw [if_neg c32] at H
                                exact absurd H (by simp)
                            · rw [if_neg c31] at H
                              have c31b0 : decide (x11_4 < x0_4) = false := decide_eq_false c31
                              clear c31
                              obtain rfl := Option.some.inj H
                              go_wp2
                              repeat (go_quiet (fail); try go_wp2)
                              go_ret
                              exact ⟨by first | rfl | (simp [errW_none, errW_some] <;> rfl) | (simp [*, errW_none, errW_some] <;> rfl), by repeat (first | (with_reducible first | exact HB.out | apply below_alloc | apply pw_below_drewN | apply below_drew1) | exact HB.out)⟩
                      · rw [if_neg c28] at H
                        exact absurd H (by simp)
                    · rw [if_neg c27] at H
                      exact absurd H (by simp)
            · replace c12 := Bool.eq_false_iff.mpr c12
              subst c12
              have H1 : (if t141 = 1 then (if t145 = 1 then (if (t140.length : Int) = 0 then (some (t144 == 0)) else (some false)) else (some false)) else (some false)) = some r := by rw [if_neg (show ¬ (false = true) by decide)] at H; exact H
              clear H
              have H := H1
              clear H1
              by_cases c51 : t141 = 1
              · rw [if_pos c51] at H
                have c51b0 : (t141 == 1) = true := beq_iff_eq.mpr c51
                have c51b1 : (t141 != 1) = false := bne_eq_false_iff_eq.mpr c51
                clear c51
                by_cases c52 : t145 = 1
                · rw [if_pos c52] at H
                  have c52b0 : (t145 == 1) = true := beq_iff_eq.mpr c52
                  have c52b1 : (t145 != 1) = false := bne_eq_false_iff_eq.mpr c52
                  clear c52
                  by_cases c53 : (t140.length : Int) = 0
                  · rw [if_pos c53] at H
                    have c53b0 : ((t140.length : Int) == 0) = true := beq_iff_eq.mpr c53
                    have c53b1 : ((t140.length : Int) != 0) = false := bne_eq_false_iff_eq.mpr c53
                    clear c53
                    obtain rfl := Option.some.inj H
                    go_wp2_with (first | (go_at_call 11; (with_reducible refine (shuffle_Order.calls kj4 x0_4 a1 t140 t141 _ A7.out).mono ?_); rintro e w54 ⟨v142, rfl, ho0, hb⟩; have n0_ := Aside0.mk (Kd.R_lower ho0 (below_size (by repeat (first | (with_reducible first | exact HB.out | apply below_alloc | apply pw_below_drewN | apply below_drew1) | exact HB.out)))); have n1_ := Aside0.mk (below_step (by repeat (first | (with_reducible first | exact HB.out | apply below_alloc | apply pw_below_drewN | apply below_drew1) | exact HB.out)) hb); clear HB; have HO143 := n0_; have HB := n1_; clear n0_ n1_; (try clear hb); (try clear hb2); (try clear hk); (try clear hi); (try clear ho0)) | (go_at_call 13; (with_reducible refine (shuffle_Apart.calls kj4 x0_4 a1 t144 t145 _ A8.out).mono ?_); rintro e w55 ⟨rfl, hb⟩; have n0_ := Aside0.mk (Kd.R_below (by (with_reducible repeat (first | apply Kd.R_alloc | apply Kd.R_drewN | apply Kd.R_drew)); exact HO143.out) hb); have n1_ := Aside0.mk (below_step (by repeat (first | (with_reducible first | exact HB.out | apply below_alloc | apply pw_below_drewN | apply below_drew1) | exact HB.out)) hb); clear HO143; clear HB; have HO143 := n0_; have HB := n1_; clear n0_ n1_; (try clear hb); (try clear hb2); (try clear hk); (try clear hi)) | (go_at_call 12; (with_reducible refine (shuttlelaw33_shuffles.calls kj4  true _ A9.out).mono ?_); rintro e w56 ⟨rfl, hb⟩; have n0_ := Aside0.mk (Kd.R_below (by (with_reducible repeat (first | apply Kd.R_alloc | apply Kd.R_drewN | apply Kd.R_drew)); exact HO143.out) hb); have n1_ := Aside0.mk (below_step (by repeat (first | (with_reducible first | exact HB.out | apply below_alloc | apply pw_below_drewN | apply below_drew1) | exact HB.out)) hb); clear HO143; clear HB; have HO143 := n0_; have HB := n1_; clear n0_ n1_; (try clear hb); (try clear hb2); (try clear hk); (try clear hi)) | (go_at_call 14; (with_reducible refine (shuttleref33_Right.calls x0_4 a1 false _ A11.out).mono ?_); rintro e w' ⟨rfl, ⟨nd, rfl⟩⟩; (try first | exact ⟨rfl, _, World.drewN_drewN _ _ _⟩ | exact ⟨rfl, _, Eq.trans (World.drewN_drewN _ _ _) (congrArg (World.drewN _) (Nat.add_assoc _ _ _))⟩); obtain ⟨Ao57, co57, eo57⟩ := Kd.R_slice HO143.out; subst eo57))
                    repeat (go_quiet (first | (go_at_call 11; (with_reducible refine (shuffle_Order.calls kj4 x0_4 a1 t140 t141 _ A7.out).mono ?_); rintro e w54 ⟨v142, rfl, ho0, hb⟩; have n0_ := Aside0.mk (Kd.R_lower ho0 (below_size (by repeat (first | (with_reducible first | exact HB.out | apply below_alloc | apply pw_below_drewN | apply below_drew1) | exact HB.out)))); have n1_ := Aside0.mk (below_step (by repeat (first | (with_reducible first | exact HB.out | apply below_alloc | apply pw_below_drewN | apply below_drew1) | exact HB.out)) hb); clear HB; have HO143 := n0_; have HB := n1_; clear n0_ n1_; (try clear hb); (try clear hb2); (try clear hk); (try clear hi); (try clear ho0)) | (go_at_call 13; (with_reducible refine (shuffle_Apart.calls kj4 x0_4 a1 t144 t145 _ A8.out).mono ?_); rintro e w55 ⟨rfl, hb⟩; have n0_ := Aside0.mk (Kd.R_below (by (with_reducible repeat (first | apply Kd.R_alloc | apply Kd.R_drewN | apply Kd.R_drew)); exact HO143.out) hb); have n1_ := Aside0.mk (below_step (by repeat (first | (with_reducible first | exact HB.out | apply below_alloc | apply pw_below_drewN | apply below_drew1) | exact HB.out)) hb); clear HO143; clear HB; have HO143 := n0_; have HB := n1_; clear n0_ n1_; (try clear hb); (try clear hb2); (try clear hk); (try clear hi)) | (go_at_call 12; (with_reducible refine (shuttlelaw33_shuffles.calls kj4  true _ A9.out).mono ?_); rintro e w56 ⟨rfl, hb⟩; have n0_ := Aside0.mk (Kd.R_below (by (with_reducible repeat (first | apply Kd.R_alloc | apply Kd.R_drewN | apply Kd.R_drew)); exact HO143.out) hb); have n1_ := Aside0.mk (below_step (by repeat (first | (with_reducible first | exact HB.out | apply below_alloc | apply pw_below_drewN | apply below_drew1) | exact HB.out)) hb); clear HO143; clear HB; have HO143 := n0_; have HB := n1_; clear n0_ n1_; (try clear hb); (try clear hb2); (try clear hk); (try clear hi)) | (go_at_call 14; (with_reducible refine (shuttleref33_Right.calls x0_4 a1 false _ A11.out).mono ?_); rintro e w' ⟨rfl, ⟨nd, rfl⟩⟩; (try first | exact ⟨rfl, _, World.drewN_drewN _ _ _⟩ | exact ⟨rfl, _, Eq.trans (World.drewN_drewN _ _ _) (congrArg (World.drewN _) (Nat.add_assoc _ _ _))⟩); obtain ⟨Ao57, co57, eo57⟩ := Kd.R_slice HO143.out; subst eo57)); try go_wp2_with (first | (go_at_call 11; (with_reducible refine (shuffle_Order.calls kj4 x0_4 a1 t140 t141 _ A7.out).mono ?_); rintro e w54 ⟨v142, rfl, ho0, hb⟩; have n0_ := Aside0.mk (Kd.R_lower ho0 (below_size (by repeat (first | (with_reducible first | exact HB.out | apply below_alloc | apply pw_below_drewN | apply below_drew1) | exact HB.out)))); have n1_ := Aside0.mk (below_step (by repeat (first | (with_reducible first | exact HB.out | apply below_alloc | apply pw_below_drewN | apply below_drew1) | exact HB.out)) hb); clear HB; have HO143 := n0_; have HB := n1_; clear n0_ n1_; (try clear hb); (try clear hb2); (try clear hk); (try clear hi); (try clear ho0)) | (go_at_call 13; (with_reducible refine (shuffle_Apart.calls kj4 x0_4 a1 t144 t145 _ A8.out).mono ?_); rintro e w55 ⟨rfl, hb⟩; have n0_ := Aside0.mk (Kd.R_below (by (with_reducible repeat (first | apply Kd.R_alloc | apply Kd.R_drewN | apply Kd.R_drew)); exact HO143.out) hb); have n1_ := Aside0.mk (below_step (by repeat (first | (with_reducible first | exact HB.out | apply below_alloc | apply pw_below_drewN | apply below_drew1) | exact HB.out)) hb); clear HO143; clear HB; have HO143 := n0_; have HB := n1_; clear n0_ n1_; (try clear hb); (try clear hb2); (try clear hk); (try clear hi)) | (go_at_call 12; (with_reducible refine (shuttlelaw33_shuffles.calls kj4  true _ A9.out).mono ?_); rintro e w56 ⟨rfl, hb⟩; have n0_ := Aside0.mk (Kd.R_below (by (with_reducible repeat (first | apply Kd.R_alloc | apply Kd.R_drewN | apply Kd.R_drew)); exact HO143.out) hb); have n1_ := Aside0.mk (below_step (by repeat (first | (with_reducible first | exact HB.out | apply below_alloc | apply pw_below_drewN | apply below_drew1) | exact HB.out)) hb); clear HO143; clear HB; have HO143 := n0_; have HB := n1_; clear n0_ n1_; (try clear hb); (try clear hb2); (try clear hk); (try clear hi)) | (go_at_call 14; (with_reducible refine (shuttleref33_Right.calls x0_4 a1 false _ A11.out).mono ?_); rintro e w' ⟨rfl, ⟨nd, rfl⟩⟩; (try first | exact ⟨rfl, _, World.drewN_drewN _ _ _⟩ | exact ⟨rfl, _, Eq.trans (World.drewN_drewN _ _ _) (congrArg (World.drewN _) (Nat.add_assoc _ _ _))⟩); obtain ⟨Ao57, co57, eo57⟩ := Kd.R_slice HO143.out; subst eo57)))
                    go_ret
                    exact ⟨by first | rfl | (simp [errW_none, errW_some] <;> rfl) | (simp [*, errW_none, errW_some] <;> rfl), by repeat (first | (with_reducible first | exact HB.out | apply below_alloc | apply pw_below_drewN | apply below_drew1) | exact HB.out)⟩
                  · rw [if_neg c53] at H
                    have c53b0 : ((t140.length : Int) == 0) = false := beq_eq_false_iff_ne.mpr c53
                    have c53b1 : ((t140.length : Int) != 0) = true := bne_iff_ne.mpr c53
                    have c53b2 : ¬ (t140 = []) := fun h_ => c53 (by rw [h_]; rfl)
                    obtain rfl := Option.some.inj H
                    go_wp2_with (first | (go_at_call 11; (with_reducible refine (shuffle_Order.calls kj4 x0_4 a1 t140 t141 _ A7.out).mono ?_); rintro e w58 ⟨v142, rfl, ho0, hb⟩; have n0_ := Aside0.mk (Kd.R_lower ho0 (below_size (by repeat (first | (with_reducible first | exact HB.out | apply below_alloc | apply pw_below_drewN | apply below_drew1) | exact HB.out)))); have n1_ := Aside0.mk (below_step (by repeat (first | (with_reducible first | exact HB.out | apply below_alloc | apply pw_below_drewN | apply below_drew1) | exact HB.out)) hb); clear HB; have HO143 := n0_; have HB := n1_; clear n0_ n1_; (try clear hb); (try clear hb2); (try clear hk); (try clear hi); (try clear ho0)) | (go_at_call 13; (with_reducible refine (shuffle_Apart.calls kj4 x0_4 a1 t144 t145 _ A8.out).mono ?_); rintro e w59 ⟨rfl, hb⟩; have n0_ := Aside0.mk (Kd.R_below (by (with_reducible repeat (first | apply Kd.R_alloc | apply Kd.R_drewN | apply Kd.R_drew)); exact HO143.out) hb); have n1_ := Aside0.mk (below_step (by repeat (first | (with_reducible first | exact HB.out | apply below_alloc | apply pw_below_drewN | apply below_drew1) | exact HB.out)) hb); clear HO143; clear HB; have HO143 := n0_; have HB := n1_; clear n0_ n1_; (try clear hb); (try clear hb2); (try clear hk); (try clear hi)) | (go_at_call 12; (with_reducible refine (shuttlelaw33_shuffles.calls kj4  true _ A9.out).mono ?_); rintro e w60 ⟨rfl, hb⟩; have n0_ := Aside0.mk (Kd.R_below (by (with_reducible repeat (first | apply Kd.R_alloc | apply Kd.R_drewN | apply Kd.R_drew)); exact HO143.out) hb); have n1_ := Aside0.mk (below_step (by repeat (first | (with_reducible first | exact HB.out | apply below_alloc | apply pw_below_drewN | apply below_drew1) | exact HB.out)) hb); clear HO143; clear HB; have HO143 := n0_; have HB := n1_; clear n0_ n1_; (try clear hb); (try clear hb2); (try clear hk); (try clear hi)) | (go_at_call 14; (with_reducible refine (shuttleref33_Right.calls x0_4 a1 false _ A11.out).mono ?_); rintro e w' ⟨rfl, ⟨nd, rfl⟩⟩; (try first | exact ⟨rfl, _, World.drewN_drewN _ _ _⟩ | exact ⟨rfl, _, Eq.trans (World.drewN_drewN _ _ _) (congrArg (World.drewN _) (Nat.add_assoc _ _ _))⟩); obtain ⟨Ao61, co61, eo61⟩ := Kd.R_slice HO143.out; subst eo61))
                    repeat (go_quiet (first | (go_at_call 11; (with_reducible refine (shuffle_Order.calls kj4 x0_4 a1 t140 t141 _ A7.out).mono ?_); rintro e w58 ⟨v142, rfl, ho0, hb⟩; have n0_ := Aside0.mk (Kd.R_lower ho0 (below_size (by repeat (first | (with_reducible first | exact HB.out | apply below_alloc | apply pw_below_drewN | apply below_drew1) | exact HB.out)))); have n1_ := Aside0.mk (below_step (by repeat (first | (with_reducible first | exact HB.out | apply below_alloc | apply pw_below_drewN | apply below_drew1) | exact HB.out)) hb); clear HB; have HO143 := n0_; have HB := n1_; clear n0_ n1_; (try clear hb); (try clear hb2); (try clear hk); (try clear hi); (try clear ho0)) | (go_at_call 13; (with_reducible refine (shuffle_Apart.calls kj4 x0_4 a1 t144 t145 _ A8.out).mono ?_); rintro e w59 ⟨rfl, hb⟩; have n0_ := Aside0.mk (Kd.R_below (by (with_reducible repeat (first | apply Kd.R_alloc | apply Kd.R_drewN | apply Kd.R_drew)); exact HO143.out) hb); have n1_ := Aside0.mk (below_step (by repeat (first | (with_reducible first | exact HB.out | apply below_alloc | apply pw_below_drewN | apply below_drew1) | exact HB.out)) hb); clear HO143; clear HB; have HO143 := n0_; have HB := n1_; clear n0_ n1_; (try clear hb); (try clear hb2); (try clear hk); (try clear hi)) | (go_at_call 12; (with_reducible refine (shuttlelaw33_shuffles.calls kj4  true _ A9.out).mono ?_); rintro e w60 ⟨rfl, hb⟩; have n0_ := Aside0.mk (Kd.R_below (by (with_reducible repeat (first | apply Kd.R_alloc | apply Kd.R_drewN | apply Kd.R_drew)); exact HO143.out) hb); have n1_ := Aside0.mk (below_step (by repeat (first | (with_reducible first | exact HB.out | apply below_alloc | apply pw_below_drewN | apply below_drew1) | exact HB.out)) hb); clear HO143; clear HB; have HO143 := n0_; have HB := n1_; clear n0_ n1_; (try clear hb); (try clear hb2); (try clear hk); (try clear hi)) | (go_at_call 14; (with_reducible refine (shuttleref33_Right.calls x0_4 a1 false _ A11.out).mono ?_); rintro e w' ⟨rfl, ⟨nd, rfl⟩⟩; (try first | exact ⟨rfl, _, World.drewN_drewN _ _ _⟩ | exact ⟨rfl, _, Eq.trans (World.drewN_drewN _ _ _) (congrArg (World.drewN _) (Nat.add_assoc _ _ _))⟩); obtain ⟨Ao61, co61, eo61⟩ := Kd.R_slice HO143.out; subst eo61)); try go_wp2_with (first | (go_at_call 11; (with_reducible refine (shuffle_Order.calls kj4 x0_4 a1 t140 t141 _ A7.out).mono ?_); rintro e w58 ⟨v142, rfl, ho0, hb⟩; have n0_ := Aside0.mk (Kd.R_lower ho0 (below_size (by repeat (first | (with_reducible first | exact HB.out | apply below_alloc | apply pw_below_drewN | apply below_drew1) | exact HB.out)))); have n1_ := Aside0.mk (below_step (by repeat (first | (with_reducible first | exact HB.out | apply below_alloc | apply pw_below_drewN | apply below_drew1) | exact HB.out)) hb); clear HB; have HO143 := n0_; have HB := n1_; clear n0_ n1_; (try clear hb); (try clear hb2); (try clear hk); (try clear hi); (try clear ho0)) | (go_at_call 13; (with_reducible refine (shuffle_Apart.calls kj4 x0_4 a1 t144 t145 _ A8.out).mono ?_); rintro e w59 ⟨rfl, hb⟩; have n0_ := Aside0.mk (Kd.R_below (by (with_reducible repeat (first | apply Kd.R_alloc | apply Kd.R_drewN | apply Kd.R_drew)); exact HO143.out) hb); have n1_ := Aside0.mk (below_step (by repeat (first | (with_reducible first | exact HB.out | apply below_alloc | apply pw_below_drewN | apply below_drew1) | exact HB.out)) hb); clear HO143; clear HB; have HO143 := n0_; have HB := n1_; clear n0_ n1_; (try clear hb); (try clear hb2); (try clear hk); (try clear hi)) | (go_at_call 12; (with_reducible refine (shuttlelaw33_shuffles.calls kj4  true _ A9.out).mono ?_); rintro e w60 ⟨rfl, hb⟩; have n0_ := Aside0.mk (Kd.R_below (by (with_reducible repeat (first | apply Kd.R_alloc | apply Kd.R_drewN | apply Kd.R_drew)); exact HO143.out) hb); have n1_ := Aside0.mk (below_step (by repeat (first | (with_reducible first | exact HB.out | apply below_alloc | apply pw_below_drewN | apply below_drew1) | exact HB.out)) hb); clear HO143; clear HB; have HO143 := n0_; have HB := n1_; clear n0_ n1_; (try clear hb); (try clear hb2); (try clear hk); (try clear hi)) | (go_at_call 14; (with_reducible refine (shuttleref33_Right.calls x0_4 a1 false _ A11.out).mono ?_); rintro e w' ⟨rfl, ⟨nd, rfl⟩⟩; (try first | exact ⟨rfl, _, World.drewN_drewN _ _ _⟩ | exact ⟨rfl, _, Eq.trans (World.drewN_drewN _ _ _) (congrArg (World.drewN _) (Nat.add_assoc _ _ _))⟩); obtain ⟨Ao61, co61, eo61⟩ := Kd.R_slice HO143.out; subst eo61)))
                    go_ret
                    exact ⟨by first | rfl | (simp [errW_none, errW_some] <;> rfl) | (simp [*, errW_none, errW_some] <;> rfl), by repeat (first | (with_reducible first | exact HB.out | apply below_alloc | apply pw_below_drewN | apply below_drew1) | exact HB.out)⟩
                · rw [if_neg c52] at H
                  have c52b0 : (t145 == 1) = false := beq_eq_false_iff_ne.mpr c52
                  have c52b1 : (t145 != 1) = true := bne_iff_ne.mpr c52
                  obtain rfl := Option.some.inj H
                  go_wp2_with (first | (go_at_call 11; (with_reducible refine (shuffle_Order.calls kj4 x0_4 a1 t140 t141 _ A7.out).mono ?_); rintro e w62 ⟨v142, rfl, ho0, hb⟩; have n0_ := Aside0.mk (Kd.R_lower ho0 (below_size (by repeat (first | (with_reducible first | exact HB.out | apply below_alloc | apply pw_below_drewN | apply below_drew1) | exact HB.out)))); have n1_ := Aside0.mk (below_step (by repeat (first | (with_reducible first | exact HB.out | apply below_alloc | apply pw_below_drewN | apply below_drew1) | exact HB.out)) hb); clear HB; have HO143 := n0_; have HB := n1_; clear n0_ n1_; (try clear hb); (try clear hb2); (try clear hk); (try clear hi); (try clear ho0)) | (go_at_call 13; (with_reducible refine (shuffle_Apart.calls kj4 x0_4 a1 t144 t145 _ A8.out).mono ?_); rintro e w63 ⟨rfl, hb⟩; have n0_ := Aside0.mk (Kd.R_below (by (with_reducible repeat (first | apply Kd.R_alloc | apply Kd.R_drewN | apply Kd.R_drew)); exact HO143.out) hb); have n1_ := Aside0.mk (below_step (by repeat (first | (with_reducible first | exact HB.out | apply below_alloc | apply pw_below_drewN | apply below_drew1) | exact HB.out)) hb); clear HO143; clear HB; have HO143 := n0_; have HB := n1_; clear n0_ n1_; (try clear hb); (try clear hb2); (try clear hk); (try clear hi)) | (go_at_call 12; (with_reducible refine (shuttlelaw33_shuffles.calls kj4  true _ A9.out).mono ?_); rintro e w64 ⟨rfl, hb⟩; have n0_ := Aside0.mk (Kd.R_below (by (with_reducible repeat (first | apply Kd.R_alloc | apply Kd.R_drewN | apply Kd.R_drew)); exact HO143.out) hb); have n1_ := Aside0.mk (below_step (by repeat (first | (with_reducible first | exact HB.out | apply below_alloc | apply pw_below_drewN | apply below_drew1) | exact HB.out)) hb); clear HO143; clear HB; have HO143 := n0_; have HB := n1_; clear n0_ n1_; (try clear hb); (try clear hb2); (try clear hk); (try clear hi)) | (go_at_call 14; (with_reducible refine (shuttleref33_Right.calls x0_4 a1 false _ A11.out).mono ?_); rintro e w' ⟨rfl, ⟨nd, rfl⟩⟩; (try first | exact ⟨rfl, _, World.drewN_drewN _ _ _⟩ | exact ⟨rfl, _, Eq.trans (World.drewN_drewN _ _ _) (congrArg (World.drewN _) (Nat.add_assoc _ _ _))⟩)))
                  repeat (go_quiet (first | (go_at_call 11; (with_reducible refine (shuffle_Order.calls kj4 x0_4 a1 t140 t141 _ A7.out).mono ?_); rintro e w62 ⟨v142, rfl, ho0, hb⟩; have n0_ := Aside0.mk (Kd.R_lower ho0 (below_size (by repeat (first | (with_reducible first | exact HB.out | apply below_alloc | apply pw_below_drewN | apply below_drew1) | exact HB.out)))); have n1_ := Aside0.mk (below_step (by repeat (first | (with_reducible first | exact HB.out | apply below_alloc | apply pw_below_drewN | apply below_drew1) | exact HB.out)) hb); clear HB; have HO143 := n0_; have HB := n1_; clear n0_ n1_; (try clear hb); (try clear hb2); (try clear hk); (try clear hi); (try clear ho0)) | (go_at_call 13; (with_reducible refine (shuffle_Apart.calls kj4 x0_4 a1 t144 t145 _ A8.out).mono ?_); rintro e w63 ⟨rfl, hb⟩; have n0_ := Aside0.mk (Kd.R_below (by (with_reducible repeat (first | apply Kd.R_alloc | apply Kd.R_drewN | apply Kd.R_drew)); exact HO143.out) hb); have n1_ := Aside0.mk (below_step (by repeat (first | (with_reducible first | exact HB.out | apply below_alloc | apply pw_below_drewN | apply below_drew1) | exact HB.out)) hb); clear HO143; clear HB; have HO143 := n0_; have HB := n1_; clear n0_ n1_; (try clear hb); (try clear hb2); (try clear hk); (try clear hi)) | (go_at_call 12; (with_reducible refine (shuttlelaw33_shuffles.calls kj4  true _ A9.out).mono ?_); rintro e w64 ⟨rfl, hb⟩; have n0_ := Aside0.mk (Kd.R_below (by (with_reducible repeat (first | apply Kd.R_alloc | apply Kd.R_drewN | apply Kd.R_drew)); exact HO143.out) hb); have n1_ := Aside0.mk (below_step (by repeat (first | (with_reducible first | exact HB.out | apply below_alloc | apply pw_below_drewN | apply below_drew1) | exact HB.out)) hb); clear HO143; clear HB; have HO143 := n0_; have HB := n1_; clear n0_ n1_; (try clear hb); (try clear hb2); (try clear hk); (try clear hi)) | (go_at_call 14; (with_reducible refine (shuttleref33_Right.calls x0_4 a1 false _ A11.out).mono ?_); rintro e w' ⟨rfl, ⟨nd, rfl⟩⟩; (try first | exact ⟨rfl, _, World.drewN_drewN _ _ _⟩ | exact ⟨rfl, _, Eq.trans (World.drewN_drewN _ _ _) (congrArg (World.drewN _) (Nat.add_assoc _ _ _))⟩))); try go_wp2_with (first | (go_at_call 11; (with_reducible refine (shuffle_Order.calls kj4 x0_4 a1 t140 t141 _ A7.out).mono ?_); rintro e w62 ⟨v142, rfl, ho0, hb⟩; have n0_ := Aside0.mk (Kd.R_lower ho0 (below_size (by repeat (first | (with_reducible first | exact HB.out | apply below_alloc | apply pw_below_drewN | apply below_drew1) | exact HB.out)))); have n1_ := Aside0.mk (below_step (by repeat (first | (with_reducible first | exact HB.out | apply below_alloc | apply pw_below_drewN | apply below_drew1) | exact HB.out)) hb); clear HB; have HO143 := n0_; have HB := n1_; clear n0_ n1_; (try clear hb); (try clear hb2); (try clear hk); (try clear hi); (try clear ho0)) | (go_at_call 13; (with_reducible refine (shuffle_Apart.calls kj4 x0_4 a1 t144 t145 _ A8.out).mono ?_); rintro e w63 ⟨rfl, hb⟩; have n0_ := Aside0.mk (Kd.R_below (by (with_reducible repeat (first | apply Kd.R_alloc | apply Kd.R_drewN | apply Kd.R_drew)); exact HO143.out) hb); have n1_ := Aside0.mk (below_step (by repeat (first | (with_reducible first | exact HB.out | apply below_alloc | apply pw_below_drewN | apply below_drew1) | exact HB.out)) hb); clear HO143; clear HB; have HO143 := n0_; have HB := n1_; clear n0_ n1_; (try clear hb); (try clear hb2); (try clear hk); (try clear hi)) | (go_at_call 12; (with_reducible refine (shuttlelaw33_shuffles.calls kj4  true _ A9.out).mono ?_); rintro e w64 ⟨rfl, hb⟩; have n0_ := Aside0.mk (Kd.R_below (by (with_reducible repeat (first | apply Kd.R_alloc | apply Kd.R_drewN | apply Kd.R_drew)); exact HO143.out) hb); have n1_ := Aside0.mk (below_step (by repeat (first | (with_reducible first | exact HB.out | apply below_alloc | apply pw_below_drewN | apply below_drew1) | exact HB.out)) hb); clear HO143; clear HB; have HO143 := n0_; have HB := n1_; clear n0_ n1_; (try clear hb); (try clear hb2); (try clear hk); (try clear hi)) | (go_at_call 14; (with_reducible refine (shuttleref33_Right.calls x0_4 a1 false _ A11.out).mono ?_); rintro e w' ⟨rfl, ⟨nd, rfl⟩⟩; (try first | exact ⟨rfl, _, World.drewN_drewN _ _ _⟩ | exact ⟨rfl, _, Eq.trans (World.drewN_drewN _ _ _) (congrArg (World.drewN _) (Nat.add_assoc _ _ _))⟩))))
                  go_ret
                  exact ⟨by first | rfl | (simp [errW_none, errW_some] <;> rfl) | (simp [*, errW_none, errW_some] <;> rfl), by repeat (first | (with_reducible first | exact HB.out | apply below_alloc | apply pw_below_drewN | apply below_drew1) | exact HB.out)⟩
              · rw [if_neg c51] at H
                have c51b0 : (t141 == 1) = false := beq_eq_false_iff_ne.mpr c51
                have c51b1 : (t141 != 1) = true := bne_iff_ne.mpr c51
                obtain rfl := Option.some.inj H
                go_wp2_with (first | (go_at_call 11; (with_reducible refine (shuffle_Order.calls kj4 x0_4 a1 t140 t141 _ A7.out).mono ?_); rintro e w65 ⟨v142, rfl, ho0, hb⟩; have n0_ := Aside0.mk (Kd.R_lower ho0 (below_size (by repeat (first | (with_reducible first | exact HB.out | apply below_alloc | apply pw_below_drewN | apply below_drew1) | exact HB.out)))); have n1_ := Aside0.mk (below_step (by repeat (first | (with_reducible first | exact HB.out | apply below_alloc | apply pw_below_drewN | apply below_drew1) | exact HB.out)) hb); clear HB; have HO143 := n0_; have HB := n1_; clear n0_ n1_; (try clear hb); (try clear hb2); (try clear hk); (try clear hi); (try clear ho0)) | (go_at_call 13; (with_reducible refine (shuffle_Apart.calls kj4 x0_4 a1 t144 t145 _ A8.out).mono ?_); rintro e w66 ⟨rfl, hb⟩; have n0_ := Aside0.mk (Kd.R_below (by (with_reducible repeat (first | apply Kd.R_alloc | apply Kd.R_drewN | apply Kd.R_drew)); exact HO143.out) hb); have n1_ := Aside0.mk (below_step (by repeat (first | (with_reducible first | exact HB.out | apply below_alloc | apply pw_below_drewN | apply below_drew1) | exact HB.out)) hb); clear HO143; clear HB; have HO143 := n0_; have HB := n1_; clear n0_ n1_; (try clear hb); (try clear hb2); (try clear hk); (try clear hi)) | (go_at_call 12; (with_reducible refine (shuttlelaw33_shuffles.calls kj4  true _ A9.out).mono ?_); rintro e w67 ⟨rfl, hb⟩; have n0_ := Aside0.mk (Kd.R_below (by (with_reducible repeat (first | apply Kd.R_alloc | apply Kd.R_drewN | apply Kd.R_drew)); exact HO143.out) hb); have n1_ := Aside0.mk (below_step (by repeat (first | (with_reducible first | exact HB.out | apply below_alloc | apply pw_below_drewN | apply below_drew1) | exact HB.out)) hb); clear HO143; clear HB; have HO143 := n0_; have HB := n1_; clear n0_ n1_; (try clear hb); (try clear hb2); (try clear hk); (try clear hi)) | (go_at_call 14; (with_reducible refine (shuttleref33_Right.calls x0_4 a1 false _ A11.out).mono ?_); rintro e w' ⟨rfl, ⟨nd, rfl⟩⟩; (try first | exact ⟨rfl, _, World.drewN_drewN _ _ _⟩ | exact ⟨rfl, _, Eq.trans (World.drewN_drewN _ _ _) (congrArg (World.drewN _) (Nat.add_assoc _ _ _))⟩)))
                repeat (go_quiet (first | (go_at_call 11; (with_reducible refine (shuffle_Order.calls kj4 x0_4 a1 t140 t141 _ A7.out).mono ?_); rintro e w65 ⟨v142, rfl, ho0, hb⟩; have n0_ := Aside0.mk (Kd.R_lower ho0 (below_size (by repeat (first | (with_reducible first | exact HB.out | apply below_alloc | apply pw_below_drewN | apply below_drew1) | exact HB.out)))); have n1_ := Aside0.mk (below_step (by repeat (first | (with_reducible first | exact HB.out | apply below_alloc | apply pw_below_drewN | apply below_drew1) | exact HB.out)) hb); clear HB; have HO143 := n0_; have HB := n1_; clear n0_ n1_; (try clear hb); (try clear hb2); (try clear hk); (try clear hi); (try clear ho0)) | (go_at_call 13; (with_reducible refine (shuffle_Apart.calls kj4 x0_4 a1 t144 t145 _ A8.out).mono ?_); rintro e w66 ⟨rfl, hb⟩; have n0_ := Aside0.mk (Kd.R_below (by (with_reducible repeat (first | apply Kd.R_alloc | apply Kd.R_drewN | apply Kd.R_drew)); exact HO143.out) hb); have n1_ := Aside0.mk (below_step (by repeat (first | (with_reducible first | exact HB.out | apply below_alloc | apply pw_below_drewN | apply below_drew1) | exact HB.out)) hb); clear HO143; clear HB; have HO143 := n0_; have HB := n1_; clear n0_ n1_; (try clear hb); (try clear hb2); (try clear hk); (try clear hi)) | (go_at_call 12; (with_reducible refine (shuttlelaw33_shuffles.calls kj4  true _ A9.out).mono ?_); rintro e w67 ⟨rfl, hb⟩; have n0_ := Aside0.mk (Kd.R_below (by (with_reducible repeat (first | apply Kd.R_alloc | apply Kd.R_drewN | apply Kd.R_drew)); exact HO143.out) hb); have n1_ := Aside0.mk (below_step (by repeat (first | (with_reducible first | exact HB.out | apply below_alloc | apply pw_below_drewN | apply below_drew1) | exact HB.out)) hb); clear HO143; clear HB; have HO143 := n0_; have HB := n1_; clear n0_ n1_; (try clear hb); (try clear hb2); (try clear hk); (try clear hi)) | (go_at_call 14; (with_reducible refine (shuttleref33_Right.calls x0_4 a1 false _ A11.out).mono ?_); rintro e w' ⟨rfl, ⟨nd, rfl⟩⟩; (try first | exact ⟨rfl, _, World.drewN_drewN _ _ _⟩ | exact ⟨rfl, _, Eq.trans (World.drewN_drewN _ _ _) (congrArg (World.drewN _) (Nat.add_assoc _ _ _))⟩))); try go_wp2_with (first | (go_at_call 11; (with_reducible refine (shuffle_Order.calls kj4 x0_4 a1 t140 t141 _ A7.out).mono ?_); rintro e w65 ⟨v142, rfl, ho0, hb⟩; have n0_ := Aside0.mk (Kd.R_lower ho0 (below_size (by repeat (first | (with_reducible first | exact HB.out | apply below_alloc | apply pw_below_drewN | apply below_drew1) | exact HB.out)))); have n1_ := Aside0.mk (below_step (by repeat (first | (with_reducible first | exact HB.out | apply below_alloc | apply pw_below_drewN | apply below_drew1) | exact HB.out)) hb); clear HB; have HO143 := n0_; have HB := n1_; clear n0_ n1_; (try clear hb); (try clear hb2); (try clear hk); (try clear hi); (try clear ho0)) | (go_at_call 13; (with_reducible refine (shuffle_Apart.calls kj4 x0_4 a1 t144 t145 _ A8.out).mono ?_); rintro e w66 ⟨rfl, hb⟩; have n0_ := Aside0.mk (Kd.R_below (by (with_reducible repeat (first | apply Kd.R_alloc | apply Kd.R_drewN | apply Kd.R_drew)); exact HO143.out) hb); have n1_ := Aside0.mk (below_step (by repeat (first | (with_reducible first | exact HB.out | apply below_alloc | apply pw_below_drewN | apply below_drew1) | exact HB.out)) hb); clear HO143; clear HB; have HO143 := n0_; have HB := n1_; clear n0_ n1_; (try clear hb); (try clear hb2); (try clear hk); (try clear hi)) | (go_at_call 12; (with_reducible refine (shuttlelaw33_shuffles.calls kj4  true _ A9.out).mono ?_); rintro e w67 ⟨rfl, hb⟩; have n0_ := Aside0.mk (Kd.R_below (by (with_reducible repeat (first | apply Kd.R_alloc | apply Kd.R_drewN | apply Kd.R_drew)); exact HO143.out) hb); have n1_ := Aside0.mk (below_step (by repeat (first | (with_reducible first | exact HB.out | apply below_alloc | apply pw_below_drewN | apply below_drew1) | exact HB.out)) hb); clear HO143; clear HB; have HO143 := n0_; have HB := n1_; clear n0_ n1_; (try clear hb); (try clear hb2); (try clear hk); (try clear hi)) | (go_at_call 14; (with_reducible refine (shuttleref33_Right.calls x0_4 a1 false _ A11.out).mono ?_); rintro e w' ⟨rfl, ⟨nd, rfl⟩⟩; (try first | exact ⟨rfl, _, World.drewN_drewN _ _ _⟩ | exact ⟨rfl, _, Eq.trans (World.drewN_drewN _ _ _) (congrArg (World.drewN _) (Nat.add_assoc _ _ _))⟩))))
                go_ret
                exact ⟨by first | rfl | (simp [errW_none, errW_some] <;> rfl) | (simp [*, errW_none, errW_some] <;> rfl), by repeat (first | (with_reducible first | exact HB.out | apply below_alloc | apply pw_below_drewN | apply below_drew1) | exact HB.out)⟩
          · replace c10 := Bool.eq_false_iff.mpr c10
            subst c10
            have H1 : (some false) = some r := by rw [if_neg (show ¬ (false = true) by decide)] at H; exact H
            clear H
            have H := H1
            clear H1
            obtain rfl := Option.some.inj H
            go_wp2_with (first | (go_at_call 11; (with_reducible refine (shuffle_Order.calls kj4 x0_4 a1 t140 t141 _ A7.out).mono ?_); rintro e w68 ⟨v142, rfl, ho0, hb⟩; have n0_ := Aside0.mk (Kd.R_lower ho0 (below_size (by repeat (first | (with_reducible first | exact HB.out | apply below_alloc | apply pw_below_drewN | apply below_drew1) | exact HB.out)))); have n1_ := Aside0.mk (below_step (by repeat (first | (with_reducible first | exact HB.out | apply below_alloc | apply pw_below_drewN | apply below_drew1) | exact HB.out)) hb); clear HB; have HO143 := n0_; have HB := n1_; clear n0_ n1_; (try clear hb); (try clear hb2); (try clear hk); (try clear hi); (try clear ho0)) | (go_at_call 13; (with_reducible refine (shuffle_Apart.calls kj4 x0_4 a1 t144 t145 _ A8.out).mono ?_); rintro e w69 ⟨rfl, hb⟩; have n0_ := Aside0.mk (Kd.R_below (by (with_reducible repeat (first | apply Kd.R_alloc | apply Kd.R_drewN | apply Kd.R_drew)); exact HO143.out) hb); have n1_ := Aside0.mk (below_step (by repeat (first | (with_reducible first | exact HB.out | apply below_alloc | apply pw_below_drewN | apply below_drew1) | exact HB.out)) hb); clear HO143; clear HB; have HO143 := n0_; have HB := n1_; clear n0_ n1_; (try clear hb); (try clear hb2); (try clear hk); (try clear hi)) | (go_at_call 12; (with_reducible refine (shuttlelaw33_shuffles.calls kj4  false _ A9.out).mono ?_); rintro e w70 ⟨rfl, hb⟩; have n0_ := Aside0.mk (Kd.R_below (by (with_reducible repeat (first | apply Kd.R_alloc | apply Kd.R_drewN | apply Kd.R_drew)); exact HO143.out) hb); have n1_ := Aside0.mk (below_step (by repeat (first | (with_reducible first | exact HB.out | apply below_alloc | apply pw_below_drewN | apply below_drew1) | exact HB.out)) hb); clear HO143; clear HB; have HO143 := n0_; have HB := n1_; clear n0_ n1_; (try clear hb); (try clear hb2); (try clear hk); (try clear hi)))
            repeat (go_quiet (first | (go_at_call 11; (with_reducible refine (shuffle_Order.calls kj4 x0_4 a1 t140 t141 _ A7.out).mono ?_); rintro e w68 ⟨v142, rfl, ho0, hb⟩; have n0_ := Aside0.mk (Kd.R_lower ho0 (below_size (by repeat (first | (with_reducible first | exact HB.out | apply below_alloc | apply pw_below_drewN | apply below_drew1) | exact HB.out)))); have n1_ := Aside0.mk (below_step (by repeat (first | (with_reducible first | exact HB.out | apply below_alloc | apply pw_below_drewN | apply below_drew1) | exact HB.out)) hb); clear HB; have HO143 := n0_; have HB := n1_; clear n0_ n1_; (try clear hb); (try clear hb2); (try clear hk); (try clear hi); (try clear ho0)) | (go_at_call 13; (with_reducible refine (shuffle_Apart.calls kj4 x0_4 a1 t144 t145 _ A8.out).mono ?_); rintro e w69 ⟨rfl, hb⟩; have n0_ := Aside0.mk (Kd.R_below (by (with_reducible repeat (first | apply Kd.R_alloc | apply Kd.R_drewN | apply Kd.R_drew)); exact HO143.out) hb); have n1_ := Aside0.mk (below_step (by repeat (first | (with_reducible first | exact HB.out | apply below_alloc | apply pw_below_drewN | apply below_drew1) | exact HB.out)) hb); clear HO143; clear HB; have HO143 := n0_; have HB := n1_; clear n0_ n1_; (try clear hb); (try clear hb2); (try clear hk); (try clear hi)) | (go_at_call 12; (with_reducible refine (shuttlelaw33_shuffles.calls kj4  false _ A9.out).mono ?_); rintro e w70 ⟨rfl, hb⟩; have n0_ := Aside0.mk (Kd.R_below (by (with_reducible repeat (first | apply Kd.R_alloc | apply Kd.R_drewN | apply Kd.R_drew)); exact HO143.out) hb); have n1_ := Aside0.mk (below_step (by repeat (first | (with_reducible first | exact HB.out | apply below_alloc | apply pw_below_drewN | apply below_drew1) | exact HB.out)) hb); clear HO143; clear HB; have HO143 := n0_; have HB := n1_; clear n0_ n1_; (try clear hb); (try clear hb2); (try clear hk); (try clear hi))); try go_wp2_with (first | (go_at_call 11; (with_reducible refine (shuffle_Order.calls kj4 x0_4 a1 t140 t141 _ A7.out).mono ?_); rintro e w68 ⟨v142, rfl, ho0, hb⟩; have n0_ := Aside0.mk (Kd.R_lower ho0 (below_size (by repeat (first | (with_reducible first | exact HB.out | apply below_alloc | apply pw_below_drewN | apply below_drew1) | exact HB.out)))); have n1_ := Aside0.mk (below_step (by repeat (first | (with_reducible first | exact HB.out | apply below_alloc | apply pw_below_drewN | apply below_drew1) | exact HB.out)) hb); clear HB; have HO143 := n0_; have HB := n1_; clear n0_ n1_; (try clear hb); (try clear hb2); (try clear hk); (try clear hi); (try clear ho0)) | (go_at_call 13; (with_reducible refine (shuffle_Apart.calls kj4 x0_4 a1 t144 t145 _ A8.out).mono ?_); rintro e w69 ⟨rfl, hb⟩; have n0_ := Aside0.mk (Kd.R_below (by (with_reducible repeat (first | apply Kd.R_alloc | apply Kd.R_drewN | apply Kd.R_drew)); exact HO143.out) hb); have n1_ := Aside0.mk (below_step (by repeat (first | (with_reducible first | exact HB.out | apply below_alloc | apply pw_below_drewN | apply below_drew1) | exact HB.out)) hb); clear HO143; clear HB; have HO143 := n0_; have HB := n1_; clear n0_ n1_; (try clear hb); (try clear hb2); (try clear hk); (try clear hi)) | (go_at_call 12; (with_reducible refine (shuttlelaw33_shuffles.calls kj4  false _ A9.out).mono ?_); rintro e w70 ⟨rfl, hb⟩; have n0_ := Aside0.mk (Kd.R_below (by (with_reducible repeat (first | apply Kd.R_alloc | apply Kd.R_drewN | apply Kd.R_drew)); exact HO143.out) hb); have n1_ := Aside0.mk (below_step (by repeat (first | (with_reducible first | exact HB.out | apply below_alloc | apply pw_below_drewN | apply below_drew1) | exact HB.out)) hb); clear HO143; clear HB; have HO143 := n0_; have HB := n1_; clear n0_ n1_; (try clear hb); (try clear hb2); (try clear hk); (try clear hi))))
            go_ret
            exact ⟨by first | rfl | (simp [errW_none, errW_some] <;> rfl) | (simp [*, errW_none, errW_some] <;> rfl), by repeat (first | (with_reducible first | exact HB.out | apply below_alloc | apply pw_below_drewN | apply below_drew1) | exact HB.out)⟩

/-- THE ONE PURE STATEMENT of shuttlelaw33_ShuffleOrders: yours. -/
def shuttlelaw33_ShuffleOrders.Pure : Prop := ∀ (a0 : Int) (a1 : Int), (Lit.int .i64 a0).wf = true → (Lit.int .i64 a1).wf = true → ∃ k, shuttlelaw33_ShuffleOrders.f k a0 a1 = some true
theorem shuttlelaw33_ShuffleOrders.walk (P : shuttlelaw33_ShuffleOrders.Pure) (a0 : Int) (a1 : Int) (w : World) (w0 : (Lit.int .i64 a0).wf = true) (w1 : (Lit.int .i64 a1).wf = true) :
    Calls Try.prog 5 #[.int .i64 a0, .int .i64 a1] w fun e w' => e = .returned (.bool true) ∧ Below w.heap.size w w' := by
  obtain ⟨k, h⟩ := P a0 a1 w0 w1
  refine (shuttlelaw33_ShuffleOrders.calls k a0 a1 true w h).mono ?_
  rintro e w' ⟨rfl, hd⟩
  exact ⟨rfl, hd⟩

-- function 8 (shuffle_Put): a text of our own

-- function 10 (shuffle_Take): a text of our own

end Go.Proofs.Ytdakfabdegiboaa.Q
