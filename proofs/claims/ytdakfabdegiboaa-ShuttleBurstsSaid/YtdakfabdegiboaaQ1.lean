/- Machine side of the statements of this seat: of each function what it computes, and that the code computes it (lines made by a program of ours on the pattern of the print). No condition of our own. -/
import Derived.Test.YtdakfabdegiboaaQ0
namespace Go.Proofs.Ytdakfabdegiboaa.Q
open Go.RowKit Go.Proofs.YtdakfabdegiboaaW.PrintWords Go.Proofs.YtdakfabdegiboaaW.PrintLast Go.Proofs.YtdakfabdegiboaaW.PrintMore
attribute [local go_sem] max2_int min2_int max_two min_two max_three min_three max_four min_four   -- for this text's walks alone
set_option linter.unusedVariables false
set_option linter.unusedSimpArgs false

-- function 17 (shuffle_of): a text of our own

-- NOT PRINTED: function 18 (shuffle_table_each)

-- function 11 (shuffle_Order): a text of our own

/-! ### shuttlelaw33_shuffles: function 12 -/
def shuttlelaw33_shuffles.f (k : Nat)  : Option (Bool) := (shuffle_Order.f k 5 2).bind fun bt101 => (if bt101.2 = 0 then (if (bt101.1.length : Int) = 5 then (if 0 < (bt101.1.length : Int) then (if (rd bt101.1 0) = 0 then (if 1 < (bt101.1.length : Int) then (if (rd bt101.1 1) = 3 then (if 2 < (bt101.1.length : Int) then (if (rd bt101.1 2) = 1 then (if 3 < (bt101.1.length : Int) then (if (rd bt101.1 3) = 4 then (if 4 < (bt101.1.length : Int) then (some ((rd bt101.1 4) == 2)) else (none)) else (some false)) else (none)) else (some false)) else (none)) else (some false)) else (none)) else (some false)) else (none)) else (some false)) else (some false))
theorem shuttlelaw33_shuffles.mono : ∀ k, LeO (shuttlelaw33_shuffles.f k ) (shuttlelaw33_shuffles.f (k + 1) ) := by
  intro  k
  unfold shuttlelaw33_shuffles.f
  repeat' first
      | (with_reducible exact shuffle_Order.mono _ _ _)
      | (with_reducible exact LeO.refl _)
      | (with_reducible exact LeO.none _)
      | (with_reducible refine LeO.ite ?_ ?_)
      | (with_reducible refine LeO.bind ?_ (fun _ => ?_))
      | exact shuffle_Order.mono _ _ _
      | exact LeO.none _
      | refine LeO.ite ?_ ?_
      | refine LeO.bind ?_ (fun _ => ?_)
set_option maxHeartbeats 8000000 in
set_option maxRecDepth 100000 in
theorem shuttlelaw33_shuffles.calls (k : Nat)  (r : Bool) (w : World) (h : shuttlelaw33_shuffles.f k  = some r) :
    Calls Try.prog 12 #[] w fun e w' => e = .returned (.bool r) ∧ Below w.heap.size w w' := by
  have HB := Aside0.mk (Below.refl w.heap.size w)
  have H : ((shuffle_Order.f k 5 2).bind fun bt101 => (if bt101.2 = 0 then (if (bt101.1.length : Int) = 5 then (if 0 < (bt101.1.length : Int) then (if (rd bt101.1 0) = 0 then (if 1 < (bt101.1.length : Int) then (if (rd bt101.1 1) = 3 then (if 2 < (bt101.1.length : Int) then (if (rd bt101.1 2) = 1 then (if 3 < (bt101.1.length : Int) then (if (rd bt101.1 3) = 4 then (if 4 < (bt101.1.length : Int) then (some ((rd bt101.1 4) == 2)) else (none)) else (some false)) else (none)) else (some false)) else (none)) else (some false)) else (none)) else (some false)) else (none)) else (some false)) else (some false))) = some r := h
  clear h
  replace H := Option.bind_eq_some_iff.mp H
  obtain ⟨⟨t101, t102⟩, A10, H⟩ := H
  replace H : (if t102 = 0 then (if (t101.length : Int) = 5 then (if 0 < (t101.length : Int) then (if (rd t101 0) = 0 then (if 1 < (t101.length : Int) then (if (rd t101 1) = 3 then (if 2 < (t101.length : Int) then (if (rd t101 2) = 1 then (if 3 < (t101.length : Int) then (if (rd t101 3) = 4 then (if 4 < (t101.length : Int) then (some ((rd t101 4) == 2)) else (none)) else (some false)) else (none)) else (some false)) else (none)) else (some false)) else (none)) else (some false)) else (none)) else (some false)) else (some false)) = some r := H
  have A1 := Aside0.mk A10
  clear A10
  by_cases c2 : t102 = 0
  · rw [if_pos c2] at H
    have c2b0 : (t102 == 0) = true := beq_iff_eq.mpr c2
    have c2b1 : (t102 != 0) = false := bne_eq_false_iff_eq.mpr c2
    clear c2
    by_cases c3 : (t101.length : Int) = 5
    · rw [if_pos c3] at H
      have c3b0 : ((t101.length : Int) == 5) = true := beq_iff_eq.mpr c3
      have c3b1 : ((t101.length : Int) != 5) = false := bne_eq_false_iff_eq.mpr c3
      clear c3
      by_cases c4 : 0 < (t101.length : Int)
      · rw [if_pos c4] at H
        have c4b0 : decide (0 < (t101.length : Int)) = true := decide_eq_true c4
        have c4b1 : decide (0 < t101.length) = true := decide_eq_true (by omega)
        clear c4
        by_cases c5 : (rd t101 0) = 0
        · rw [if_pos c5] at H
          have c5b0 : ((rd t101 0) == 0) = true := beq_iff_eq.mpr c5
          have c5b1 : ((rd t101 0) != 0) = false := bne_eq_false_iff_eq.mpr c5
          clear c5
          by_cases c6 : 1 < (t101.length : Int)
          · rw [if_pos c6] at H
            have c6b0 : decide (1 < (t101.length : Int)) = true := decide_eq_true c6
            have c6b1 : decide (1 < t101.length) = true := decide_eq_true (by omega)
            clear c6
            by_cases c7 : (rd t101 1) = 3
            · rw [if_pos c7] at H
              have c7b0 : ((rd t101 1) == 3) = true := beq_iff_eq.mpr c7
              have c7b1 : ((rd t101 1) != 3) = false := bne_eq_false_iff_eq.mpr c7
              clear c7
              by_cases c8 : 2 < (t101.length : Int)
              · rw [if_pos c8] at H
                have c8b0 : decide (2 < (t101.length : Int)) = true := decide_eq_true c8
                have c8b1 : decide (2 < t101.length) = true := decide_eq_true (by omega)
                clear c8
                by_cases c9 : (rd t101 2) = 1
                · rw [if_pos c9] at H
                  have c9b0 : ((rd t101 2) == 1) = true := beq_iff_eq.mpr c9
                  have c9b1 : ((rd t101 2) != 1) = false := bne_eq_false_iff_eq.mpr c9
                  clear c9
                  by_cases c10 : 3 < (t101.length : Int)
                  · rw [if_pos c10] at H
                    have c10b0 : decide (3 < (t101.length : Int)) = true := decide_eq_true c10
                    have c10b1 : decide (3 < t101.length) = true := decide_eq_true (by omega)
                    clear c10
                    by_cases c11 : (rd t101 3) = 4
                    · rw [if_pos c11] at H
                      have c11b0 : ((rd t101 3) == 4) = true := beq_iff_eq.mpr c11
                      have c11b1 : ((rd t101 3) != 4) = false := bne_eq_false_iff_eq.mpr c11
                      clear c11
                      by_cases c12 : 4 < (t101.length : Int)
                      · rw [if_pos c12] at H
                        have c12b0 : decide (4 < (t101.length : Int)) = true := decide_eq_true c12
                        have c12b1 : decide (4 < t101.length) = true := decide_eq_true (by omega)
                        clear c12
                        obtain rfl := Option.some.inj H
                        go_enter Try.func12, Try.ntmps12
                        go_wp2_with (first | ((with_reducible refine gate_callee (f := 11) rfl ?_); refine goesL_ (some 4) rfl rfl Try.func11 (by kernel_rfl) rfl #[.int .i64 5, .int .i64 2] rfl (by (try simp only [List.map_toArray, List.map_cons, List.map_nil]); first | done | rfl | (simp only [List.length_drop, List.length_take]; rfl)) ?_; (with_reducible refine (shuffle_Order.calls k 5 2 t101 t102 _ A1.out).mono ?_); rintro e w13 ⟨v103, rfl, ho0, hb⟩; refine ⟨_, rfl, ?_⟩; have n0_ := Aside0.mk (Kd.R_lower ho0 (below_size (by repeat (first | (with_reducible first | exact HB.out | apply below_alloc | apply pw_below_drewN | apply below_drew1) | exact HB.out)))); have n1_ := Aside0.mk (below_step (by repeat (first | (with_reducible first | exact HB.out | apply below_alloc | apply pw_below_drewN | apply below_drew1) | exact HB.out)) hb); clear HB; have HO104 := n0_; have HB := n1_; clear n0_ n1_; (try clear hb); (try clear hb2); (try clear hk); (try clear hi); (try clear ho0); obtain ⟨Ao14, co14, eo14⟩ := Kd.R_slice HO104.out; subst eo14; have p105 : 0 ≤ (0 : Int) := (by omega); have q105 : 0 < (t101.length : Int) := of_decide_eq_true (by first | (with_reducible assumption) | assumption); obtain ⟨ad105, e105, hx105_0⟩ := Kd.at_int (Kd.R_reads' HO104.out).2.2 0 p105 q105; cases e105; have qi105 : (0 < t101.length) = True := eq_true (by omega); (try rw [show ((0 : Int)).toNat = 0 from rfl] at hx105_0); (try rw [Addr.add_zero'] at hx105_0); replace p105 := eq_true p105; replace q105 := eq_true q105; have p106 : 0 ≤ (1 : Int) := (by omega); have q106 : 1 < (t101.length : Int) := of_decide_eq_true (by first | (with_reducible assumption) | assumption); obtain ⟨ad106, e106, hx106_0⟩ := Kd.at_int (Kd.R_reads' HO104.out).2.2 1 p106 q106; obtain rfl : ad105 = ad106 := (by injection e106); (try simp only [show (1 : Int).toNat = 1 from rfl, Nat.reduceMul, Nat.reduceEqDiff, Go.Addr.add, ↓reduceIte] at hx106_0); have qi106 : (1 < t101.length) = True := eq_true (by omega); (try rw [show ((1 : Int)).toNat = 1 from rfl] at hx106_0); replace p106 := eq_true p106; replace q106 := eq_true q106; have p107 : 0 ≤ (2 : Int) := (by omega); have q107 : 2 < (t101.length : Int) := of_decide_eq_true (by first | (with_reducible assumption) | assumption); obtain ⟨ad107, e107, hx107_0⟩ := Kd.at_int (Kd.R_reads' HO104.out).2.2 2 p107 q107; obtain rfl : ad105 = ad107 := (by injection e107); (try simp only [show (2 : Int).toNat = 2 from rfl, Nat.reduceMul, Nat.reduceEqDiff, Go.Addr.add, ↓reduceIte] at hx107_0); have qi107 : (2 < t101.length) = True := eq_true (by omega); (try rw [show ((2 : Int)).toNat = 2 from rfl] at hx107_0); replace p107 := eq_true p107; replace q107 := eq_true q107; have p108 : 0 ≤ (3 : Int) := (by omega); have q108 : 3 < (t101.length : Int) := of_decide_eq_true (by first | (with_reducible assumption) | assumption); obtain ⟨ad108, e108, hx108_0⟩ := Kd.at_int (Kd.R_reads' HO104.out).2.2 3 p108 q108; obtain rfl : ad105 = ad108 := (by injection e108); (try simp only [show (3 : Int).toNat = 3 from rfl, Nat.reduceMul, Nat.reduceEqDiff, Go.Addr.add, ↓reduceIte] at hx108_0); have qi108 : (3 < t101.length) = True := eq_true (by omega); (try rw [show ((3 : Int)).toNat = 3 from rfl] at hx108_0); replace p108 := eq_true p108; replace q108 := eq_true q108; have p109 : 0 ≤ (4 : Int) := (by omega); have q109 : 4 < (t101.length : Int) := of_decide_eq_true (by first | (with_reducible assumption) | assumption); obtain ⟨ad109, e109, hx109_0⟩ := Kd.at_int (Kd.R_reads' HO104.out).2.2 4 p109 q109; obtain rfl : ad105 = ad109 := (by injection e109); (try simp only [show (4 : Int).toNat = 4 from rfl, Nat.reduceMul, Nat.reduceEqDiff, Go.Addr.add, ↓reduceIte] at hx109_0); have qi109 : (4 < t101.length) = True := eq_true (by omega); (try rw [show ((4 : Int)).toNat = 4 from rfl] at hx109_0); replace p109 := eq_true p109; replace q109 := eq_true q109))
                        go_ret
                        exact ⟨by first | rfl | (simp [errW_none, errW_some] <;> rfl) | (simp [*, errW_none, errW_some] <;> rfl), by repeat (first | (with_reducible first | exact HB.out | apply below_alloc | apply pw_below_drewN | apply below_drew1) | exact HB.out)⟩
                      · rw [if_neg c12] at H
                        exact absurd H (by simp)
                    · rw [if_neg c11] at H
                      have c11b0 : ((rd t101 3) == 4) = false := beq_eq_false_iff_ne.mpr c11
                      have c11b1 : ((rd t101 3) != 4) = true := bne_iff_ne.mpr c11
                      obtain rfl := Option.some.inj H
                      go_enter Try.func12, Try.ntmps12
                      go_wp2_with (first | ((with_reducible refine gate_callee (f := 11) rfl ?_); refine goesL_ (some 4) rfl rfl Try.func11 (by kernel_rfl) rfl #[.int .i64 5, .int .i64 2] rfl (by (try simp only [List.map_toArray, List.map_cons, List.map_nil]); first | done | rfl | (simp only [List.length_drop, List.length_take]; rfl)) ?_; (with_reducible refine (shuffle_Order.calls k 5 2 t101 t102 _ A1.out).mono ?_); rintro e w15 ⟨v103, rfl, ho0, hb⟩; refine ⟨_, rfl, ?_⟩; have n0_ := Aside0.mk (Kd.R_lower ho0 (below_size (by repeat (first | (with_reducible first | exact HB.out | apply below_alloc | apply pw_below_drewN | apply below_drew1) | exact HB.out)))); have n1_ := Aside0.mk (below_step (by repeat (first | (with_reducible first | exact HB.out | apply below_alloc | apply pw_below_drewN | apply below_drew1) | exact HB.out)) hb); clear HB; have HO104 := n0_; have HB := n1_; clear n0_ n1_; (try clear hb); (try clear hb2); (try clear hk); (try clear hi); (try clear ho0); obtain ⟨Ao16, co16, eo16⟩ := Kd.R_slice HO104.out; subst eo16; have p105 : 0 ≤ (0 : Int) := (by omega); have q105 : 0 < (t101.length : Int) := of_decide_eq_true (by first | (with_reducible assumption) | assumption); obtain ⟨ad105, e105, hx105_0⟩ := Kd.at_int (Kd.R_reads' HO104.out).2.2 0 p105 q105; cases e105; have qi105 : (0 < t101.length) = True := eq_true (by omega); (try rw [show ((0 : Int)).toNat = 0 from rfl] at hx105_0); (try rw [Addr.add_zero'] at hx105_0); replace p105 := eq_true p105; replace q105 := eq_true q105; have p106 : 0 ≤ (1 : Int) := (by omega); have q106 : 1 < (t101.length : Int) := of_decide_eq_true (by first | (with_reducible assumption) | assumption); obtain ⟨ad106, e106, hx106_0⟩ := Kd.at_int (Kd.R_reads' HO104.out).2.2 1 p106 q106; obtain rfl : ad105 = ad106 := (by injection e106); (try simp only [show (1 : Int).toNat = 1 from rfl, Nat.reduceMul, Nat.reduceEqDiff, Go.Addr.add, ↓reduceIte] at hx106_0); have qi106 : (1 < t101.length) = True := eq_true (by omega); (try rw [show ((1 : Int)).toNat = 1 from rfl] at hx106_0); replace p106 := eq_true p106; replace q106 := eq_true q106; have p107 : 0 ≤ (2 : Int) := (by omega); have q107 : 2 < (t101.length : Int) := of_decide_eq_true (by first | (with_reducible assumption) | assumption); obtain ⟨ad107, e107, hx107_0⟩ := Kd.at_int (Kd.R_reads' HO104.out).2.2 2 p107 q107; obtain rfl : ad105 = ad107 := (by injection e107); (try simp only [show (2 : Int).toNat = 2 from rfl, Nat.reduceMul, Nat.reduceEqDiff, Go.Addr.add, ↓reduceIte] at hx107_0); have qi107 : (2 < t101.length) = True := eq_true (by omega); (try rw [show ((2 : Int)).toNat = 2 from rfl] at hx107_0); replace p107 := eq_true p107; replace q107 := eq_true q107; have p108 : 0 ≤ (3 : Int) := (by omega); have q108 : 3 < (t101.length : Int) := of_decide_eq_true (by first | (with_reducible assumption) | assumption); obtain ⟨ad108, e108, hx108_0⟩ := Kd.at_int (Kd.R_reads' HO104.out).2.2 3 p108 q108; obtain rfl : ad105 = ad108 := (by injection e108); (try simp only [show (3 : Int).toNat = 3 from rfl, Nat.reduceMul, Nat.reduceEqDiff, Go.Addr.add, ↓reduceIte] at hx108_0); have qi108 : (3 < t101.length) = True := eq_true (by omega); (try rw [show ((3 : Int)).toNat = 3 from rfl] at hx108_0); replace p108 := eq_true p108; replace q108 := eq_true q108))
                      go_ret
                      exact ⟨by first | rfl | (simp [errW_none, errW_some] <;> rfl) | (simp [*, errW_none, errW_some] <;> rfl), by repeat (first | (with_reducible first | exact HB.out | apply below_alloc | apply pw_below_drewN | apply below_drew1) | exact HB.out)⟩
                  · rw [if_neg c10] at H
                    exact absurd H (by simp)
                · rw [if_neg c9] at H
                  have c9b0 : ((rd t101 2) == 1) = false := beq_eq_false_iff_ne.mpr c9
                  have c9b1 : ((rd t101 2) != 1) = true := bne_iff_ne.mpr c9
                  obtain rfl := Option.some.inj H
                  go_enter Try.func12, Try.ntmps12
                  go_wp2_with (first | ((with_reducible refine gate_callee (f := 11) rfl ?_); refine goesL_ (some 4) rfl rfl Try.func11 (by kernel_rfl) rfl #[.int .i64 5, .int .i64 2] rfl (by (try simp only [List.map_toArray, List.map_cons, List.map_nil]); first | done | rfl | (simp only [List.length_drop, List.length_take]; rfl)) ?_; (with_reducible refine (shuffle_Order.calls k 5 2 t101 t102 _ A1.out).mono ?_); rintro e w17 ⟨v103, rfl, ho0, hb⟩; refine ⟨_, rfl, ?_⟩; have n0_ := Aside0.mk (Kd.R_lower ho0 (below_size (by repeat (first | (with_reducible first | exact HB.out | apply below_alloc | apply pw_below_drewN | apply below_drew1) | exact HB.out)))); have n1_ := Aside0.mk (below_step (by repeat (first | (with_reducible first | exact HB.out | apply below_alloc | apply pw_below_drewN | apply below_drew1) | exact HB.out)) hb); clear HB; have HO104 := n0_; have HB := n1_; clear n0_ n1_; (try clear hb); (try clear hb2); (try clear hk); (try clear hi); (try clear ho0); obtain ⟨Ao18, co18, eo18⟩ := Kd.R_slice HO104.out; subst eo18; have p105 : 0 ≤ (0 : Int) := (by omega); have q105 : 0 < (t101.length : Int) := of_decide_eq_true (by first | (with_reducible assumption) | assumption); obtain ⟨ad105, e105, hx105_0⟩ := Kd.at_int (Kd.R_reads' HO104.out).2.2 0 p105 q105; cases e105; have qi105 : (0 < t101.length) = True := eq_true (by omega); (try rw [show ((0 : Int)).toNat = 0 from rfl] at hx105_0); (try rw [Addr.add_zero'] at hx105_0); replace p105 := eq_true p105; replace q105 := eq_true q105; have p106 : 0 ≤ (1 : Int) := (by omega); have q106 : 1 < (t101.length : Int) := of_decide_eq_true (by first | (with_reducible assumption) | assumption); obtain ⟨ad106, e106, hx106_0⟩ := Kd.at_int (Kd.R_reads' HO104.out).2.2 1 p106 q106; obtain rfl : ad105 = ad106 := (by injection e106); (try simp only [show (1 : Int).toNat = 1 from rfl, Nat.reduceMul, Nat.reduceEqDiff, Go.Addr.add, ↓reduceIte] at hx106_0); have qi106 : (1 < t101.length) = True := eq_true (by omega); (try rw [show ((1 : Int)).toNat = 1 from rfl] at hx106_0); replace p106 := eq_true p106; replace q106 := eq_true q106; have p107 : 0 ≤ (2 : Int) := (by omega); have q107 : 2 < (t101.length : Int) := of_decide_eq_true (by first | (with_reducible assumption) | assumption); obtain ⟨ad107, e107, hx107_0⟩ := Kd.at_int (Kd.R_reads' HO104.out).2.2 2 p107 q107; obtain rfl : ad105 = ad107 := (by injection e107); (try simp only [show (2 : Int).toNat = 2 from rfl, Nat.reduceMul, Nat.reduceEqDiff, Go.Addr.add, ↓reduceIte] at hx107_0); have qi107 : (2 < t101.length) = True := eq_true (by omega); (try rw [show ((2 : Int)).toNat = 2 from rfl] at hx107_0); replace p107 := eq_true p107; replace q107 := eq_true q107))
                  go_ret
                  exact ⟨by first | rfl | (simp [errW_none, errW_some] <;> rfl) | (simp [*, errW_none, errW_some] <;> rfl), by repeat (first | (with_reducible first | exact HB.out | apply below_alloc | apply pw_below_drewN | apply below_drew1) | exact HB.out)⟩
              · rw [if_neg c8] at H
                exact absurd H (by simp)
            · rw [if_neg c7] at H
              have c7b0 : ((rd t101 1) == 3) = false := beq_eq_false_iff_ne.mpr c7
              have c7b1 : ((rd t101 1) != 3) = true := bne_iff_ne.mpr c7
              obtain rfl := Option.some.inj H
              go_enter Try.func12, Try.ntmps12
              go_wp2_with (first | ((with_reducible refine gate_callee (f := 11) rfl ?_); refine goesL_ (some 4) rfl rfl Try.func11 (by kernel_rfl) rfl #[.int .i64 5, .int .i64 2] rfl (by (try simp only [List.map_toArray, List.map_cons, List.map_nil]); first | done | rfl | (simp only [List.length_drop, List.length_take]; rfl)) ?_; (with_reducible refine (shuffle_Order.calls k 5 2 t101 t102 _ A1.out).mono ?_); rintro e w19 ⟨v103, rfl, ho0, hb⟩; refine ⟨_, rfl, ?_⟩; have n0_ := Aside0.mk (Kd.R_lower ho0 (below_size (by repeat (first | (with_reducible first | exact HB.out | apply below_alloc | apply pw_below_drewN | apply below_drew1) | exact HB.out)))); have n1_ := Aside0.mk (below_step (by repeat (first | (with_reducible first | exact HB.out | apply below_alloc | apply pw_below_drewN | apply below_drew1) | exact HB.out)) hb); clear HB; have HO104 := n0_; have HB := n1_; clear n0_ n1_; (try clear hb); (try clear hb2); (try clear hk); (try clear hi); (try clear ho0); obtain ⟨Ao20, co20, eo20⟩ := Kd.R_slice HO104.out; subst eo20; have p105 : 0 ≤ (0 : Int) := (by omega); have q105 : 0 < (t101.length : Int) := of_decide_eq_true (by first | (with_reducible assumption) | assumption); obtain ⟨ad105, e105, hx105_0⟩ := Kd.at_int (Kd.R_reads' HO104.out).2.2 0 p105 q105; cases e105; have qi105 : (0 < t101.length) = True := eq_true (by omega); (try rw [show ((0 : Int)).toNat = 0 from rfl] at hx105_0); (try rw [Addr.add_zero'] at hx105_0); replace p105 := eq_true p105; replace q105 := eq_true q105; have p106 : 0 ≤ (1 : Int) := (by omega); have q106 : 1 < (t101.length : Int) := of_decide_eq_true (by first | (with_reducible assumption) | assumption); obtain ⟨ad106, e106, hx106_0⟩ := Kd.at_int (Kd.R_reads' HO104.out).2.2 1 p106 q106; obtain rfl : ad105 = ad106 := (by injection e106); (try simp only [show (1 : Int).toNat = 1 from rfl, Nat.reduceMul, Nat.reduceEqDiff, Go.Addr.add, ↓reduceIte] at hx106_0); have qi106 : (1 < t101.length) = True := eq_true (by omega); (try rw [show ((1 : Int)).toNat = 1 from rfl] at hx106_0); replace p106 := eq_true p106; replace q106 := eq_true q106))
              go_ret
              exact ⟨by first | rfl | (simp [errW_none, errW_some] <;> rfl) | (simp [*, errW_none, errW_some] <;> rfl), by repeat (first | (with_reducible first | exact HB.out | apply below_alloc | apply pw_below_drewN | apply below_drew1) | exact HB.out)⟩
          · rw [if_neg c6] at H
            exact absurd H (by simp)
        · rw [if_neg c5] at H
          have c5b0 : ((rd t101 0) == 0) = false := beq_eq_false_iff_ne.mpr c5
          have c5b1 : ((rd t101 0) != 0) = true := bne_iff_ne.mpr c5
          obtain rfl := Option.some.inj H
          go_enter Try.func12, Try.ntmps12
          go_wp2_with (first | ((with_reducible refine gate_callee (f := 11) rfl ?_); refine goesL_ (some 4) rfl rfl Try.func11 (by kernel_rfl) rfl #[.int .i64 5, .int .i64 2] rfl (by (try simp only [List.map_toArray, List.map_cons, List.map_nil]); first | done | rfl | (simp only [List.length_drop, List.length_take]; rfl)) ?_; (with_reducible refine (shuffle_Order.calls k 5 2 t101 t102 _ A1.out).mono ?_); rintro e w21 ⟨v103, rfl, ho0, hb⟩; refine ⟨_, rfl, ?_⟩; have n0_ := Aside0.mk (Kd.R_lower ho0 (below_size (by repeat (first | (with_reducible first | exact HB.out | apply below_alloc | apply pw_below_drewN | apply below_drew1) | exact HB.out)))); have n1_ := Aside0.mk (below_step (by repeat (first | (with_reducible first | exact HB.out | apply below_alloc | apply pw_below_drewN | apply below_drew1) | exact HB.out)) hb); clear HB; have HO104 := n0_; have HB := n1_; clear n0_ n1_; (try clear hb); (try clear hb2); (try clear hk); (try clear hi); (try clear ho0); obtain ⟨Ao22, co22, eo22⟩ := Kd.R_slice HO104.out; subst eo22; have p105 : 0 ≤ (0 : Int) := (by omega); have q105 : 0 < (t101.length : Int) := of_decide_eq_true (by first | (with_reducible assumption) | assumption); obtain ⟨ad105, e105, hx105_0⟩ := Kd.at_int (Kd.R_reads' HO104.out).2.2 0 p105 q105; cases e105; have qi105 : (0 < t101.length) = True := eq_true (by omega); (try rw [show ((0 : Int)).toNat = 0 from rfl] at hx105_0); (try rw [Addr.add_zero'] at hx105_0); replace p105 := eq_true p105; replace q105 := eq_true q105))
          go_ret
          exact ⟨by first | rfl | (simp [errW_none, errW_some] <;> rfl) | (simp [*, errW_none, errW_some] <;> rfl), by repeat (first | (with_reducible first | exact HB.out | apply below_alloc | apply pw_below_drewN | apply below_drew1) | exact HB.out)⟩
      · rw [if_neg c4] at H
        exact absurd H (by simp)
    · rw [if_neg c3] at H
      have c3b0 : ((t101.length : Int) == 5) = false := beq_eq_false_iff_ne.mpr c3
      have c3b1 : ((t101.length : Int) != 5) = true := bne_iff_ne.mpr c3
      obtain rfl := Option.some.inj H
      go_enter Try.func12, Try.ntmps12
      go_wp2_with (first | ((with_reducible refine gate_callee (f := 11) rfl ?_); refine goesL_ (some 4) rfl rfl Try.func11 (by kernel_rfl) rfl #[.int .i64 5, .int .i64 2] rfl (by (try simp only [List.map_toArray, List.map_cons, List.map_nil]); first | done | rfl | (simp only [List.length_drop, List.length_take]; rfl)) ?_; (with_reducible refine (shuffle_Order.calls k 5 2 t101 t102 _ A1.out).mono ?_); rintro e w23 ⟨v103, rfl, ho0, hb⟩; refine ⟨_, rfl, ?_⟩; have n0_ := Aside0.mk (Kd.R_lower ho0 (below_size (by repeat (first | (with_reducible first | exact HB.out | apply below_alloc | apply pw_below_drewN | apply below_drew1) | exact HB.out)))); have n1_ := Aside0.mk (below_step (by repeat (first | (with_reducible first | exact HB.out | apply below_alloc | apply pw_below_drewN | apply below_drew1) | exact HB.out)) hb); clear HB; have HO104 := n0_; have HB := n1_; clear n0_ n1_; (try clear hb); (try clear hb2); (try clear hk); (try clear hi); (try clear ho0); obtain ⟨Ao24, co24, eo24⟩ := Kd.R_slice HO104.out; subst eo24))
      go_ret
      exact ⟨by first | rfl | (simp [errW_none, errW_some] <;> rfl) | (simp [*, errW_none, errW_some] <;> rfl), by repeat (first | (with_reducible first | exact HB.out | apply below_alloc | apply pw_below_drewN | apply below_drew1) | exact HB.out)⟩
  · rw [if_neg c2] at H
    have c2b0 : (t102 == 0) = false := beq_eq_false_iff_ne.mpr c2
    have c2b1 : (t102 != 0) = true := bne_iff_ne.mpr c2
    obtain rfl := Option.some.inj H
    go_enter Try.func12, Try.ntmps12
    go_wp2_with (first | ((with_reducible refine gate_callee (f := 11) rfl ?_); refine goesL_ (some 4) rfl rfl Try.func11 (by kernel_rfl) rfl #[.int .i64 5, .int .i64 2] rfl (by (try simp only [List.map_toArray, List.map_cons, List.map_nil]); first | done | rfl | (simp only [List.length_drop, List.length_take]; rfl)) ?_; (with_reducible refine (shuffle_Order.calls k 5 2 t101 t102 _ A1.out).mono ?_); rintro e w25 ⟨v103, rfl, ho0, hb⟩; refine ⟨_, rfl, ?_⟩; have n0_ := Aside0.mk (Kd.R_lower ho0 (below_size (by repeat (first | (with_reducible first | exact HB.out | apply below_alloc | apply pw_below_drewN | apply below_drew1) | exact HB.out)))); have n1_ := Aside0.mk (below_step (by repeat (first | (with_reducible first | exact HB.out | apply below_alloc | apply pw_below_drewN | apply below_drew1) | exact HB.out)) hb); clear HB; have HO104 := n0_; have HB := n1_; clear n0_ n1_; (try clear hb); (try clear hb2); (try clear hk); (try clear hi); (try clear ho0)))
    go_ret
    exact ⟨by first | rfl | (simp [errW_none, errW_some] <;> rfl) | (simp [*, errW_none, errW_some] <;> rfl), by repeat (first | (with_reducible first | exact HB.out | apply below_alloc | apply pw_below_drewN | apply below_drew1) | exact HB.out)⟩

/-! ### shuttlelaw33_ShuffleSquare: function 4 -/
mutual
def shuttlelaw33_ShuffleSquare.j0 : Nat → Int → Int → List Int → Bool → Option (Bool)
  | 0, _, _, _, _ => none
  | k + 1, x5, x6, x7, x41 => if x41 = true then (some false) else (shuttlelaw33_ShuffleSquare.l0 k x5 x6 x7 0)
def shuttlelaw33_ShuffleSquare.l0 : Nat → Int → Int → List Int → Int → Option (Bool)
  | 0, _, _, _, _ => none
  | k + 1, x5, x6, x7, x9 => if x9 < (x7.length : Int) then (if 0 ≤ x9 then (if x5 = 0 then (none) else (if (rd x7 x9) = (wrap64 ((wrap64 ((Int.tmod x9 x5) * x6)) + (wrap64 (Int.tdiv x9 x5)))) then (shuttlelaw33_ShuffleSquare.l0 k x5 x6 x7 (wrap64 (x9 + 1))) else (some false))) else (none)) else (some true)
end
def shuttlelaw33_ShuffleSquare.f (k : Nat) (a0 : Int) (a1 : Int) : Option (Bool) := (shuffle_Order.f k (wrap64 ((wrap64 (2 + (wrap64 (Int.tmod (IntKind.u64.wrap (a0)) 20)))) * (wrap64 (2 + (wrap64 (Int.tmod (IntKind.u64.wrap (a1)) 20)))))) (wrap64 (2 + (wrap64 (Int.tmod (IntKind.u64.wrap (a0)) 20))))).bind fun bt110 => ((shuttlelaw33_shuffles.f k).bind fun t114 => (if t114 = true then (if bt110.2 = 0 then (shuttlelaw33_ShuffleSquare.j0 k (wrap64 (2 + (wrap64 (Int.tmod (IntKind.u64.wrap (a0)) 20)))) (wrap64 (2 + (wrap64 (Int.tmod (IntKind.u64.wrap (a1)) 20)))) bt110.1 ((bt110.1.length : Int) != (wrap64 ((wrap64 (2 + (wrap64 (Int.tmod (IntKind.u64.wrap (a0)) 20)))) * (wrap64 (2 + (wrap64 (Int.tmod (IntKind.u64.wrap (a1)) 20)))))))) else (shuttlelaw33_ShuffleSquare.j0 k (wrap64 (2 + (wrap64 (Int.tmod (IntKind.u64.wrap (a0)) 20)))) (wrap64 (2 + (wrap64 (Int.tmod (IntKind.u64.wrap (a1)) 20)))) bt110.1 true)) else (shuttlelaw33_ShuffleSquare.j0 k (wrap64 (2 + (wrap64 (Int.tmod (IntKind.u64.wrap (a0)) 20)))) (wrap64 (2 + (wrap64 (Int.tmod (IntKind.u64.wrap (a1)) 20)))) bt110.1 true)))
theorem shuttlelaw33_ShuffleSquare.mono_l : ∀ k, (∀ y0 y1 y2 y3, LeO (shuttlelaw33_ShuffleSquare.j0 k y0 y1 y2 y3) (shuttlelaw33_ShuffleSquare.j0 (k + 1) y0 y1 y2 y3)) ∧ (∀ y0 y1 y2 y3, LeO (shuttlelaw33_ShuffleSquare.l0 k y0 y1 y2 y3) (shuttlelaw33_ShuffleSquare.l0 (k + 1) y0 y1 y2 y3))
  | 0 => ⟨fun _ _ _ _ r h => by simp [shuttlelaw33_ShuffleSquare.j0] at h, fun _ _ _ _ r h => by simp [shuttlelaw33_ShuffleSquare.l0] at h⟩
  | k + 1 => by
    obtain ⟨ih0, ih1⟩ := shuttlelaw33_ShuffleSquare.mono_l k
    refine ⟨?_, ?_⟩
    · intro y0 y1 y2 y3
      unfold shuttlelaw33_ShuffleSquare.j0
      repeat' first
      | (with_reducible exact ih0 _ _ _ _)
      | (with_reducible exact ih1 _ _ _ _)
      | (with_reducible exact shuffle_Order.mono _ _ _)
      | (with_reducible exact shuttlelaw33_shuffles.mono _)
      | (with_reducible exact LeO.refl _)
      | (with_reducible exact LeO.none _)
      | (with_reducible refine LeO.ite ?_ ?_)
      | (with_reducible refine LeO.bind ?_ (fun _ => ?_))
      | exact ih0 _ _ _ _
      | exact ih1 _ _ _ _
      | exact shuffle_Order.mono _ _ _
      | exact shuttlelaw33_shuffles.mono _
      | exact LeO.none _
      | refine LeO.ite ?_ ?_
      | refine LeO.bind ?_ (fun _ => ?_)
    · intro y0 y1 y2 y3
      unfold shuttlelaw33_ShuffleSquare.l0
      repeat' first
      | (with_reducible exact ih0 _ _ _ _)
      | (with_reducible exact ih1 _ _ _ _)
      | (with_reducible exact shuffle_Order.mono _ _ _)
      | (with_reducible exact shuttlelaw33_shuffles.mono _)
      | (with_reducible exact LeO.refl _)
      | (with_reducible exact LeO.none _)
      | (with_reducible refine LeO.ite ?_ ?_)
      | (with_reducible refine LeO.bind ?_ (fun _ => ?_))
      | exact ih0 _ _ _ _
      | exact ih1 _ _ _ _
      | exact shuffle_Order.mono _ _ _
      | exact shuttlelaw33_shuffles.mono _
      | exact LeO.none _
      | refine LeO.ite ?_ ?_
      | refine LeO.bind ?_ (fun _ => ?_)
theorem shuttlelaw33_ShuffleSquare.mono : ∀ a0 a1 k, LeO (shuttlelaw33_ShuffleSquare.f k a0 a1) (shuttlelaw33_ShuffleSquare.f (k + 1) a0 a1) := by
  intro a0 a1 k
  obtain ⟨ih0, ih1⟩ := shuttlelaw33_ShuffleSquare.mono_l k
  unfold shuttlelaw33_ShuffleSquare.f
  repeat' first
      | (with_reducible exact ih0 _ _ _ _)
      | (with_reducible exact ih1 _ _ _ _)
      | (with_reducible exact shuffle_Order.mono _ _ _)
      | (with_reducible exact shuttlelaw33_shuffles.mono _)
      | (with_reducible exact LeO.refl _)
      | (with_reducible exact LeO.none _)
      | (with_reducible refine LeO.ite ?_ ?_)
      | (with_reducible refine LeO.bind ?_ (fun _ => ?_))
      | exact ih0 _ _ _ _
      | exact ih1 _ _ _ _
      | exact shuffle_Order.mono _ _ _
      | exact shuttlelaw33_shuffles.mono _
      | exact LeO.none _
      | refine LeO.ite ?_ ?_
      | refine LeO.bind ?_ (fun _ => ?_)
set_option maxHeartbeats 8000000 in
set_option maxRecDepth 100000 in
theorem shuttlelaw33_ShuffleSquare.calls (k : Nat) (a0 : Int) (a1 : Int) (r : Bool) (w : World) (h : shuttlelaw33_ShuffleSquare.f k a0 a1 = some r) :
    Calls Try.prog 4 #[.int .i64 a0, .int .i64 a1] w fun e w' => e = .returned (.bool r) ∧ Below w.heap.size w w' := by
  have HB := Aside0.mk (Below.refl w.heap.size w)
  have H : ((shuffle_Order.f k (wrap64 ((wrap64 (2 + (wrap64 (Int.tmod (IntKind.u64.wrap (a0)) 20)))) * (wrap64 (2 + (wrap64 (Int.tmod (IntKind.u64.wrap (a1)) 20)))))) (wrap64 (2 + (wrap64 (Int.tmod (IntKind.u64.wrap (a0)) 20))))).bind fun bt110 => ((shuttlelaw33_shuffles.f k).bind fun t114 => (if t114 = true then (if bt110.2 = 0 then (shuttlelaw33_ShuffleSquare.j0 k (wrap64 (2 + (wrap64 (Int.tmod (IntKind.u64.wrap (a0)) 20)))) (wrap64 (2 + (wrap64 (Int.tmod (IntKind.u64.wrap (a1)) 20)))) bt110.1 ((bt110.1.length : Int) != (wrap64 ((wrap64 (2 + (wrap64 (Int.tmod (IntKind.u64.wrap (a0)) 20)))) * (wrap64 (2 + (wrap64 (Int.tmod (IntKind.u64.wrap (a1)) 20)))))))) else (shuttlelaw33_ShuffleSquare.j0 k (wrap64 (2 + (wrap64 (Int.tmod (IntKind.u64.wrap (a0)) 20)))) (wrap64 (2 + (wrap64 (Int.tmod (IntKind.u64.wrap (a1)) 20)))) bt110.1 true)) else (shuttlelaw33_ShuffleSquare.j0 k (wrap64 (2 + (wrap64 (Int.tmod (IntKind.u64.wrap (a0)) 20)))) (wrap64 (2 + (wrap64 (Int.tmod (IntKind.u64.wrap (a1)) 20)))) bt110.1 true)))) = some r := h
  clear h
  replace H := Option.bind_eq_some_iff.mp H
  obtain ⟨⟨t110, t111⟩, A30, H⟩ := H
  replace H : ((shuttlelaw33_shuffles.f k).bind fun t114 => (if t114 = true then (if t111 = 0 then (shuttlelaw33_ShuffleSquare.j0 k (wrap64 (2 + (wrap64 (Int.tmod (IntKind.u64.wrap (a0)) 20)))) (wrap64 (2 + (wrap64 (Int.tmod (IntKind.u64.wrap (a1)) 20)))) t110 ((t110.length : Int) != (wrap64 ((wrap64 (2 + (wrap64 (Int.tmod (IntKind.u64.wrap (a0)) 20)))) * (wrap64 (2 + (wrap64 (Int.tmod (IntKind.u64.wrap (a1)) 20)))))))) else (shuttlelaw33_ShuffleSquare.j0 k (wrap64 (2 + (wrap64 (Int.tmod (IntKind.u64.wrap (a0)) 20)))) (wrap64 (2 + (wrap64 (Int.tmod (IntKind.u64.wrap (a1)) 20)))) t110 true)) else (shuttlelaw33_ShuffleSquare.j0 k (wrap64 (2 + (wrap64 (Int.tmod (IntKind.u64.wrap (a0)) 20)))) (wrap64 (2 + (wrap64 (Int.tmod (IntKind.u64.wrap (a1)) 20)))) t110 true))) = some r := H
  have A3 := Aside0.mk A30
  clear A30
  have HC4 := Aside0.mk H
  clear H
  go_enter Try.func4, Try.ntmps4
  go_upto_region 4 with (first | (go_at_call 11; (with_reducible refine (shuffle_Order.calls k (wrap64 ((wrap64 (2 + (wrap64 (Int.tmod (IntKind.u64.wrap (a0)) 20)))) * (wrap64 (2 + (wrap64 (Int.tmod (IntKind.u64.wrap (a1)) 20)))))) (wrap64 (2 + (wrap64 (Int.tmod (IntKind.u64.wrap (a0)) 20)))) t110 t111 _ A3.out).mono ?_); rintro e w5 ⟨v112, rfl, ho0, hb⟩; have n0_ := Aside0.mk (Kd.R_lower ho0 (below_size (by repeat (first | (with_reducible first | exact HB.out | apply below_alloc | apply pw_below_drewN | apply below_drew1) | exact HB.out)))); have n1_ := Aside0.mk (below_step (by repeat (first | (with_reducible first | exact HB.out | apply below_alloc | apply pw_below_drewN | apply below_drew1) | exact HB.out)) hb); clear HB; have HO113 := n0_; have HB := n1_; clear n0_ n1_; (try clear hb); (try clear hb2); (try clear hk); (try clear hi); (try clear ho0)))
  repeat (go_quiet (first | (go_at_call 11; (with_reducible refine (shuffle_Order.calls k (wrap64 ((wrap64 (2 + (wrap64 (Int.tmod (IntKind.u64.wrap (a0)) 20)))) * (wrap64 (2 + (wrap64 (Int.tmod (IntKind.u64.wrap (a1)) 20)))))) (wrap64 (2 + (wrap64 (Int.tmod (IntKind.u64.wrap (a0)) 20)))) t110 t111 _ A3.out).mono ?_); rintro e w5 ⟨v112, rfl, ho0, hb⟩; have n0_ := Aside0.mk (Kd.R_lower ho0 (below_size (by repeat (first | (with_reducible first | exact HB.out | apply below_alloc | apply pw_below_drewN | apply below_drew1) | exact HB.out)))); have n1_ := Aside0.mk (below_step (by repeat (first | (with_reducible first | exact HB.out | apply below_alloc | apply pw_below_drewN | apply below_drew1) | exact HB.out)) hb); clear HB; have HO113 := n0_; have HB := n1_; clear n0_ n1_; (try clear hb); (try clear hb2); (try clear hk); (try clear hi); (try clear ho0))); go_upto_region 4 with (first | (go_at_call 11; (with_reducible refine (shuffle_Order.calls k (wrap64 ((wrap64 (2 + (wrap64 (Int.tmod (IntKind.u64.wrap (a0)) 20)))) * (wrap64 (2 + (wrap64 (Int.tmod (IntKind.u64.wrap (a1)) 20)))))) (wrap64 (2 + (wrap64 (Int.tmod (IntKind.u64.wrap (a0)) 20)))) t110 t111 _ A3.out).mono ?_); rintro e w5 ⟨v112, rfl, ho0, hb⟩; have n0_ := Aside0.mk (Kd.R_lower ho0 (below_size (by repeat (first | (with_reducible first | exact HB.out | apply below_alloc | apply pw_below_drewN | apply below_drew1) | exact HB.out)))); have n1_ := Aside0.mk (below_step (by repeat (first | (with_reducible first | exact HB.out | apply below_alloc | apply pw_below_drewN | apply below_drew1) | exact HB.out)) hb); clear HB; have HO113 := n0_; have HB := n1_; clear n0_ n1_; (try clear hb); (try clear hb2); (try clear hk); (try clear hi); (try clear ho0))))
  (try simp only [Act.put, List.setIfInBounds_toArray, List.set_cons_zero, List.set_cons_succ])
  go_cut [41] (fun v41 wc => ∃ (kq : Nat) (x41_3 : Bool), v41 = .bool x41_3 ∧ Aside0 (shuttlelaw33_ShuffleSquare.j0 kq (wrap64 (2 + (wrap64 (Int.tmod (IntKind.u64.wrap (a0)) 20)))) (wrap64 (2 + (wrap64 (Int.tmod (IntKind.u64.wrap (a1)) 20)))) t110 x41_3 = some r) ∧ Aside0 (kq ≤ k) ∧ Aside0 (Kd.R (Kd.int .i64) 3 wc w.heap.size (fun _ => True) v112 t110) ∧ Aside0 (Below w.heap.size w wc))
  case first =>
    have H := HC4.out
    clear HC4
    replace H := Option.bind_eq_some_iff.mp H
    obtain ⟨t114, A60, H⟩ := H
    replace H : (if t114 = true then (if t111 = 0 then (shuttlelaw33_ShuffleSquare.j0 k (wrap64 (2 + (wrap64 (Int.tmod (IntKind.u64.wrap (a0)) 20)))) (wrap64 (2 + (wrap64 (Int.tmod (IntKind.u64.wrap (a1)) 20)))) t110 ((t110.length : Int) != (wrap64 ((wrap64 (2 + (wrap64 (Int.tmod (IntKind.u64.wrap (a0)) 20)))) * (wrap64 (2 + (wrap64 (Int.tmod (IntKind.u64.wrap (a1)) 20)))))))) else (shuttlelaw33_ShuffleSquare.j0 k (wrap64 (2 + (wrap64 (Int.tmod (IntKind.u64.wrap (a0)) 20)))) (wrap64 (2 + (wrap64 (Int.tmod (IntKind.u64.wrap (a1)) 20)))) t110 true)) else (shuttlelaw33_ShuffleSquare.j0 k (wrap64 (2 + (wrap64 (Int.tmod (IntKind.u64.wrap (a0)) 20)))) (wrap64 (2 + (wrap64 (Int.tmod (IntKind.u64.wrap (a1)) 20)))) t110 true)) = some r := H
    have A6 := Aside0.mk A60
    clear A60
    by_cases c7 : t114 = true
    · subst c7
      have H1 : (if t111 = 0 then (shuttlelaw33_ShuffleSquare.j0 k (wrap64 (2 + (wrap64 (Int.tmod (IntKind.u64.wrap (a0)) 20)))) (wrap64 (2 + (wrap64 (Int.tmod (IntKind.u64.wrap (a1)) 20)))) t110 ((t110.length : Int) != (wrap64 ((wrap64 (2 + (wrap64 (Int.tmod (IntKind.u64.wrap (a0)) 20)))) * (wrap64 (2 + (wrap64 (Int.tmod (IntKind.u64.wrap (a1)) 20)))))))) else (shuttlelaw33_ShuffleSquare.j0 k (wrap64 (2 + (wrap64 (Int.tmod (IntKind.u64.wrap (a0)) 20)))) (wrap64 (2 + (wrap64 (Int.tmod (IntKind.u64.wrap (a1)) 20)))) t110 true)) = some r := by rw [if_pos rfl] at H; exact H
      clear H
      have H := H1
      clear H1
      by_cases c8 : t111 = 0
      · rw [if_pos c8] at H
        have c8b0 : (t111 == 0) = true := beq_iff_eq.mpr c8
        have c8b1 : (t111 != 0) = false := bne_eq_false_iff_eq.mpr c8
        clear c8
        (first | rw [c8b0] | (simp only [i64_w, i32_w]; rw [c8b0]) | skip)
        have H' := Aside0.mk H
        clear H
        go_wp2_with (first | (go_at_call 12; (with_reducible refine (shuttlelaw33_shuffles.calls k  true _ A6.out).mono ?_); rintro e w9 ⟨rfl, hb⟩; have n0_ := Aside0.mk (Kd.R_below (by (with_reducible repeat (first | apply Kd.R_alloc | apply Kd.R_drewN | apply Kd.R_drew)); exact HO113.out) hb); have n1_ := Aside0.mk (below_step (by repeat (first | (with_reducible first | exact HB.out | apply below_alloc | apply pw_below_drewN | apply below_drew1) | exact HB.out)) hb); clear HO113; clear HB; have HO113 := n0_; have HB := n1_; clear n0_ n1_; (try clear hb); (try clear hb2); (try clear hk); (try clear hi); obtain ⟨Ao10, co10, eo10⟩ := Kd.R_slice HO113.out; subst eo10))
        repeat (go_quiet (first | (go_at_call 12; (with_reducible refine (shuttlelaw33_shuffles.calls k  true _ A6.out).mono ?_); rintro e w9 ⟨rfl, hb⟩; have n0_ := Aside0.mk (Kd.R_below (by (with_reducible repeat (first | apply Kd.R_alloc | apply Kd.R_drewN | apply Kd.R_drew)); exact HO113.out) hb); have n1_ := Aside0.mk (below_step (by repeat (first | (with_reducible first | exact HB.out | apply below_alloc | apply pw_below_drewN | apply below_drew1) | exact HB.out)) hb); clear HO113; clear HB; have HO113 := n0_; have HB := n1_; clear n0_ n1_; (try clear hb); (try clear hb2); (try clear hk); (try clear hi); obtain ⟨Ao10, co10, eo10⟩ := Kd.R_slice HO113.out; subst eo10)); try go_wp2_with (first | (go_at_call 12; (with_reducible refine (shuttlelaw33_shuffles.calls k  true _ A6.out).mono ?_); rintro e w9 ⟨rfl, hb⟩; have n0_ := Aside0.mk (Kd.R_below (by (with_reducible repeat (first | apply Kd.R_alloc | apply Kd.R_drewN | apply Kd.R_drew)); exact HO113.out) hb); have n1_ := Aside0.mk (below_step (by repeat (first | (with_reducible first | exact HB.out | apply below_alloc | apply pw_below_drewN | apply below_drew1) | exact HB.out)) hb); clear HO113; clear HB; have HO113 := n0_; have HB := n1_; clear n0_ n1_; (try clear hb); (try clear hb2); (try clear hk); (try clear hi); obtain ⟨Ao10, co10, eo10⟩ := Kd.R_slice HO113.out; subst eo10)))
        go_meet
        case rel => exact ⟨_, (((t110.length : Int) != (wrap64 ((wrap64 (2 + (wrap64 (Int.tmod (IntKind.u64.wrap (a0)) 20)))) * (wrap64 (2 + (wrap64 (Int.tmod (IntKind.u64.wrap (a1)) 20)))))))), (by first | rfl | (simp; done) | (simp [*]; done)), H', ⟨by first | omega | exact Nat.le_refl _⟩, ⟨by (with_reducible repeat (first | apply Kd.R_alloc | apply Kd.R_drewN | apply Kd.R_drew)); exact HO113.out⟩, ⟨by repeat (first | (with_reducible first | exact HB.out | apply below_alloc | apply pw_below_drewN | apply below_drew1) | exact HB.out)⟩⟩
      · rw [if_neg c8] at H
        have c8b0 : (t111 == 0) = false := beq_eq_false_iff_ne.mpr c8
        have c8b1 : (t111 != 0) = true := bne_iff_ne.mpr c8
        (first | rw [c8b0] | (simp only [i64_w, i32_w]; rw [c8b0]) | skip)
        have H' := Aside0.mk H
        clear H
        go_wp2_with (first | (go_at_call 12; (with_reducible refine (shuttlelaw33_shuffles.calls k  true _ A6.out).mono ?_); rintro e w11 ⟨rfl, hb⟩; have n0_ := Aside0.mk (Kd.R_below (by (with_reducible repeat (first | apply Kd.R_alloc | apply Kd.R_drewN | apply Kd.R_drew)); exact HO113.out) hb); have n1_ := Aside0.mk (below_step (by repeat (first | (with_reducible first | exact HB.out | apply below_alloc | apply pw_below_drewN | apply below_drew1) | exact HB.out)) hb); clear HO113; clear HB; have HO113 := n0_; have HB := n1_; clear n0_ n1_; (try clear hb); (try clear hb2); (try clear hk); (try clear hi)))
        repeat (go_quiet (first | (go_at_call 12; (with_reducible refine (shuttlelaw33_shuffles.calls k  true _ A6.out).mono ?_); rintro e w11 ⟨rfl, hb⟩; have n0_ := Aside0.mk (Kd.R_below (by (with_reducible repeat (first | apply Kd.R_alloc | apply Kd.R_drewN | apply Kd.R_drew)); exact HO113.out) hb); have n1_ := Aside0.mk (below_step (by repeat (first | (with_reducible first | exact HB.out | apply below_alloc | apply pw_below_drewN | apply below_drew1) | exact HB.out)) hb); clear HO113; clear HB; have HO113 := n0_; have HB := n1_; clear n0_ n1_; (try clear hb); (try clear hb2); (try clear hk); (try clear hi))); try go_wp2_with (first | (go_at_call 12; (with_reducible refine (shuttlelaw33_shuffles.calls k  true _ A6.out).mono ?_); rintro e w11 ⟨rfl, hb⟩; have n0_ := Aside0.mk (Kd.R_below (by (with_reducible repeat (first | apply Kd.R_alloc | apply Kd.R_drewN | apply Kd.R_drew)); exact HO113.out) hb); have n1_ := Aside0.mk (below_step (by repeat (first | (with_reducible first | exact HB.out | apply below_alloc | apply pw_below_drewN | apply below_drew1) | exact HB.out)) hb); clear HO113; clear HB; have HO113 := n0_; have HB := n1_; clear n0_ n1_; (try clear hb); (try clear hb2); (try clear hk); (try clear hi))))
        go_meet
        case rel => exact ⟨_, (true), (by first | rfl | (simp; done) | (simp [*]; done)), H', ⟨by first | omega | exact Nat.le_refl _⟩, ⟨by (with_reducible repeat (first | apply Kd.R_alloc | apply Kd.R_drewN | apply Kd.R_drew)); exact HO113.out⟩, ⟨by repeat (first | (with_reducible first | exact HB.out | apply below_alloc | apply pw_below_drewN | apply below_drew1) | exact HB.out)⟩⟩
    · replace c7 := Bool.eq_false_iff.mpr c7
      subst c7
      have H1 : (shuttlelaw33_ShuffleSquare.j0 k (wrap64 (2 + (wrap64 (Int.tmod (IntKind.u64.wrap (a0)) 20)))) (wrap64 (2 + (wrap64 (Int.tmod (IntKind.u64.wrap (a1)) 20)))) t110 true) = some r := by rw [if_neg (show ¬ (false = true) by decide)] at H; exact H
      clear H
      have H := H1
      clear H1
      have H' := Aside0.mk H
      clear H
      go_wp2_with (first | (go_at_call 12; (with_reducible refine (shuttlelaw33_shuffles.calls k  false _ A6.out).mono ?_); rintro e w12 ⟨rfl, hb⟩; have n0_ := Aside0.mk (Kd.R_below (by (with_reducible repeat (first | apply Kd.R_alloc | apply Kd.R_drewN | apply Kd.R_drew)); exact HO113.out) hb); have n1_ := Aside0.mk (below_step (by repeat (first | (with_reducible first | exact HB.out | apply below_alloc | apply pw_below_drewN | apply below_drew1) | exact HB.out)) hb); clear HO113; clear HB; have HO113 := n0_; have HB := n1_; clear n0_ n1_; (try clear hb); (try clear hb2); (try clear hk); (try clear hi)))
      repeat (go_quiet (first | (go_at_call 12; (with_reducible refine (shuttlelaw33_shuffles.calls k  false _ A6.out).mono ?_); rintro e w12 ⟨rfl, hb⟩; have n0_ := Aside0.mk (Kd.R_below (by (with_reducible repeat (first | apply Kd.R_alloc | apply Kd.R_drewN | apply Kd.R_drew)); exact HO113.out) hb); have n1_ := Aside0.mk (below_step (by repeat (first | (with_reducible first | exact HB.out | apply below_alloc | apply pw_below_drewN | apply below_drew1) | exact HB.out)) hb); clear HO113; clear HB; have HO113 := n0_; have HB := n1_; clear n0_ n1_; (try clear hb); (try clear hb2); (try clear hk); (try clear hi))); try go_wp2_with (first | (go_at_call 12; (with_reducible refine (shuttlelaw33_shuffles.calls k  false _ A6.out).mono ?_); rintro e w12 ⟨rfl, hb⟩; have n0_ := Aside0.mk (Kd.R_below (by (with_reducible repeat (first | apply Kd.R_alloc | apply Kd.R_drewN | apply Kd.R_drew)); exact HO113.out) hb); have n1_ := Aside0.mk (below_step (by repeat (first | (with_reducible first | exact HB.out | apply below_alloc | apply pw_below_drewN | apply below_drew1) | exact HB.out)) hb); clear HO113; clear HB; have HO113 := n0_; have HB := n1_; clear n0_ n1_; (try clear hb); (try clear hb2); (try clear hk); (try clear hi))))
      go_meet
      case rel => exact ⟨_, (true), (by first | rfl | (simp; done) | (simp [*]; done)), H', ⟨by first | omega | exact Nat.le_refl _⟩, ⟨by (with_reducible repeat (first | apply Kd.R_alloc | apply Kd.R_drewN | apply Kd.R_drew)); exact HO113.out⟩, ⟨by repeat (first | (with_reducible first | exact HB.out | apply below_alloc | apply pw_below_drewN | apply below_drew1) | exact HB.out)⟩⟩
  case rest =>
    clear HC4
    try clear p2
    try clear c4
    try clear p6
    try clear c7
    try clear c8
    try clear c8b0
    try clear c8b1
    obtain ⟨kq, x41_3, rfl, HA, HJ3, HO_7, HB⟩ := hcut
    cases kq with
    | zero => exact absurd HA.out (by simp [shuttlelaw33_ShuffleSquare.j0])
    | succ kj3 =>
      have H := HA.out
      clear HA
      simp only [shuttlelaw33_ShuffleSquare.j0] at H
      by_cases c13 : x41_3 = true
      · subst c13
        have H1 : (some false) = some r := by rw [if_pos rfl] at H; exact H
        clear H
        have H := H1
        clear H1
        obtain rfl := Option.some.inj H
        go_wp2
        repeat (go_quiet (fail); try go_wp2)
        go_ret
        exact ⟨by first | rfl | (simp [errW_none, errW_some] <;> rfl) | (simp [*, errW_none, errW_some] <;> rfl), by repeat (first | (with_reducible first | exact HB.out | apply below_alloc | apply pw_below_drewN | apply below_drew1) | exact HB.out)⟩
      · replace c13 := Bool.eq_false_iff.mpr c13
        subst c13
        have H1 : (shuttlelaw33_ShuffleSquare.l0 kj3 (wrap64 (2 + (wrap64 (Int.tmod (IntKind.u64.wrap (a0)) 20)))) (wrap64 (2 + (wrap64 (Int.tmod (IntKind.u64.wrap (a1)) 20)))) t110 0) = some r := by rw [if_neg (show ¬ (false = true) by decide)] at H; exact H
        clear H
        have H := H1
        clear H1
        have H' := Aside0.mk H
        clear H
        go_wp2
        repeat (go_quiet (fail); try go_wp2)
        go_loopg [9] kj3 (fun kq v9 w' => ∃ (x9_2 : Int), v9 = .int .i64 x9_2 ∧ Aside0 (shuttlelaw33_ShuffleSquare.l0 kq (wrap64 (2 + (wrap64 (Int.tmod (IntKind.u64.wrap (a0)) 20)))) (wrap64 (2 + (wrap64 (Int.tmod (IntKind.u64.wrap (a1)) 20)))) t110 x9_2 = some r) ∧ Aside0 (kq ≤ kj3) ∧ Aside0 (Kd.R (Kd.int .i64) 3 w' w.heap.size (fun _ => True) v112 t110) ∧ Aside0 (Below w.heap.size w w'))
        case atStart => exact ⟨(0), (by first | rfl | (simp; done) | (simp [*]; done)), H', ⟨Nat.le_refl _⟩, ⟨by (with_reducible repeat (first | apply Kd.R_alloc | apply Kd.R_drewN | apply Kd.R_drew)); exact HO_7.out⟩, ⟨by repeat (first | (with_reducible first | exact HB.out | apply below_alloc | apply pw_below_drewN | apply below_drew1) | exact HB.out)⟩⟩
        case round =>
          clear H'
          try clear c1
          try clear p2
          try clear c4
          try clear p6
          try clear c7
          try clear c8
          try clear c8b0
          try clear c8b1
          try clear c13
          try clear p2
          try clear p6
          obtain ⟨x9_2, rfl, HA, HK2, HO_7, HB⟩ := hrel
          cases gk with
          | zero => exact absurd HA.out (by simp [shuttlelaw33_ShuffleSquare.l0])
          | succ k2 =>
            have H := HA.out
            clear HA
            simp only [shuttlelaw33_ShuffleSquare.l0] at H
            by_cases c14 : x9_2 < (t110.length : Int)
            · rw [if_pos c14] at H
              have c14b0 : decide (x9_2 < (t110.length : Int)) = true := decide_eq_true c14
              clear c14
              by_cases c15 : 0 ≤ x9_2
              · rw [if_pos c15] at H
                have c15b0 : decide (0 ≤ x9_2) = true := decide_eq_true c15
                clear c15
                by_cases c16 : (wrap64 (2 + (wrap64 (Int.tmod (IntKind.u64.wrap (a0)) 20)))) = 0
                · rw [if_pos c16] at H
                  exact absurd H (by simp)
                · rw [if_neg c16] at H
                  have c16b0 : ((wrap64 (2 + (wrap64 (Int.tmod (IntKind.u64.wrap (a0)) 20)))) == 0) = false := beq_eq_false_iff_ne.mpr c16
                  have c16b1 : ((wrap64 (2 + (wrap64 (Int.tmod (IntKind.u64.wrap (a0)) 20)))) != 0) = true := bne_iff_ne.mpr c16
                  by_cases c17 : (rd t110 x9_2) = (wrap64 ((wrap64 ((Int.tmod x9_2 (wrap64 (2 + (wrap64 (Int.tmod (IntKind.u64.wrap (a0)) 20))))) * (wrap64 (2 + (wrap64 (Int.tmod (IntKind.u64.wrap (a1)) 20)))))) + (wrap64 (Int.tdiv x9_2 (wrap64 (2 + (wrap64 (Int.tmod (IntKind.u64.wrap (a0)) 20))))))))
                  · rw [if_pos c17] at H
                    have c17b0 : ((rd t110 x9_2) == (wrap64 ((wrap64 ((Int.tmod x9_2 (wrap64 (2 + (wrap64 (Int.tmod (IntKind.u64.wrap (a0)) 20))))) * (wrap64 (2 + (wrap64 (Int.tmod (IntKind.u64.wrap (a1)) 20)))))) + (wrap64 (Int.tdiv x9_2 (wrap64 (2 + (wrap64 (Int.tmod (IntKind.u64.wrap (a0)) 20))))))))) = true := beq_iff_eq.mpr c17
                    have c17b1 : ((rd t110 x9_2) != (wrap64 ((wrap64 ((Int.tmod x9_2 (wrap64 (2 + (wrap64 (Int.tmod (IntKind.u64.wrap (a0)) 20))))) * (wrap64 (2 + (wrap64 (Int.tmod (IntKind.u64.wrap (a1)) 20)))))) + (wrap64 (Int.tdiv x9_2 (wrap64 (2 + (wrap64 (Int.tmod (IntKind.u64.wrap (a0)) 20))))))))) = false := bne_eq_false_iff_eq.mpr c17
                    clear c17
                    have H' := Aside0.mk H
                    clear H
                    obtain ⟨Ao18, co18, eo18⟩ := Kd.R_slice HO_7.out
                    subst eo18
                    have p115 : 0 ≤ (x9_2 : Int) := of_decide_eq_true (by first | (with_reducible assumption) | assumption)
                    have q115 : x9_2 < (t110.length : Int) := of_decide_eq_true (by first | (with_reducible assumption) | assumption)
                    obtain ⟨ad115, e115, hx115_0⟩ := Kd.at_int (Kd.R_reads' HO_7.out).2.2 x9_2 p115 q115
                    cases e115
                    replace p115 := eq_true p115
                    replace q115 := eq_true q115
                    go_wp2
                    repeat (go_quiet (fail); try go_wp2)
                    go_roundg k2
                    case measure => have := HJ3.out; have := HK2.out; omega
                    case rel => exact ⟨(wrap64 (x9_2 + 1)), (by first | rfl | (simp; done) | (simp [*]; done)), H', ⟨by have := HJ3.out; have := HK2.out; omega⟩, ⟨by (with_reducible repeat (first | apply Kd.R_alloc | apply Kd.R_drewN | apply Kd.R_drew)); exact HO_7.out⟩, ⟨by repeat (first | (with_reducible first | exact HB.out | apply below_alloc | apply pw_below_drewN | apply below_drew1) | exact HB.out)⟩⟩
                  · rw [if_neg c17] at H
                    have c17b0 : ((rd t110 x9_2) == (wrap64 ((wrap64 ((Int.tmod x9_2 (wrap64 (2 + (wrap64 (Int.tmod (IntKind.u64.wrap (a0)) 20))))) * (wrap64 (2 + (wrap64 (Int.tmod (IntKind.u64.wrap (a1)) 20)))))) + (wrap64 (Int.tdiv x9_2 (wrap64 (2 + (wrap64 (Int.tmod (IntKind.u64.wrap (a0)) 20))))))))) = false := beq_eq_false_iff_ne.mpr c17
                    have c17b1 : ((rd t110 x9_2) != (wrap64 ((wrap64 ((Int.tmod x9_2 (wrap64 (2 + (wrap64 (Int.tmod (IntKind.u64.wrap (a0)) 20))))) * (wrap64 (2 + (wrap64 (Int.tmod (IntKind.u64.wrap (a1)) 20)))))) + (wrap64 (Int.tdiv x9_2 (wrap64 (2 + (wrap64 (Int.tmod (IntKind.u64.wrap (a0)) 20))))))))) = true := bne_iff_ne.mpr c17
                    obtain rfl := Option.some.inj H
                    obtain ⟨Ao19, co19, eo19⟩ := Kd.R_slice HO_7.out
                    subst eo19
                    have p115 : 0 ≤ (x9_2 : Int) := of_decide_eq_true (by first | (with_reducible assumption) | assumption)
                    have q115 : x9_2 < (t110.length : Int) := of_decide_eq_true (by first | (with_reducible assumption) | assumption)
                    obtain ⟨ad115, e115, hx115_0⟩ := Kd.at_int (Kd.R_reads' HO_7.out).2.2 x9_2 p115 q115
                    cases e115
                    replace p115 := eq_true p115
                    replace q115 := eq_true q115
                    go_wp2
                    repeat (go_quiet (fail); try go_wp2)
                    go_ret
                    exact ⟨by first | rfl | (simp [errW_none, errW_some] <;> rfl) | (simp [*, errW_none, errW_some] <;> rfl), by repeat (first | (with_reducible first | exact HB.out | apply below_alloc | apply pw_below_drewN | apply below_drew1) | exact HB.out)⟩
              · rw [if_neg c15] at H
                exact absurd H (by simp)
            · rw [if_neg c14] at H
              have c14b0 : decide (x9_2 < (t110.length : Int)) = false := decide_eq_false c14
              clear c14
              obtain rfl := Option.some.inj H
              obtain ⟨Ao20, co20, eo20⟩ := Kd.R_slice HO_7.out
              subst eo20
              go_wp2
              repeat (go_quiet (fail); try go_wp2)
              go_ret
              exact ⟨by first | rfl | (simp [errW_none, errW_some] <;> rfl) | (simp [*, errW_none, errW_some] <;> rfl), by repeat (first | (with_reducible first | exact HB.out | apply below_alloc | apply pw_below_drewN | apply below_drew1) | exact HB.out)⟩

/-- THE ONE PURE STATEMENT of shuttlelaw33_ShuffleSquare: yours. -/
def shuttlelaw33_ShuffleSquare.Pure : Prop := ∀ (a0 : Int) (a1 : Int), (Lit.int .i64 a0).wf = true → (Lit.int .i64 a1).wf = true → ∃ k, shuttlelaw33_ShuffleSquare.f k a0 a1 = some true
theorem shuttlelaw33_ShuffleSquare.walk (P : shuttlelaw33_ShuffleSquare.Pure) (a0 : Int) (a1 : Int) (w : World) (w0 : (Lit.int .i64 a0).wf = true) (w1 : (Lit.int .i64 a1).wf = true) :
    Calls Try.prog 4 #[.int .i64 a0, .int .i64 a1] w fun e w' => e = .returned (.bool true) ∧ Below w.heap.size w w' := by
  obtain ⟨k, h⟩ := P a0 a1 w0 w1
  refine (shuttlelaw33_ShuffleSquare.calls k a0 a1 true w h).mono ?_
  rintro e w' ⟨rfl, hd⟩
  exact ⟨rfl, hd⟩

/-! ### shuffle_Apart: function 13 -/
mutual
def shuffle_Apart.j0 : Nat → Int → List Int → Int → Bool → Option (Int × Int)
  | 0, _, _, _, _ => none
  | k + 1, x0, x6, x7, x25 => if x25 = true then (some (0, x7)) else (if 0 ≤ x0 then (if (x0 : Int).toNat ≤ 35184372088832 then (shuffle_Apart.l0 k x0 (List.replicate (x0 : Int).toNat 0) x6 (x6.length : Int) 0) else (none)) else (none))
def shuffle_Apart.l0 : Nat → Int → List Int → List Int → Int → Int → Option (Int × Int)
  | 0, _, _, _, _, _ => none
  | k + 1, x0, x8, x29, x30, x31 => if x31 < x30 then (if 0 ≤ x31 then (if x31 < (x29.length : Int) then (if 0 ≤ (rd x29 x31) then (if (rd x29 x31) < (x8.length : Int) then (shuffle_Apart.l0 k x0 (x8.set ((rd x29 x31) : Int).toNat x31) x29 x30 (wrap64 (x31 + 1))) else (none)) else (none)) else (none)) else (none)) else (shuffle_Apart.l1 k x8 x0 (wrap64 (x0 - 1)) 0)
def shuffle_Apart.l1 : Nat → List Int → Int → Int → Int → Option (Int × Int)
  | 0, _, _, _, _ => none
  | k + 1, x8, x11, x43, x44 => if x44 < x43 then (if 0 ≤ (wrap64 (x44 + 1)) then (if (wrap64 (x44 + 1)) < (x8.length : Int) then (if 0 ≤ x44 then (if x44 < (x8.length : Int) then (shuffle_Apart.l1 k x8 (mn x11 (mx (wrap64 ((rd x8 (wrap64 (x44 + 1))) - (rd x8 x44))) (wrap64 (-(wrap64 ((rd x8 (wrap64 (x44 + 1))) - (rd x8 x44))))))) x43 (wrap64 (x44 + 1))) else (none)) else (none)) else (none)) else (none)) else (some (x11, 0))
end
def shuffle_Apart.f (k : Nat) (a0 : Int) (a1 : Int) : Option (Int × Int) := (shuffle_Order.f k a0 a1).bind fun bt116 => (if bt116.2 = 0 then (shuffle_Apart.j0 k a0 bt116.1 bt116.2 (decide (a0 < 2))) else (shuffle_Apart.j0 k a0 bt116.1 bt116.2 true))
theorem shuffle_Apart.mono_l : ∀ k, (∀ y0 y1 y2 y3, LeO (shuffle_Apart.j0 k y0 y1 y2 y3) (shuffle_Apart.j0 (k + 1) y0 y1 y2 y3)) ∧ (∀ y0 y1 y2 y3 y4, LeO (shuffle_Apart.l0 k y0 y1 y2 y3 y4) (shuffle_Apart.l0 (k + 1) y0 y1 y2 y3 y4)) ∧ (∀ y0 y1 y2 y3, LeO (shuffle_Apart.l1 k y0 y1 y2 y3) (shuffle_Apart.l1 (k + 1) y0 y1 y2 y3))
  | 0 => ⟨fun _ _ _ _ r h => by simp [shuffle_Apart.j0] at h, fun _ _ _ _ _ r h => by simp [shuffle_Apart.l0] at h, fun _ _ _ _ r h => by simp [shuffle_Apart.l1] at h⟩
  | k + 1 => by
    obtain ⟨ih0, ih1, ih2⟩ := shuffle_Apart.mono_l k
    refine ⟨?_, ?_, ?_⟩
    · intro y0 y1 y2 y3
      unfold shuffle_Apart.j0
      repeat' first
      | (with_reducible exact ih0 _ _ _ _)
      | (with_reducible exact ih1 _ _ _ _ _)
      | (with_reducible exact ih2 _ _ _ _)
      | (with_reducible exact shuffle_Order.mono _ _ _)
      | (with_reducible exact LeO.refl _)
      | (with_reducible exact LeO.none _)
      | (with_reducible refine LeO.ite ?_ ?_)
      | (with_reducible refine LeO.bind ?_ (fun _ => ?_))
      | exact ih0 _ _ _ _
      | exact ih1 _ _ _ _ _
      | exact ih2 _ _ _ _
      | exact shuffle_Order.mono _ _ _
      | exact LeO.none _
      | refine LeO.ite ?_ ?_
      | refine LeO.bind ?_ (fun _ => ?_)
    · intro y0 y1 y2 y3 y4
      unfold shuffle_Apart.l0
      repeat' first
      | (with_reducible exact ih0 _ _ _ _)
      | (with_reducible exact ih1 _ _ _ _ _)
      | (with_reducible exact ih2 _ _ _ _)
      | (with_reducible exact shuffle_Order.mono _ _ _)
      | (with_reducible exact LeO.refl _)
      | (with_reducible exact LeO.none _)
      | (with_reducible refine LeO.ite ?_ ?_)
      | (with_reducible refine LeO.bind ?_ (fun _ => ?_))
      | exact ih0 _ _ _ _
      | exact ih1 _ _ _ _ _
      | exact ih2 _ _ _ _
      | exact shuffle_Order.mono _ _ _
      | exact LeO.none _
      | refine LeO.ite ?_ ?_
      | refine LeO.bind ?_ (fun _ => ?_)
    · intro y0 y1 y2 y3
      unfold shuffle_Apart.l1
      repeat' first
      | (with_reducible exact ih0 _ _ _ _)
      | (with_reducible exact ih1 _ _ _ _ _)
      | (with_reducible exact ih2 _ _ _ _)
      | (with_reducible exact shuffle_Order.mono _ _ _)
      | (with_reducible exact LeO.refl _)
      | (with_reducible exact LeO.none _)
      | (with_reducible refine LeO.ite ?_ ?_)
      | (with_reducible refine LeO.bind ?_ (fun _ => ?_))
      | exact ih0 _ _ _ _
      | exact ih1 _ _ _ _ _
      | exact ih2 _ _ _ _
      | exact shuffle_Order.mono _ _ _
      | exact LeO.none _
      | refine LeO.ite ?_ ?_
      | refine LeO.bind ?_ (fun _ => ?_)
theorem shuffle_Apart.mono : ∀ a0 a1 k, LeO (shuffle_Apart.f k a0 a1) (shuffle_Apart.f (k + 1) a0 a1) := by
  intro a0 a1 k
  obtain ⟨ih0, ih1, ih2⟩ := shuffle_Apart.mono_l k
  unfold shuffle_Apart.f
  repeat' first
      | (with_reducible exact ih0 _ _ _ _)
      | (with_reducible exact ih1 _ _ _ _ _)
      | (with_reducible exact ih2 _ _ _ _)
      | (with_reducible exact shuffle_Order.mono _ _ _)
      | (with_reducible exact LeO.refl _)
      | (with_reducible exact LeO.none _)
      | (with_reducible refine LeO.ite ?_ ?_)
      | (with_reducible refine LeO.bind ?_ (fun _ => ?_))
      | exact ih0 _ _ _ _
      | exact ih1 _ _ _ _ _
      | exact ih2 _ _ _ _
      | exact shuffle_Order.mono _ _ _
      | exact LeO.none _
      | refine LeO.ite ?_ ?_
      | refine LeO.bind ?_ (fun _ => ?_)
set_option maxHeartbeats 8000000 in
set_option maxRecDepth 100000 in
theorem shuffle_Apart.calls (k : Nat) (a0 : Int) (a1 : Int) (r1 : Int) (r2 : Int) (w : World) (h : shuffle_Apart.f k a0 a1 = some (r1, r2)) :
    Calls Try.prog 13 #[.int .i64 a0, .int .i64 a1] w fun e w' => e = .returned (.tuple #[.int .i64 r1, .int .i64 r2]) ∧ Below w.heap.size w w' := by
  have HB := Aside0.mk (Below.refl w.heap.size w)
  have H : ((shuffle_Order.f k a0 a1).bind fun bt116 => (if bt116.2 = 0 then (shuffle_Apart.j0 k a0 bt116.1 bt116.2 (decide (a0 < 2))) else (shuffle_Apart.j0 k a0 bt116.1 bt116.2 true))) = some (r1, r2) := h
  clear h
  replace H := Option.bind_eq_some_iff.mp H
  obtain ⟨⟨t116, t117⟩, A30, H⟩ := H
  replace H : (if t117 = 0 then (shuffle_Apart.j0 k a0 t116 t117 (decide (a0 < 2))) else (shuffle_Apart.j0 k a0 t116 t117 true)) = some (r1, r2) := H
  have A3 := Aside0.mk A30
  clear A30
  have HC4 := Aside0.mk H
  clear H
  go_enter Try.func13, Try.ntmps13
  go_upto_region 2 with (first | (go_at_call 11; (with_reducible refine (shuffle_Order.calls k a0 a1 t116 t117 _ A3.out).mono ?_); rintro e w5 ⟨v118, rfl, ho0, hb⟩; have n0_ := Aside0.mk (Kd.R_lower ho0 (below_size (by repeat (first | (with_reducible first | exact HB.out | apply below_alloc | apply pw_below_drewN | apply below_drew1) | exact HB.out)))); have n1_ := Aside0.mk (below_step (by repeat (first | (with_reducible first | exact HB.out | apply below_alloc | apply pw_below_drewN | apply below_drew1) | exact HB.out)) hb); clear HB; have HO119 := n0_; have HB := n1_; clear n0_ n1_; (try clear hb); (try clear hb2); (try clear hk); (try clear hi); (try clear ho0)))
  repeat (go_quiet (first | (go_at_call 11; (with_reducible refine (shuffle_Order.calls k a0 a1 t116 t117 _ A3.out).mono ?_); rintro e w5 ⟨v118, rfl, ho0, hb⟩; have n0_ := Aside0.mk (Kd.R_lower ho0 (below_size (by repeat (first | (with_reducible first | exact HB.out | apply below_alloc | apply pw_below_drewN | apply below_drew1) | exact HB.out)))); have n1_ := Aside0.mk (below_step (by repeat (first | (with_reducible first | exact HB.out | apply below_alloc | apply pw_below_drewN | apply below_drew1) | exact HB.out)) hb); clear HB; have HO119 := n0_; have HB := n1_; clear n0_ n1_; (try clear hb); (try clear hb2); (try clear hk); (try clear hi); (try clear ho0))); go_upto_region 2 with (first | (go_at_call 11; (with_reducible refine (shuffle_Order.calls k a0 a1 t116 t117 _ A3.out).mono ?_); rintro e w5 ⟨v118, rfl, ho0, hb⟩; have n0_ := Aside0.mk (Kd.R_lower ho0 (below_size (by repeat (first | (with_reducible first | exact HB.out | apply below_alloc | apply pw_below_drewN | apply below_drew1) | exact HB.out)))); have n1_ := Aside0.mk (below_step (by repeat (first | (with_reducible first | exact HB.out | apply below_alloc | apply pw_below_drewN | apply below_drew1) | exact HB.out)) hb); clear HB; have HO119 := n0_; have HB := n1_; clear n0_ n1_; (try clear hb); (try clear hb2); (try clear hk); (try clear hi); (try clear ho0))))
  (try simp only [Act.put, List.setIfInBounds_toArray, List.set_cons_zero, List.set_cons_succ])
  go_cut [25] (fun v25 wc => ∃ (kq : Nat) (x25_3 : Bool), v25 = .bool x25_3 ∧ Aside0 (shuffle_Apart.j0 kq a0 t116 t117 x25_3 = some (r1, r2)) ∧ Aside0 (kq ≤ k) ∧ Aside0 (Kd.R (Kd.int .i64) 3 wc w.heap.size (fun _ => True) v118 t116) ∧ Aside0 (Below w.heap.size w wc))
  case first =>
    have H := HC4.out
    clear HC4
    by_cases c6 : t117 = 0
    · rw [if_pos c6] at H
      have c6b0 : (t117 == 0) = true := beq_iff_eq.mpr c6
      have c6b1 : (t117 != 0) = false := bne_eq_false_iff_eq.mpr c6
      clear c6
      (first | rw [c6b0] | (simp only [i64_w, i32_w]; rw [c6b0]) | skip)
      have H' := Aside0.mk H
      clear H
      go_wp2
      repeat (go_quiet (fail); try go_wp2)
      go_meet
      case rel => exact ⟨_, (decide (a0 < 2)), (by first | rfl | (simp; done) | (simp [*]; done)), H', ⟨by first | omega | exact Nat.le_refl _⟩, ⟨by (with_reducible repeat (first | apply Kd.R_alloc | apply Kd.R_drewN | apply Kd.R_drew)); exact HO119.out⟩, ⟨by repeat (first | (with_reducible first | exact HB.out | apply below_alloc | apply pw_below_drewN | apply below_drew1) | exact HB.out)⟩⟩
    · rw [if_neg c6] at H
      have c6b0 : (t117 == 0) = false := beq_eq_false_iff_ne.mpr c6
      have c6b1 : (t117 != 0) = true := bne_iff_ne.mpr c6
      (first | rw [c6b0] | (simp only [i64_w, i32_w]; rw [c6b0]) | skip)
      have H' := Aside0.mk H
      clear H
      go_wp2
      repeat (go_quiet (fail); try go_wp2)
      go_meet
      case rel => exact ⟨_, (true), (by first | rfl | (simp; done) | (simp [*]; done)), H', ⟨by first | omega | exact Nat.le_refl _⟩, ⟨by (with_reducible repeat (first | apply Kd.R_alloc | apply Kd.R_drewN | apply Kd.R_drew)); exact HO119.out⟩, ⟨by repeat (first | (with_reducible first | exact HB.out | apply below_alloc | apply pw_below_drewN | apply below_drew1) | exact HB.out)⟩⟩
  case rest =>
    clear HC4
    try clear c1
    try clear p2
    try clear c6
    try clear c6b0
    try clear c6b1
    obtain ⟨kq, x25_3, rfl, HA, HJ3, HO_6, HB⟩ := hcut
    cases kq with
    | zero => exact absurd HA.out (by simp [shuffle_Apart.j0])
    | succ kj3 =>
      have H := HA.out
      clear HA
      simp only [shuffle_Apart.j0] at H
      by_cases c7 : x25_3 = true
      · subst c7
        have H1 : (some (0, t117)) = some (r1, r2) := by rw [if_pos rfl] at H; exact H
        clear H
        have H := H1
        clear H1
        simp only [Option.some.injEq, Prod.mk.injEq] at H
        obtain ⟨rfl, rfl⟩ := H
        go_wp2
        repeat (go_quiet (fail); try go_wp2)
        go_ret2
        exact ⟨by first | rfl | (simp [errW_none, errW_some] <;> rfl) | (simp [*, errW_none, errW_some] <;> rfl), by repeat (first | (with_reducible first | exact HB.out | apply below_alloc | apply pw_below_drewN | apply below_drew1) | exact HB.out)⟩
      · replace c7 := Bool.eq_false_iff.mpr c7
        subst c7
        have H1 : (if 0 ≤ a0 then (if (a0 : Int).toNat ≤ 35184372088832 then (shuffle_Apart.l0 kj3 a0 (List.replicate (a0 : Int).toNat 0) t116 (t116.length : Int) 0) else (none)) else (none)) = some (r1, r2) := by rw [if_neg (show ¬ (false = true) by decide)] at H; exact H
        clear H
        have H := H1
        clear H1
        by_cases c8 : 0 ≤ a0
        · rw [if_pos c8] at H
          have c8b0 := eq_true c8
          have c8b1 : decide (0 ≤ a0) = true := decide_eq_true c8
          clear c8
          by_cases c9 : (a0 : Int).toNat ≤ 35184372088832
          · rw [if_pos c9] at H
            have c9b0 := eq_true c9
            have c9b1 : decide ((a0 : Int).toNat ≤ 35184372088832) = true := decide_eq_true c9
            clear c9
            obtain ⟨y120, hy120⟩ : ∃ y_ : List Int, y_ = (List.replicate (a0 : Int).toNat 0) := ⟨_, rfl⟩
            replace H : (shuffle_Apart.l0 kj3 a0 y120 t116 (t116.length : Int) 0) = some (r1, r2) := by first | (rw [hy120]; with_reducible exact H) | (have H2_ := (Option.bind_some _ _).symm.trans H; rw [hy120]; with_reducible exact H2_) | (have H2_ := (Option.bind_some _ _).symm.trans H; with_reducible exact H2_) | with_reducible exact H | (rw [hy120]; exact H) | exact H
            have Ny120 := Aside0.mk hy120
            clear hy120
            have H' := Aside0.mk H
            clear H
            go_wp2_with (first | ((with_reducible refine gate_dst (N := 28) rfl ?_); refine Kd.R_make (Kd.int .i64) _ 3 rfl (N := 28) rfl 31 _ _ rfl a0 rfl rfl Try.underlying31 (.int .i64 0) 8 info3 rfl (by decide) (by omega) 0 (ok := fun _ => True) (okp := fun _ => True) rfl (fun _ hk => hk) trivial (of_decide_eq_true (by first | (with_reducible assumption) | assumption)) (Nat.le_trans (Nat.mul_le_mul_right _ (of_decide_eq_true (by first | (with_reducible assumption) | assumption) : a0.toNat ≤ 35184372088832)) (by omega)) (Below.refl _ _) (Nat.le_refl _) ?_; intro v121 w10 ho11 hb hg_ hnew_; clear hg_ hnew_; (first | rw [← Ny120.out] at ho11 | (simp only [Int.reduceToNat] at ho11; rw [← Ny120.out] at ho11)); have n0_ := Aside0.mk (Kd.R_elder' (by (with_reducible repeat (first | apply Kd.R_alloc | apply Kd.R_drewN | apply Kd.R_drew)); exact HO_6.out) (Kd.R_base ho11) hb); have n1_ := Aside0.mk (Kd.R_lower (Kd.R_new' ho11 (Kd.R_lt (by (with_reducible repeat (first | apply Kd.R_alloc | apply Kd.R_drewN | apply Kd.R_drew)); exact HO_6.out))) (below_size (by repeat (first | (with_reducible first | exact HB.out | apply below_alloc | apply pw_below_drewN | apply below_drew1) | exact HB.out)))); have n2_ := Aside0.mk (below_step (by repeat (first | (with_reducible first | exact HB.out | apply below_alloc | apply pw_below_drewN | apply below_drew1) | exact HB.out)) hb); clear HO_6; clear HB; have HO_6 := n0_; have HO122 := n1_; have HB := n2_; clear n0_ n1_ n2_; clear hb ho11; obtain ⟨Ao12, co12, eo12⟩ := Kd.R_slice HO_6.out; subst eo12))
            repeat (go_quiet (first | ((with_reducible refine gate_dst (N := 28) rfl ?_); refine Kd.R_make (Kd.int .i64) _ 3 rfl (N := 28) rfl 31 _ _ rfl a0 rfl rfl Try.underlying31 (.int .i64 0) 8 info3 rfl (by decide) (by omega) 0 (ok := fun _ => True) (okp := fun _ => True) rfl (fun _ hk => hk) trivial (of_decide_eq_true (by first | (with_reducible assumption) | assumption)) (Nat.le_trans (Nat.mul_le_mul_right _ (of_decide_eq_true (by first | (with_reducible assumption) | assumption) : a0.toNat ≤ 35184372088832)) (by omega)) (Below.refl _ _) (Nat.le_refl _) ?_; intro v121 w10 ho11 hb hg_ hnew_; clear hg_ hnew_; (first | rw [← Ny120.out] at ho11 | (simp only [Int.reduceToNat] at ho11; rw [← Ny120.out] at ho11)); have n0_ := Aside0.mk (Kd.R_elder' (by (with_reducible repeat (first | apply Kd.R_alloc | apply Kd.R_drewN | apply Kd.R_drew)); exact HO_6.out) (Kd.R_base ho11) hb); have n1_ := Aside0.mk (Kd.R_lower (Kd.R_new' ho11 (Kd.R_lt (by (with_reducible repeat (first | apply Kd.R_alloc | apply Kd.R_drewN | apply Kd.R_drew)); exact HO_6.out))) (below_size (by repeat (first | (with_reducible first | exact HB.out | apply below_alloc | apply pw_below_drewN | apply below_drew1) | exact HB.out)))); have n2_ := Aside0.mk (below_step (by repeat (first | (with_reducible first | exact HB.out | apply below_alloc | apply pw_below_drewN | apply below_drew1) | exact HB.out)) hb); clear HO_6; clear HB; have HO_6 := n0_; have HO122 := n1_; have HB := n2_; clear n0_ n1_ n2_; clear hb ho11; obtain ⟨Ao12, co12, eo12⟩ := Kd.R_slice HO_6.out; subst eo12)); try go_wp2_with (first | ((with_reducible refine gate_dst (N := 28) rfl ?_); refine Kd.R_make (Kd.int .i64) _ 3 rfl (N := 28) rfl 31 _ _ rfl a0 rfl rfl Try.underlying31 (.int .i64 0) 8 info3 rfl (by decide) (by omega) 0 (ok := fun _ => True) (okp := fun _ => True) rfl (fun _ hk => hk) trivial (of_decide_eq_true (by first | (with_reducible assumption) | assumption)) (Nat.le_trans (Nat.mul_le_mul_right _ (of_decide_eq_true (by first | (with_reducible assumption) | assumption) : a0.toNat ≤ 35184372088832)) (by omega)) (Below.refl _ _) (Nat.le_refl _) ?_; intro v121 w10 ho11 hb hg_ hnew_; clear hg_ hnew_; (first | rw [← Ny120.out] at ho11 | (simp only [Int.reduceToNat] at ho11; rw [← Ny120.out] at ho11)); have n0_ := Aside0.mk (Kd.R_elder' (by (with_reducible repeat (first | apply Kd.R_alloc | apply Kd.R_drewN | apply Kd.R_drew)); exact HO_6.out) (Kd.R_base ho11) hb); have n1_ := Aside0.mk (Kd.R_lower (Kd.R_new' ho11 (Kd.R_lt (by (with_reducible repeat (first | apply Kd.R_alloc | apply Kd.R_drewN | apply Kd.R_drew)); exact HO_6.out))) (below_size (by repeat (first | (with_reducible first | exact HB.out | apply below_alloc | apply pw_below_drewN | apply below_drew1) | exact HB.out)))); have n2_ := Aside0.mk (below_step (by repeat (first | (with_reducible first | exact HB.out | apply below_alloc | apply pw_below_drewN | apply below_drew1) | exact HB.out)) hb); clear HO_6; clear HB; have HO_6 := n0_; have HO122 := n1_; have HB := n2_; clear n0_ n1_ n2_; clear hb ho11; obtain ⟨Ao12, co12, eo12⟩ := Kd.R_slice HO_6.out; subst eo12)))
            go_loopg [31] kj3 (fun kq v31 w' => ∃ (x8_2 : List Int) (x31_2 : Int), v31 = .int .i64 x31_2 ∧ Aside0 (shuffle_Apart.l0 kq a0 x8_2 t116 (t116.length : Int) x31_2 = some (r1, r2)) ∧ Aside0 (kq ≤ kj3) ∧ Aside0 (Kd.R (Kd.int .i64) 3 w' w.heap.size (fun k_ => some k_ ≠ ((.slice Ao12 t116.length co12) : Value).ownBlock) v121 x8_2) ∧ Aside0 (Kd.R (Kd.int .i64) 3 w' w.heap.size (fun k_ => some k_ ≠ (v121 : Value).ownBlock) (.slice Ao12 t116.length co12) t116) ∧ Aside0 (Below w.heap.size w w'))
            case atStart => exact ⟨(y120), (0), (by first | rfl | (simp; done) | (simp [*]; done)), H', ⟨Nat.le_refl _⟩, ⟨by (with_reducible repeat (first | apply Kd.R_alloc | apply Kd.R_drewN | apply Kd.R_drew)); exact Kd.R_mono HO122.out (fun _ hk => hk.2)⟩, ⟨by (with_reducible repeat (first | apply Kd.R_alloc | apply Kd.R_drewN | apply Kd.R_drew)); exact Kd.R_mono HO_6.out (fun _ hk => hk.2)⟩, ⟨by repeat (first | (with_reducible first | exact HB.out | apply below_alloc | apply pw_below_drewN | apply below_drew1) | exact HB.out)⟩⟩
            case round =>
              clear H'
              try clear c1
              try clear p2
              try clear c6
              try clear c6b0
              try clear c6b1
              try clear c7
              try clear c8
              try clear c8b0
              try clear c8b1
              try clear c9
              try clear c9b0
              try clear c9b1
              try clear p2
              obtain ⟨x8_2, x31_2, rfl, HA, HK2, HO_8, HO_29, HB⟩ := hrel
              cases gk with
              | zero => exact absurd HA.out (by simp [shuffle_Apart.l0])
              | succ k2 =>
                have H := HA.out
                clear HA
                simp only [shuffle_Apart.l0] at H
                by_cases c13 : x31_2 < (t116.length : Int)
                · rw [if_pos c13] at H
                  have c13b0 : decide (x31_2 < (t116.length : Int)) = true := decide_eq_true c13
                  clear c13
                  by_cases c14 : 0 ≤ x31_2
                  · rw [if_pos c14] at H
                    have c14b0 : decide (0 ≤ x31_2) = true := decide_eq_true c14
                    clear c14
                    by_cases c15 : x31_2 < (t116.length : Int)
                    · rw [if_pos c15] at H
                      have c15b0 : decide (x31_2 < (t116.length : Int)) = true := decide_eq_true c15
                      clear c15
                      by_cases c16 : 0 ≤ (rd t116 x31_2)
                      · rw [if_pos c16] at H
                        have c16b0 : decide (0 ≤ (rd t116 x31_2)) = true := decide_eq_true c16
                        clear c16
                        by_cases c17 : (rd t116 x31_2) < (x8_2.length : Int)
                        · rw [if_pos c17] at H
                          have c17b0 : decide ((rd t116 x31_2) < (x8_2.length : Int)) = true := decide_eq_true c17
                          clear c17
                          obtain ⟨y124, hy124⟩ : ∃ y_ : List Int, y_ = (x8_2.set ((rd t116 x31_2) : Int).toNat x31_2) := ⟨_, rfl⟩
                          replace H : (shuffle_Apart.l0 k2 a0 y124 t116 (t116.length : Int) (wrap64 (x31_2 + 1))) = some (r1, r2) := by first | (rw [hy124]; with_reducible exact H) | (have H2_ := (Option.bind_some _ _).symm.trans H; rw [hy124]; with_reducible exact H2_) | (have H2_ := (Option.bind_some _ _).symm.trans H; with_reducible exact H2_) | with_reducible exact H | (rw [hy124]; exact H) | exact H
                          have Ny124 := Aside0.mk hy124
                          clear hy124
                          have H' := Aside0.mk H
                          clear H
                          have p123 : 0 ≤ (x31_2 : Int) := of_decide_eq_true (by first | (with_reducible assumption) | assumption)
                          have q123 : x31_2 < (t116.length : Int) := of_decide_eq_true (by first | (with_reducible assumption) | assumption)
                          obtain ⟨ad123, e123, hx123_0⟩ := Kd.at_int (Kd.R_reads' HO_29.out).2.2 x31_2 p123 q123
                          cases e123
                          replace p123 := eq_true p123
                          replace q123 := eq_true q123
                          have p18 : 0 ≤ ((rd t116 x31_2) : Int) := of_decide_eq_true (by first | (with_reducible assumption) | assumption)
                          have q18 : ((rd t116 x31_2) : Int) < ((x8_2.length : Int) : Int) := of_decide_eq_true (by first | (with_reducible assumption) | assumption)
                          obtain ⟨go18, co18, eo18, gb18, gl18, cl18, HG18⟩ := Kd.R_form HO_8.out (by omega)
                          (first | cases eo18 | (injection eo18 with ea_ en_ ec_; (first | subst ea_ | (injection ea_ with ea_; subst ea_)); subst ec_; clear en_))
                          have GB18 := Aside0.mk gb18
                          have GG18 := Aside0.mk HG18
                          clear gb18 gl18 HG18
                          obtain ⟨hx18_0, hf18_0⟩ := Kd.R_celln 0 HO_8.out ((rd t116 x31_2) : Int) p18 q18
                          replace p18 := eq_true p18
                          replace q18 := eq_true q18
                          have HP19 := Kd.R_putg HO_8.out ((rd t116 x31_2) : Int) x31_2
                          go_wp2_with (first | ((with_reducible refine gate_store (t := 3) (p := 39) rfl ?_); (try (rw [drewN_self wr]; generalize hq_ : World.drewN wr _ = wr; have n0_ := Aside0.mk (Kd.R_at hq_ HO_8.out); have n1_ := Aside0.mk (Kd.R_at hq_ HO_29.out); have n2_ := Aside0.mk (below_at hq_ HB.out); clear hq_ HO_8 HO_29 HB; have HO_8 := n0_; have HO_29 := n1_; have HB := n2_; clear n0_ n1_ n2_; (try (have HP19 := Kd.R_putg HO_8.out ((rd t116 x31_2) : Int) x31_2)))); refine store_event (t := 3) (p := 39) (v := ?vo_w20) (w1 := (wr.setCell ⟨go18, ((rd t116 x31_2) : Int).toNat, none⟩ (.int .i64 x31_2))) ?hg ?ho ?hn ?hr ?_; (case ho => rfl); (case hg => rfl); (case hn => rfl); (case hr => first | (go_simp; done) | (go_simp; rfl)); intro w20 hw; have hg : wr.grownBy w20 (some go18) := (by rw [hw]; exact HP19.2); have hp_ : Kd.R (Kd.int .i64) 3 w20 w.heap.size (fun k_ => some k_ ≠ (.slice (some ad123) t116.length co12 : Value).ownBlock) (.slice (some ⟨go18, 0, none⟩) x8_2.length co18) y124 := (by rw [hw, Ny124.out]; exact HP19.1); clear HP19; have n0_ := Aside0.mk (hp_); have n1_ := Aside0.mk (Kd.R_after (v := (.slice (some ⟨go18, 0, none⟩) x8_2.length co18)) (v1 := (.slice (some ⟨go18, 0, none⟩) x8_2.length co18)) (ok := (fun _ => True)) (by (with_reducible repeat (first | apply Kd.R_alloc | apply Kd.R_drewN | apply Kd.R_drew)); exact Kd.R_mono HO_29.out (fun _ hk => ⟨trivial, hk⟩)) hg (.inl rfl)); have n2_ := Aside0.mk ((by rw [hw]; exact below_set (HB.out) GB18.out : Below w.heap.size w w20)); clear HO_8; clear HO_29; clear HB; have HO_8 := n0_; have HO_29 := n1_; have HB := n2_; clear n0_ n1_ n2_; clear hg hw hp_))
                          repeat (go_quiet (first | ((with_reducible refine gate_store (t := 3) (p := 39) rfl ?_); (try (rw [drewN_self wr]; generalize hq_ : World.drewN wr _ = wr; have n0_ := Aside0.mk (Kd.R_at hq_ HO_8.out); have n1_ := Aside0.mk (Kd.R_at hq_ HO_29.out); have n2_ := Aside0.mk (below_at hq_ HB.out); clear hq_ HO_8 HO_29 HB; have HO_8 := n0_; have HO_29 := n1_; have HB := n2_; clear n0_ n1_ n2_; (try (have HP19 := Kd.R_putg HO_8.out ((rd t116 x31_2) : Int) x31_2)))); refine store_event (t := 3) (p := 39) (v := ?vo_w20) (w1 := (wr.setCell ⟨go18, ((rd t116 x31_2) : Int).toNat, none⟩ (.int .i64 x31_2))) ?hg ?ho ?hn ?hr ?_; (case ho => rfl); (case hg => rfl); (case hn => rfl); (case hr => first | (go_simp; done) | (go_simp; rfl)); intro w20 hw; have hg : wr.grownBy w20 (some go18) := (by rw [hw]; exact HP19.2); have hp_ : Kd.R (Kd.int .i64) 3 w20 w.heap.size (fun k_ => some k_ ≠ (.slice (some ad123) t116.length co12 : Value).ownBlock) (.slice (some ⟨go18, 0, none⟩) x8_2.length co18) y124 := (by rw [hw, Ny124.out]; exact HP19.1); clear HP19; have n0_ := Aside0.mk (hp_); have n1_ := Aside0.mk (Kd.R_after (v := (.slice (some ⟨go18, 0, none⟩) x8_2.length co18)) (v1 := (.slice (some ⟨go18, 0, none⟩) x8_2.length co18)) (ok := (fun _ => True)) (by (with_reducible repeat (first | apply Kd.R_alloc | apply Kd.R_drewN | apply Kd.R_drew)); exact Kd.R_mono HO_29.out (fun _ hk => ⟨trivial, hk⟩)) hg (.inl rfl)); have n2_ := Aside0.mk ((by rw [hw]; exact below_set (HB.out) GB18.out : Below w.heap.size w w20)); clear HO_8; clear HO_29; clear HB; have HO_8 := n0_; have HO_29 := n1_; have HB := n2_; clear n0_ n1_ n2_; clear hg hw hp_)); try go_wp2_with (first | ((with_reducible refine gate_store (t := 3) (p := 39) rfl ?_); (try (rw [drewN_self wr]; generalize hq_ : World.drewN wr _ = wr; have n0_ := Aside0.mk (Kd.R_at hq_ HO_8.out); have n1_ := Aside0.mk (Kd.R_at hq_ HO_29.out); have n2_ := Aside0.mk (below_at hq_ HB.out); clear hq_ HO_8 HO_29 HB; have HO_8 := n0_; have HO_29 := n1_; have HB := n2_; clear n0_ n1_ n2_; (try (have HP19 := Kd.R_putg HO_8.out ((rd t116 x31_2) : Int) x31_2)))); refine store_event (t := 3) (p := 39) (v := ?vo_w20) (w1 := (wr.setCell ⟨go18, ((rd t116 x31_2) : Int).toNat, none⟩ (.int .i64 x31_2))) ?hg ?ho ?hn ?hr ?_; (case ho => rfl); (case hg => rfl); (case hn => rfl); (case hr => first | (go_simp; done) | (go_simp; rfl)); intro w20 hw; have hg : wr.grownBy w20 (some go18) := (by rw [hw]; exact HP19.2); have hp_ : Kd.R (Kd.int .i64) 3 w20 w.heap.size (fun k_ => some k_ ≠ (.slice (some ad123) t116.length co12 : Value).ownBlock) (.slice (some ⟨go18, 0, none⟩) x8_2.length co18) y124 := (by rw [hw, Ny124.out]; exact HP19.1); clear HP19; have n0_ := Aside0.mk (hp_); have n1_ := Aside0.mk (Kd.R_after (v := (.slice (some ⟨go18, 0, none⟩) x8_2.length co18)) (v1 := (.slice (some ⟨go18, 0, none⟩) x8_2.length co18)) (ok := (fun _ => True)) (by (with_reducible repeat (first | apply Kd.R_alloc | apply Kd.R_drewN | apply Kd.R_drew)); exact Kd.R_mono HO_29.out (fun _ hk => ⟨trivial, hk⟩)) hg (.inl rfl)); have n2_ := Aside0.mk ((by rw [hw]; exact below_set (HB.out) GB18.out : Below w.heap.size w w20)); clear HO_8; clear HO_29; clear HB; have HO_8 := n0_; have HO_29 := n1_; have HB := n2_; clear n0_ n1_ n2_; clear hg hw hp_)))
                          go_roundg k2
                          case measure => have := HJ3.out; have := HK2.out; omega
                          case rel => exact ⟨(y124), (wrap64 (x31_2 + 1)), (by first | rfl | (simp; done) | (simp [*]; done)), H', ⟨by have := HJ3.out; have := HK2.out; omega⟩, ⟨by (with_reducible repeat (first | apply Kd.R_alloc | apply Kd.R_drewN | apply Kd.R_drew)); exact HO_8.out⟩, ⟨by (with_reducible repeat (first | apply Kd.R_alloc | apply Kd.R_drewN | apply Kd.R_drew)); exact Kd.R_mono HO_29.out (fun _ hk => hk.2)⟩, ⟨by repeat (first | (with_reducible first | exact HB.out | apply below_alloc | apply pw_below_drewN | apply below_drew1) | exact HB.out)⟩⟩
                        · rw [if_neg c17] at H
                          exact absurd H (by simp)
                      · rw [if_neg c16] at H
                        exact absurd H (by simp)
                    · rw [if_neg c15] at H
                      exact absurd H (by simp)
                  · rw [if_neg c14] at H
                    exact absurd H (by simp)
                · rw [if_neg c13] at H
                  have c13b0 : decide (x31_2 < (t116.length : Int)) = false := decide_eq_false c13
                  clear c13
                  have H' := Aside0.mk H
                  clear H
                  go_wp2
                  repeat (go_quiet (fail); try go_wp2)
                  go_loopg [11, 44] k2 (fun kq v11 v44 w' => ∃ (x11_3 : Int) (x44_3 : Int), v11 = .int .i64 x11_3 ∧ v44 = .int .i64 x44_3 ∧ Aside0 (shuffle_Apart.l1 kq x8_2 x11_3 (wrap64 (a0 - 1)) x44_3 = some (r1, r2)) ∧ Aside0 (kq ≤ k2) ∧ Aside0 (Kd.R (Kd.int .i64) 3 w' w.heap.size (fun _ => True) v121 x8_2) ∧ Aside0 (Below w.heap.size w w'))
                  case atStart => exact ⟨(a0), (0), (by first | rfl | (simp; done) | (simp [*]; done)), (by first | rfl | (simp; done) | (simp [*]; done)), H', ⟨Nat.le_refl _⟩, ⟨by (with_reducible repeat (first | apply Kd.R_alloc | apply Kd.R_drewN | apply Kd.R_drew)); exact Kd.R_mono HO_8.out (fun _ hk => trivial)⟩, ⟨by repeat (first | (with_reducible first | exact HB.out | apply below_alloc | apply pw_below_drewN | apply below_drew1) | exact HB.out)⟩⟩
                  case round =>
                    clear H'
                    try clear c1
                    try clear p1
                    try clear q1
                    try clear hx1
                    try clear p2
                    try clear c6
                    try clear c6b0
                    try clear c6b1
                    try clear p6
                    try clear c7
                    try clear c8
                    try clear c8b0
                    try clear c8b1
                    try clear c9
                    try clear c9b0
                    try clear c9b1
                    try clear p12
                    try clear q12
                    try clear hx12
                    try clear c13
                    try clear c13b0
                    try clear c14
                    try clear c14b0
                    try clear c15
                    try clear c15b0
                    try clear c16
                    try clear c16b0
                    try clear c17
                    try clear c17b0
                    try clear p18
                    try clear q18
                    try clear hx18
                    try clear hf18
                    try clear hx123_0
                    try clear hx18_0
                    try clear p123
                    try clear p18
                    try clear p2
                    try clear q123
                    try clear q18
                    obtain ⟨x11_3, x44_3, rfl, rfl, HA, HK3, HO_8, HB⟩ := hrel
                    cases gk with
                    | zero => exact absurd HA.out (by simp [shuffle_Apart.l1])
                    | succ k3 =>
                      have H := HA.out
                      clear HA
                      simp only [shuffle_Apart.l1] at H
                      by_cases c21 : x44_3 < (wrap64 (a0 - 1))
                      · rw [if_pos c21] at H
                        have c21b0 : decide (x44_3 < (wrap64 (a0 - 1))) = true := decide_eq_true c21
                        clear c21
                        obtain ⟨ji22, hji22⟩ : ∃ j_ : Int, (wrap64 (x44_3 + 1)) = j_ := ⟨_, rfl⟩
                        replace H : (if 0 ≤ (ji22) then (if (ji22) < (x8_2.length : Int) then (if 0 ≤ x44_3 then (if x44_3 < (x8_2.length : Int) then (shuffle_Apart.l1 k3 x8_2 (mn x11_3 (mx (wrap64 ((rd x8_2 (ji22)) - (rd x8_2 x44_3))) (wrap64 (-(wrap64 ((rd x8_2 (ji22)) - (rd x8_2 x44_3))))))) (wrap64 (a0 - 1)) ji22) else (none)) else (none)) else (none)) else (none)) = some (r1, r2) := by first | (rw [hji22] at H; exact H) | (simp only [hji22] at H ⊢; exact H)
                        have hji22w : (IntKind.i64.wrap (x44_3 + 1)) = ji22 := (i64_w _).trans hji22
                        by_cases c23 : 0 ≤ (ji22)
                        · rw [if_pos c23] at H
                          have c23b0 : decide (0 ≤ (ji22)) = true := decide_eq_true c23
                          clear c23
                          by_cases c24 : (ji22) < (x8_2.length : Int)
                          · rw [if_pos c24] at H
                            have c24b0 : decide ((ji22) < (x8_2.length : Int)) = true := decide_eq_true c24
                            clear c24
                            by_cases c25 : 0 ≤ x44_3
                            · rw [if_pos c25] at H
                              have c25b0 : decide (0 ≤ x44_3) = true := decide_eq_true c25
                              clear c25
                              by_cases c26 : x44_3 < (x8_2.length : Int)
                              · rw [if_pos c26] at H
                                have c26b0 : decide (x44_3 < (x8_2.length : Int)) = true := decide_eq_true c26
                                clear c26
                                obtain ⟨ji27, hji27⟩ : ∃ j_ : Int, (mx (wrap64 ((rd x8_2 (ji22)) - (rd x8_2 x44_3))) (wrap64 (-(wrap64 ((rd x8_2 (ji22)) - (rd x8_2 x44_3)))))) = j_ := ⟨_, rfl⟩
                                replace H : (shuffle_Apart.l1 k3 x8_2 (mn x11_3 (ji27)) (wrap64 (a0 - 1)) ji22) = some (r1, r2) := by first | (rw [hji27] at H; exact H) | (simp only [hji27] at H ⊢; exact H)
                                have hji27_ : (if (wrap64 ((rd x8_2 (ji22)) - (rd x8_2 x44_3))) < (wrap64 (-(wrap64 ((rd x8_2 (ji22)) - (rd x8_2 x44_3))))) then (wrap64 (-(wrap64 ((rd x8_2 (ji22)) - (rd x8_2 x44_3))))) else (wrap64 ((rd x8_2 (ji22)) - (rd x8_2 x44_3)))) = ji27 := hji27
                                obtain ⟨ji28, hji28⟩ : ∃ j_ : Int, (mn x11_3 (ji27)) = j_ := ⟨_, rfl⟩
                                replace H : (shuffle_Apart.l1 k3 x8_2 ji28 (wrap64 (a0 - 1)) ji22) = some (r1, r2) := by first | (rw [hji28] at H; exact H) | (simp only [hji28] at H ⊢; exact H)
                                have hji28_ : (if (ji27) < x11_3 then (ji27) else x11_3) = ji28 := hji28
                                have H' := Aside0.mk H
                                clear H
                                obtain ⟨Ao29, co29, eo29⟩ := Kd.R_slice HO_8.out
                                subst eo29
                                have p125 : 0 ≤ ((ji22) : Int) := of_decide_eq_true (by first | (with_reducible assumption) | assumption)
                                have q125 : (ji22) < (x8_2.length : Int) := of_decide_eq_true (by first | (with_reducible assumption) | assumption)
                                obtain ⟨ad125, e125, hx125_0⟩ := Kd.at_int (Kd.R_reads' HO_8.out).2.2 (ji22) p125 q125
                                cases e125
                                replace p125 := eq_true p125
                                replace q125 := eq_true q125
                                have p126 : 0 ≤ (x44_3 : Int) := of_decide_eq_true (by first | (with_reducible assumption) | assumption)
                                have q126 : x44_3 < (x8_2.length : Int) := of_decide_eq_true (by first | (with_reducible assumption) | assumption)
                                obtain ⟨ad126, e126, hx126_0⟩ := Kd.at_int (Kd.R_reads' HO_8.out).2.2 x44_3 p126 q126
                                obtain rfl : ad125 = ad126 := (by injection e126)
                                replace p126 := eq_true p126
                                replace q126 := eq_true q126
                                go_wp2
                                repeat (go_quiet (fail); try go_wp2)
                                go_roundg k3
                                case measure => have := HJ3.out; have := HK2.out; have := HK3.out; omega
                                case rel => exact ⟨(ji28), (ji22), (by first | rfl | (simp; done) | (simp only [← hji28] <;> (first | rfl | simp)) | (simp [*]; done)), (by first | rfl | (simp; done) | (simp only [← hji22] <;> (first | rfl | simp)) | (simp [*]; done)), H', ⟨by have := HJ3.out; have := HK2.out; have := HK3.out; omega⟩, ⟨by (with_reducible repeat (first | apply Kd.R_alloc | apply Kd.R_drewN | apply Kd.R_drew)); exact HO_8.out⟩, ⟨by repeat (first | (with_reducible first | exact HB.out | apply below_alloc | apply pw_below_drewN | apply below_drew1) | exact HB.out)⟩⟩
                              · rw [if_neg c26] at H
                                exact absurd H (by simp)
                            · rw [if_neg c25] at H
                              exact absurd H (by simp)
                          · rw [if_neg c24] at H
                            exact absurd H (by simp)
                        · rw [if_neg c23] at H
                          exact absurd H (by simp)
                      · rw [if_neg c21] at H
                        have c21b0 : decide (x44_3 < (wrap64 (a0 - 1))) = false := decide_eq_false c21
                        clear c21
                        simp only [Option.some.injEq, Prod.mk.injEq] at H
                        obtain ⟨rfl, rfl⟩ := H
                        go_wp2
                        repeat (go_quiet (fail); try go_wp2)
                        go_ret2
                        exact ⟨by first | rfl | (simp [errW_none, errW_some] <;> rfl) | (simp [*, errW_none, errW_some] <;> rfl), by repeat (first | (with_reducible first | exact HB.out | apply below_alloc | apply pw_below_drewN | apply below_drew1) | exact HB.out)⟩
          · rw [if_neg c9] at H
            exact absurd H (by simp)
        · rw [if_neg c8] at H
          exact absurd H (by simp)

/-! ### shuttleref33_Right: function 14 -/
def shuttleref33_Right.f (a0 : Int) (a1 : Int) : Option (Bool) := if a0 ≥ 0 then (if a0 ≤ 65536 then (if a1 ≥ 1 then (some (decide (a1 ≤ 64))) else (some false)) else (some false)) else (some false)
set_option maxHeartbeats 8000000 in
set_option maxRecDepth 100000 in
theorem shuttleref33_Right.calls (a0 : Int) (a1 : Int) (r : Bool) (w : World) (h : shuttleref33_Right.f a0 a1 = some r) :
    Calls Try.prog 14 #[.int .i64 a0, .int .i64 a1] w fun e w' => e = .returned (.bool r) ∧ Drawn0 w w' := by
  have H : (if a0 ≥ 0 then (if a0 ≤ 65536 then (if a1 ≥ 1 then (some (decide (a1 ≤ 64))) else (some false)) else (some false)) else (some false)) = some r := h
  clear h
  by_cases c3 : a0 ≥ 0
  · rw [if_pos c3] at H
    have c3b0 : decide (0 ≤ a0) = true := decide_eq_true c3
    clear c3
    by_cases c4 : a0 ≤ 65536
    · rw [if_pos c4] at H
      have c4b0 : decide (a0 ≤ 65536) = true := decide_eq_true c4
      clear c4
      by_cases c5 : a1 ≥ 1
      · rw [if_pos c5] at H
        have c5b0 : decide (1 ≤ a1) = true := decide_eq_true c5
        clear c5
        obtain rfl := Option.some.inj H
        go_enter Try.func14, Try.ntmps14
        go_wp2
        go_ret
        exact ⟨by first | rfl | (simp; done) | (simp [*]; done), by repeat (first | exact Drawn0.refl _ | apply Drawn0.step)⟩
      · rw [if_neg c5] at H
        have c5b0 : decide (1 ≤ a1) = false := decide_eq_false c5
        clear c5
        obtain rfl := Option.some.inj H
        go_enter Try.func14, Try.ntmps14
        go_wp2
        go_ret
        exact ⟨by first | rfl | (simp; done) | (simp [*]; done), by repeat (first | exact Drawn0.refl _ | apply Drawn0.step)⟩
    · rw [if_neg c4] at H
      have c4b0 : decide (a0 ≤ 65536) = false := decide_eq_false c4
      clear c4
      obtain rfl := Option.some.inj H
      go_enter Try.func14, Try.ntmps14
      go_wp2
      go_ret
      exact ⟨by first | rfl | (simp; done) | (simp [*]; done), by repeat (first | exact Drawn0.refl _ | apply Drawn0.step)⟩
  · rw [if_neg c3] at H
    have c3b0 : decide (0 ≤ a0) = false := decide_eq_false c3
    clear c3
    obtain rfl := Option.some.inj H
    go_enter Try.func14, Try.ntmps14
    go_wp2
    go_ret
    exact ⟨by first | rfl | (simp; done) | (simp [*]; done), by repeat (first | exact Drawn0.refl _ | apply Drawn0.step)⟩

end Go.Proofs.Ytdakfabdegiboaa.Q
