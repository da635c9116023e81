/- What divides two polynomials of a degree below 20 is told: it divides both, and what divides their products with a third one is its product with that one (the plain law of the printed function). No condition beside the types' own ranges. -/
import Derived.Test.YtbkeogllicgbaaaDoorQ2
import Derived.Test.YtbkeogllicgbaaaDoorGq
namespace Go.Proofs.YtbkeogllicgbaaaDoor.Pure
open Go.RowKit Go.Proofs.YtbkeogllicgbaaaDoor.Q Go.Proofs.YtbkeogllicgbaaaDoorW.PrintWords Go.Proofs.YtbkeogllicgbaaaDoorW.PrintLast Go.Proofs.YtbkeogllicgbaaaDoorW.PrintMore Gf
set_option linter.unusedVariables false
theorem tmod_nat (a m : Nat) (hm : 0 < m) : Int.tmod (a : Int) (m : Int) = ((a % m : Nat) : Int) := by
  rw [Int.tmod_eq_emod_of_nonneg (by omega)]
  simp
theorem fit20 {u v : Nat} (n m : Nat) (hu : u < 2 ^ n) (hv : v < 2 ^ m) (h : n + m ≤ 60) : fits u v :=
  .inr (.inr (by have := Lib.bitLen_le u n (by omega) hu; have := Lib.bitLen_le v m (by omega) hv; omega))
theorem cl_lt40 {u v : Nat} (hu : u < 2 ^ 20) (hv : v < 2 ^ 20) : cl u v < 18446744073709551616 := cl_lt (by omega) (by omega) (fit20 20 20 hu hv (by omega))
theorem common_zero (k : Nat) (x : Int) (hk : 1 ≤ k) : gf2_Common.l0 k x 0 = some x := by
  obtain ⟨k, rfl⟩ : ∃ m, k = m + 1 := ⟨k - 1, by omega⟩
  rw [gf2_Common.l0, if_pos rfl]
/-- Euclid's way, over two numbers and over their products with a third one, side by side. -/
theorem common_both (c : Nat) (hc0 : c ≠ 0) (hc : c < 2 ^ 20) (d : Nat) : ∀ (k a b : Nat), Lib.bitLen b ≤ d → d + 70 ≤ k → a < 2 ^ 20 → b < 2 ^ 20 →
    ∃ g : Nat, gf2_Common.l0 k (a : Int) (b : Int) = some (g : Int) ∧ gf2_Common.l0 k (cl a c : Nat) (cl b c : Nat) = some ((cl g c : Nat) : Int) ∧ g < 2 ^ 20 ∧ (∃ u, a = cl u g) ∧ (∃ v, b = cl v g) ∧ (g = 0 ↔ a = 0 ∧ b = 0) := by
  induction d with
  | zero =>
    intro k a b hd hk ha hb
    have hb0 : b = 0 := by
      apply Classical.byContradiction
      intro h
      have := (bitLen_len b (by omega)).pos h
      omega
    subst hb0
    rw [cl_zero_left]
    exact ⟨a, common_zero k _ (by omega), common_zero k _ (by omega), ha, ⟨1, (cl_one_left a).symm⟩, ⟨0, (cl_zero_left a).symm⟩, ⟨fun h => ⟨h, rfl⟩, fun h => h.1⟩⟩
  | succ d ih =>
    intro k a b hd hk ha hb
    by_cases hb0 : b = 0
    · subst hb0
      rw [cl_zero_left]
      exact ⟨a, common_zero k _ (by omega), common_zero k _ (by omega), ha, ⟨1, (cl_one_left a).symm⟩, ⟨0, (cl_zero_left a).symm⟩, ⟨fun h => ⟨h, rfl⟩, fun h => h.1⟩⟩
    · obtain ⟨k, rfl⟩ : ∃ m, k = m + 1 := ⟨k - 1, by omega⟩
      have hbc0 := cl_ne_zero b c hb0 hc0
      have hac := cl_lt40 ha hc
      have hbc := cl_lt40 hb hc
      obtain ⟨q, r, h1, h2, h3, h4, h5⟩ := over_f a b k (by omega) (by omega) hb0 (by omega)
      obtain ⟨q', r', g1, g2, g3, g4, g5⟩ := over_f (cl a c) (cl b c) k hac hbc hbc0 (by omega)
      have lb := bitLen_len b (by omega)
      have lb20 : Lib.bitLen b ≤ 20 := Lib.bitLen_le b 20 (by omega) hb
      have hr20 : r < 2 ^ 20 := by
        have := (bitLen_len r h3).1
        have : (2 : Nat) ^ Lib.bitLen r ≤ 2 ^ 20 := Nat.pow_le_pow_right (by omega) (by omega)
        omega
      have e2 : cl q (cl b c) ^^^ cl r c = cl a c := by rw [← cl_assoc, ← cl_add_left, h5]
      have lc := bitLen_len c (by omega)
      have lbc := (cl_len b _ lb (lb.pos hb0) c _ lc (lc.pos hc0)).unique (bitLen_len _ hbc)
      have hrc : Lib.bitLen (cl r c) < Lib.bitLen (cl b c) := by
        have p1 := lb.pos hb0
        have p2 := lc.pos hc0
        by_cases hr0 : r = 0
        · subst hr0
          rw [cl_zero_left, bitLen_zero]
          omega
        · have lr := bitLen_len r h3
          have := (cl_len r _ lr (lr.pos hr0) c _ lc p2).unique (bitLen_len _ (cl_lt40 hr20 hc))
          have := lr.pos hr0
          omega
      obtain ⟨e3, _⟩ := over_once hbc hbc0 g3 (cl_lt40 hr20 hc) g4 hrc g5 e2
      obtain ⟨g, i1, i2, i3, ⟨u, hu⟩, ⟨v, hv⟩, i6⟩ := ih k b r (by omega) (by omega) hb hr20
      refine ⟨g, ?_, ?_, i3, ⟨cl q u ^^^ v, ?_⟩, ⟨u, hu⟩, ?_⟩
      · rw [gf2_Common.l0, if_neg (by omega), h1]
        exact i1
      · rw [gf2_Common.l0, if_neg (by omega), g1, e3]
        exact i2
      · rw [cl_add_left, cl_assoc, ← hu, ← hv, h5]
      · constructor
        · intro h
          exact absurd (i6.1 h).1 hb0
        · intro h
          exact absurd h.2 hb0
/-- What is divided leaves no rest. -/
theorem no_rest (a g u k : Nat) (ha : a < 18446744073709551616) (hg : g < 18446744073709551616) (h0 : g ≠ 0) (hu : a = cl u g) (hk : 64 < k) : ∃ q : Int, gf2_Over.f k (a : Int) (g : Int) = some (q, 0, true) := by
  obtain ⟨q, r, h1, h2, h3, h4, h5⟩ := over_f a g k ha hg h0 hk
  have lg := (bitLen_len g hg).pos h0
  obtain ⟨e, _⟩ := over_once hg h0 h3 (show (0 : Nat) < 18446744073709551616 by omega) h4 (by rw [bitLen_zero]; omega) h5 (show cl u g ^^^ 0 = a by rw [Nat.xor_zero]; exact hu.symm)
  rw [e] at h1
  exact ⟨_, h1⟩
theorem Gf2Common : shuttlelaw03_Gf2Common.Pure := by
  intro a0 b0 c0 ha0 hb0 hc0
  obtain ⟨a, rfl, ha⟩ := wf_u64 ha0
  obtain ⟨b, rfl, hb⟩ := wf_u64 hb0
  obtain ⟨c, rfl, hc⟩ := wf_u64 hc0
  refine ⟨200, ?_⟩
  unfold shuttlelaw03_Gf2Common.f
  have em : ∀ z : Nat, Int.tmod (z : Int) 1048576 = ((z % 1048576 : Nat) : Int) := fun z => tmod_nat z 1048576 (by omega)
  rw [em a, em b, em c]
  have xa : a % 1048576 < 2 ^ 20 := Nat.mod_lt _ (by omega)
  have xb : b % 1048576 < 2 ^ 20 := Nat.mod_lt _ (by omega)
  have xc : c % 1048576 < 2 ^ 20 := Nat.mod_lt _ (by omega)
  generalize a % 1048576 = x at *
  generalize b % 1048576 = y at *
  generalize c % 1048576 = z at *
  have lx : Lib.bitLen y ≤ 20 := Lib.bitLen_le y 20 (by omega) xb
  have rt : ∀ u v : Nat, u < 2 ^ 20 → v < 2 ^ 20 → shuttleref03_Times.f 199 (u : Int) (v : Int) = some ((cl u v : Int), true) := fun u v hu hv =>
    (ref_times u v 199 (by omega) (by omega) (by omega)).1 (fit20 20 20 hu hv (by omega))
  have main : ∃ g : Nat, gf2_Common.f 200 (x : Int) (y : Int) = some (g : Int) ∧ gf2_Common.f 199 (cl x z : Nat) (cl y z : Nat) = some ((cl g z : Nat) : Int) ∧ g < 2 ^ 20 ∧ (∃ u, x = cl u g) ∧ (∃ v, y = cl v g) ∧ (g = 0 ↔ x = 0 ∧ y = 0) := by
    unfold gf2_Common.f
    by_cases hz : z = 0
    · subst hz
      obtain ⟨g, i1, _, i3, i4, i5, i6⟩ := common_both 1 (by omega) (by omega) 20 200 x y lx (by omega) xa xb
      refine ⟨g, i1, ?_, i3, i4, i5, i6⟩
      simp only [cl_zero]
      exact common_zero 199 _ (by omega)
    · obtain ⟨g, i1, _, i3, i4, i5, i6⟩ := common_both z hz xc 20 200 x y lx (by omega) xa xb
      obtain ⟨g', j1, j2, _⟩ := common_both z hz xc 20 199 x y lx (by omega) xa xb
      have e : (g' : Int) = g := by
        have h1 := (gf2_Common.mono_l 199) (x : Int) (y : Int) _ j1
        rw [h1] at i1
        exact Option.some.inj i1
      have e2 : g' = g := by omega
      subst e2
      exact ⟨g', i1, j2, i3, i4, i5, i6⟩
  obtain ⟨g, i1, i2, i3, ⟨u, hu⟩, ⟨v, hv⟩, i6⟩ := main
  rw [i1, polys_f 200 (by omega)]
  simp only [Option.bind_some, if_true]
  have fin : shuttlelaw03_Gf2Common.j0 200 (x : Int) (y : Int) (z : Int) (g : Int) false = some true := by
    rw [show (200 : Nat) = 199 + 1 from rfl, shuttlelaw03_Gf2Common.j0, if_neg (by simp)]
    by_cases hg : g = 0
    · rw [if_pos (by omega)]
    · rw [if_neg (by omega)]
      obtain ⟨q1, o1⟩ := no_rest x g u 199 (by omega) (by omega) hg hu (by omega)
      obtain ⟨q2, o2⟩ := no_rest y g v 199 (by omega) (by omega) hg hv (by omega)
      rw [o1, o2, rt x z xa xc, rt y z xb xc, rt g z i3 xc]
      simp only [Option.bind_some]
      rw [i2]
      simp
  by_cases h0 : x = 0
  · rw [if_pos (by omega)]
    have e : (((g : Int) == 0) != ((y : Int) == 0)) = false := by
      rw [bne_eq_false_iff_eq, Bool.eq_iff_iff, beq_iff_eq, beq_iff_eq]
      constructor
      · intro h
        have := (i6.1 (by omega)).2
        omega
      · intro h
        have := i6.2 ⟨h0, by omega⟩
        omega
    rw [e]
    exact fin
  · rw [if_neg (by omega)]
    have e : ((g : Int) == 0) = false := by
      rw [beq_eq_false_iff_ne]
      intro h
      exact h0 (i6.1 (by omega)).1
    rw [e]
    exact fin

end Go.Proofs.YtbkeogllicgbaaaDoor.Pure
