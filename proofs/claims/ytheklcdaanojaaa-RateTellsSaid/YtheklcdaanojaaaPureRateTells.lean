/- Of all policies and all counts of tries the program tells what comes of them as the document does, how many versions go out, or that there is no such policy. No condition beside the types' own ranges. -/
import Derived.Test.YtheklcdaanojaaaPRateTellsx3
namespace Go.Proofs.Ytheklcdaanojaaa.Pure
open Go.RowKit Go.Proofs.Ytheklcdaanojaaa.PRateTells Go.Proofs.YtheklcdaanojaaaW.PrintWords Go.Proofs.YtheklcdaanojaaaW.PrintLast Go.Proofs.YtheklcdaanojaaaW.PrintMore
namespace RateTells
theorem wf_i64 {n : Int} (h : (Lit.int .i64 n).wf = true) : -9223372036854775808 ≤ n ∧ n ≤ 9223372036854775807 := by
  simp [Lit.wf, IntKind.min, IntKind.max, IntKind.signed, IntKind.bits] at h
  exact h
theorem u64_wrap (n : Int) : IntKind.u64.wrap n = n % 18446744073709551616 := by
  simp [IntKind.wrap, IntKind.signed, IntKind.bits]
theorem u64_mod (n m : Int) (h : 1 ≤ m) (h' : m ≤ 1000000) : ∃ d : Int, 0 ≤ d ∧ d < m ∧ wrap64 (Int.tmod (IntKind.u64.wrap n) m) = d ∧ wrap64 (1 + wrap64 (Int.tmod (IntKind.u64.wrap n) m)) = 1 + d := by
  rw [u64_wrap, Int.tmod_eq_emod_of_nonneg (by omega)]
  have h1 := Int.emod_nonneg (n % 18446744073709551616) (show m ≠ 0 by omega)
  have h2 := Int.emod_lt_of_pos (n % 18446744073709551616) (show 0 < m by omega)
  generalize n % 18446744073709551616 % m = d at *
  have e : wrap64 d = d := by unfold wrap64; omega
  refine ⟨d, h1, h2, e, ?_⟩
  rw [e]
  unfold wrap64
  omega

theorem rates_true : shuttlelaw21_rates.f 5 = some true := by decide +kernel
theorem within_f (n m : Int) : rate_within.f n m = some (decide (0 ≤ n ∧ n ≤ m)) := by
  unfold rate_within.f
  by_cases h : n ≥ 0
  · rw [if_pos h]; simp; omega
  · rw [if_neg h]; simp; omega
theorem check_yes (L R : Int) (h : 0 ≤ L ∧ L ≤ 2 ∧ 0 ≤ R ∧ R ≤ 3) : rate_Check.f L R = some 0 := by
  unfold rate_Check.f
  rw [within_f, within_f]
  simp only [Option.bind_some]
  rw [if_pos (by rw [decide_eq_true_eq]; omega), if_pos (by rw [decide_eq_true_eq]; omega)]
theorem check_no (L R : Int) (h : ¬ (0 ≤ L ∧ L ≤ 2 ∧ 0 ≤ R ∧ R ≤ 3)) : rate_Check.f L R = some 1 := by
  unfold rate_Check.f
  rw [within_f, within_f]
  simp only [Option.bind_some]
  by_cases h1 : 0 ≤ L ∧ L ≤ 2
  · rw [if_pos (by rw [decide_eq_true_eq]; omega), if_neg (by rw [decide_eq_true_eq]; omega)]
  · rw [if_neg (by rw [decide_eq_true_eq]; omega)]
theorem right_f (L R : Int) : shuttleref21_Right.f L R = some (decide (0 ≤ L ∧ L ≤ 2 ∧ 0 ≤ R ∧ R ≤ 3)) := by
  unfold shuttleref21_Right.f
  have hf : ¬ (0 ≤ L ∧ L ≤ 2 ∧ 0 ≤ R ∧ R ≤ 3) → some false = some (decide (0 ≤ L ∧ L ≤ 2 ∧ 0 ≤ R ∧ R ≤ 3)) := fun h => by rw [decide_eq_false h]
  by_cases h1 : L ≥ 0
  · rw [if_pos h1]
    by_cases h2 : L ≤ 2
    · rw [if_pos h2]
      by_cases h3 : R ≥ 0
      · rw [if_pos h3]; congr 1; rw [decide_eq_decide]; omega
      · rw [if_neg h3]; exact hf (by omega)
    · rw [if_neg h2]; exact hf (by omega)
  · rw [if_neg h1]; exact hf (by omega)
theorem ff : ¬ (false = true) := by simp
theorem done_no (L R t : Int) (h : ¬ (0 ≤ L ∧ L ≤ 2 ∧ 0 ≤ R ∧ R ≤ 3)) : rate_Done.f 5 L R t = some (0, 0, 1) := by
  unfold rate_Done.f
  rw [check_no L R h]
  simp only [Option.bind_some]
  rw [if_neg (by omega)]
  show rate_Done.j0 (4 + 1) t true L R = _
  rw [rate_Done.j0]
  rw [if_pos rfl]
theorem done_early (L R t : Int) (h : t < 1) (hr : 0 ≤ L ∧ L ≤ 2 ∧ 0 ≤ R ∧ R ≤ 3) : rate_Done.f 5 L R t = some (0, 0, 1) := by
  unfold rate_Done.f
  rw [check_yes L R hr]
  simp only [Option.bind_some, if_true]
  show rate_Done.j0 (4 + 1) t (decide (t < 1)) L R = _
  rw [rate_Done.j0]
  rw [if_pos (by rw [decide_eq_true_eq]; exact h)]
/-- The program's Done and the reference's are one, and what they tell is a policy. -/
theorem done_yes (L R t : Int) (h : 1 ≤ t) (hr : 0 ≤ L ∧ L ≤ 2 ∧ 0 ≤ R ∧ R ≤ 3) :
    ∃ l r, rate_Done.f 5 L R t = some (l, r, 0) ∧ shuttleref21_Done.f 4 L R t = some (l, r) ∧ 0 ≤ l ∧ l ≤ 2 ∧ 0 ≤ r ∧ r ≤ 3 := by
  unfold rate_Done.f shuttleref21_Done.f
  rw [check_yes L R hr]
  simp only [Option.bind_some, if_true]
  have hd : decide (t < 1) = false := by rw [decide_eq_false_iff_not]; omega
  rw [hd]
  have e1 : wrap64 (R + 1) = R + 1 := by unfold wrap64; omega
  have e2 : wrap64 (L - 1) = L - 1 := by unfold wrap64; omega
  have e3 : wrap64 (L + 1) = L + 1 := by unfold wrap64; omega
  have m1 : 0 ≤ mx (L - 1) 0 ∧ mx (L - 1) 0 ≤ 2 := by unfold mx; split <;> omega
  have m2 : 0 ≤ mn (L + 1) 2 ∧ mn (L + 1) 2 ≤ 2 := by unfold mn; split <;> omega
  have ej0 : rate_Done.j0 5 t false L R = if t = 1 then rate_Done.j1 4 t (decide (R < 3)) L R else rate_Done.j1 4 t false L R := by
    show rate_Done.j0 (4 + 1) t false L R = _
    rw [rate_Done.j0]
    rw [if_neg ff]
  have ej1 : ∀ b, rate_Done.j1 4 t b L R = if b = true then some (L, R + 1, 0) else if t = 1 then some (mx (L - 1) 0, 0, 0) else if t = 2 then some (L, 0, 0) else some (mn (L + 1) 2, 0, 0) := by
    intro b
    show rate_Done.j1 (3 + 1) t b L R = _
    rw [rate_Done.j1]
    rw [e1, e2, e3]
  have er : ∀ b, shuttleref21_Done.j0 4 L R t b = if b = true then some (L, R + 1) else if t = 1 then some (mx (L - 1) 0, 0) else if t = 2 then some (L, 0) else some (mn (L + 1) 2, 0) := by
    intro b
    show shuttleref21_Done.j0 (3 + 1) L R t b = _
    rw [shuttleref21_Done.j0]
    rw [e1, e2, e3]
  rw [ej0]
  by_cases h1 : t = 1
  · rw [if_pos h1, if_pos h1, ej1, er]
    by_cases h3 : R < 3
    · have hb : decide (R < 3) = true := by rw [decide_eq_true_eq]; exact h3
      rw [hb, if_pos rfl, if_pos rfl]
      exact ⟨L, R + 1, rfl, rfl, by omega, by omega, by omega, by omega⟩
    · have hb : decide (R < 3) = false := by rw [decide_eq_false_iff_not]; exact h3
      rw [hb, if_neg ff, if_neg ff, if_pos h1, if_pos h1]
      exact ⟨_, _, rfl, rfl, m1.1, m1.2, by omega, by omega⟩
  · rw [if_neg h1, if_neg h1, ej1, er, if_neg ff, if_neg ff, if_neg h1, if_neg h1]
    by_cases h2 : t = 2
    · rw [if_pos h2, if_pos h2]
      exact ⟨_, _, rfl, rfl, by omega, by omega, by omega, by omega⟩
    · rw [if_neg h2, if_neg h2]
      exact ⟨_, _, rfl, rfl, m2.1, m2.2, by omega, by omega⟩
end RateTells
open RateTells

theorem RateTells : shuttlelaw21_RateTells.Pure := by
  intro L R t _ _ _
  refine ⟨5, ?_⟩
  unfold shuttlelaw21_RateTells.f rate_Burst.f
  rw [right_f, rates_true]
  simp only [Option.bind_some, if_true]
  by_cases hr : 0 ≤ L ∧ L ≤ 2 ∧ 0 ≤ R ∧ R ≤ 3
  · have hb : decide (0 ≤ L ∧ L ≤ 2 ∧ 0 ≤ R ∧ R ≤ 3) = true := by rw [decide_eq_true_eq]; exact hr
    rw [hb, check_yes L R hr]
    simp only [Option.bind_some, if_true]
    rw [if_pos hr.1]
    simp only [Option.bind_some]
    by_cases ht : t < 1
    · rw [done_early L R t ht hr]
      simp only [Option.bind_some]
      have hf : decide (t ≥ 1) = false := by rw [decide_eq_false_iff_not]; omega
      rw [hf]
      show shuttlelaw21_RateTells.j0 (4 + 1) L R t (shl .i64 1 L) 0 1 true false L R 0 0 = some true
      rw [shuttlelaw21_RateTells.j0]
      rw [if_neg ff, if_pos rfl, if_pos hr.1, if_pos rfl, if_pos ht]
      rfl
    · obtain ⟨l, r, h1, h2, l0, l1, r0, r1⟩ := done_yes L R t (by omega) hr
      rw [h1]
      simp only [Option.bind_some]
      have hf : decide (t ≥ 1) = true := by rw [decide_eq_true_eq]; omega
      rw [hf]
      show shuttlelaw21_RateTells.j0 (4 + 1) L R t (shl .i64 1 L) 0 0 true false L R l r = some true
      rw [shuttlelaw21_RateTells.j0]
      rw [if_neg ff, if_pos rfl, if_pos hr.1, if_pos rfl, if_neg ht, h2]
      simp only [Option.bind_some]
      rw [if_pos (by simp), check_yes l r ⟨l0, l1, r0, r1⟩]
      rfl
  · have hb : decide (0 ≤ L ∧ L ≤ 2 ∧ 0 ≤ R ∧ R ≤ 3) = false := by rw [decide_eq_false_iff_not]; exact hr
    rw [hb, check_no L R hr, done_no L R t hr]
    simp only [Option.bind_some]
    rw [if_neg (by omega)]
    show shuttlelaw21_RateTells.j0 (4 + 1) L R t 0 1 1 false false L R 0 0 = some true
    rw [shuttlelaw21_RateTells.j0]
    rw [if_neg ff, if_neg ff, if_pos rfl, if_pos rfl, if_pos (by rfl), check_no L R hr]
    rfl

end Go.Proofs.Ytheklcdaanojaaa.Pure
