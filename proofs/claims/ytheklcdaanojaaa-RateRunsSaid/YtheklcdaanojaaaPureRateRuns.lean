/- A policy that begins as none stays a right one behind up to forty messages of 1 to 5 tries each; behind twelve good ones more its level is 0, behind two bad ones it is 2. No condition beside the types' own ranges. -/
import Derived.Test.YtheklcdaanojaaaPRateRunsx3
import Derived.Test.YtheklcdaanojaaaWSized
namespace Go.Proofs.Ytheklcdaanojaaa.Pure
open Go.RowKit Go.Proofs.Ytheklcdaanojaaa.PRateRuns Go.Proofs.YtheklcdaanojaaaW.PrintWords Go.Proofs.YtheklcdaanojaaaW.PrintLast Go.Proofs.YtheklcdaanojaaaW.PrintMore
namespace RateRuns
theorem wf_i64 {n : Int} (h : (Lit.int .i64 n).wf = true) : -9223372036854775808 ≤ n ∧ n ≤ 9223372036854775807 := by
  simp [Lit.wf, IntKind.min, IntKind.max, IntKind.signed, IntKind.bits] at h
  exact h
theorem u64_wrap (n : Int) : IntKind.u64.wrap n = n % 18446744073709551616 := by
  simp [IntKind.wrap, IntKind.signed, IntKind.bits]
theorem u64_mod (n m : Int) (h : 1 ≤ m) (h' : m ≤ 1000000) : ∃ d : Int, 0 ≤ d ∧ d < m ∧ wrap64 (Int.tmod (IntKind.u64.wrap n) m) = d ∧ wrap64 (1 + wrap64 (Int.tmod (IntKind.u64.wrap n) m)) = 1 + d := by
  rw [u64_wrap, Int.tmod_eq_emod_of_nonneg (by omega)]
  have h1 := Int.emod_nonneg (n % 18446744073709551616) (show m ≠ 0 by omega)
  have h2 := Int.emod_lt_of_pos (n % 18446744073709551616) (show 0 < m by omega)
  generalize n % 18446744073709551616 % m = d at *
  have e : wrap64 d = d := by unfold wrap64; omega
  refine ⟨d, h1, h2, e, ?_⟩
  rw [e]
  unfold wrap64
  omega

theorem rates_true : shuttlelaw21_rates.f 5 = some true := by decide +kernel
theorem end_all : ∀ L : Fin 3, ∀ R : Fin 4, shuttlelaw21_RateRuns.l1 40 0 (L.val : Int) (R.val : Int) (L.val : Int) (R.val : Int) = some true := by decide +kernel
/-- What comes of a message behind 1 to 5 tries. -/
def goes (L R t : Int) : Bool := match rate_Done.f 5 L R t with
  | some (l, r, e) => decide (0 ≤ l) && decide (l < 3) && decide (0 ≤ r) && decide (r < 4) && decide (e = 0) && decide (rate_Check.f l r = some 0)
  | none => false
theorem goes_all : ∀ L : Fin 3, ∀ R : Fin 4, ∀ t : Fin 5, goes (L.val : Int) (R.val : Int) (1 + (t.val : Int)) = true := by decide +kernel
theorem goes_at (L R t : Int) (h0 : 0 ≤ L) (h1 : L < 3) (h2 : 0 ≤ R) (h3 : R < 4) (h4 : 0 ≤ t) (h5 : t < 5) :
    ∃ l r, rate_Done.f 5 L R (1 + t) = some (l, r, 0) ∧ 0 ≤ l ∧ l < 3 ∧ 0 ≤ r ∧ r < 4 ∧ rate_Check.f l r = some 0 := by
  have h := goes_all ⟨L.toNat, by omega⟩ ⟨R.toNat, by omega⟩ ⟨t.toNat, by omega⟩
  simp only [Int.toNat_of_nonneg h0, Int.toNat_of_nonneg h2, Int.toNat_of_nonneg h4] at h
  unfold goes at h
  split at h
  · rename_i l r e he
    simp only [Bool.and_eq_true, decide_eq_true_eq] at h
    obtain ⟨⟨⟨⟨⟨a, b⟩, c⟩, d⟩, f⟩, g⟩ := h
    exact ⟨l, r, by rw [he, f], a, b, c, d, g⟩
  · cases h
theorem end_at (L R : Int) (h0 : 0 ≤ L) (h1 : L < 3) (h2 : 0 ≤ R) (h3 : R < 4) (k : Nat) (hk : 40 ≤ k) : shuttlelaw21_RateRuns.l1 k 0 L R L R = some true := by
  have h := end_all ⟨L.toNat, by omega⟩ ⟨R.toNat, by omega⟩
  simp only [Int.toNat_of_nonneg h0, Int.toNat_of_nonneg h2] at h
  exact at_rounds (g := fun k => shuttlelaw21_RateRuns.l1 k 0 L R L R) (fun k => (shuttlelaw21_RateRuns.mono_l k).2.2.1 _ _ _ _ _) hk h
theorem runs (xs : List Int) (d : Nat) : ∀ (k : Nat) (i L R : Int), 0 ≤ i → i + d = 40 → 0 ≤ L → L < 3 → 0 ≤ R → R < 4 → 2 * d + 100 ≤ k →
    shuttlelaw21_RateRuns.l0 k xs i L R = some true := by
  induction d with
  | zero =>
    intro k i L R hi hd h0 h1 h2 h3 hk
    obtain ⟨k, rfl⟩ : ∃ m, k = m + 2 := ⟨k - 2, by omega⟩
    have e := end_at L R h0 h1 h2 h3 k (by omega)
    have hj : shuttlelaw21_RateRuns.j1 (k + 1) xs i false L R = some true := by
      rw [shuttlelaw21_RateRuns.j1]
      rw [if_neg (by simp)]
      exact e
    show shuttlelaw21_RateRuns.l0 (k + 1 + 1) xs i L R = some true
    simp only [shuttlelaw21_RateRuns.l0]
    have hf : decide (i < 40) = false := by rw [decide_eq_false_iff_not]; omega
    rw [hf, ite_self]
    exact hj
  | succ d ih =>
    intro k i L R hi hd h0 h1 h2 h3 hk
    obtain ⟨k, rfl⟩ : ∃ m, k = m + 2 := ⟨k - 2, by omega⟩
    show shuttlelaw21_RateRuns.l0 (k + 1 + 1) xs i L R = some true
    simp only [shuttlelaw21_RateRuns.l0]
    by_cases hlt : i < (xs.length : Int)
    · rw [if_pos hlt]
      have hf : decide (i < 40) = true := by rw [decide_eq_true_eq]; omega
      rw [hf]
      show shuttlelaw21_RateRuns.j1 (k + 1) xs i true L R = some true
      rw [shuttlelaw21_RateRuns.j1]
      rw [if_pos rfl, if_pos hi, if_pos hlt]
      obtain ⟨t, t0, t1, _, ht⟩ := u64_mod (rd xs i) 5 (by omega) (by omega)
      rw [ht]
      obtain ⟨l, r, hr, l0, l1, r0, r1, hc⟩ := goes_at L R t h0 h1 h2 h3 t0 t1
      have hr' : rate_Done.f k L R (1 + t) = some (l, r, 0) := at_rounds (g := fun k => rate_Done.f k L R (1 + t)) (fun k => rate_Done.mono L R (1 + t) k) (show 5 ≤ k by omega) hr
      rw [hr']
      simp only [Option.bind_some, if_true]
      rw [hc]
      simp only [Option.bind_some, if_true]
      have e : wrap64 (i + 1) = i + 1 := by unfold wrap64; omega
      rw [e]
      exact ih k (i + 1) l r (by omega) (by omega) l0 l1 r0 r1 (by omega)
    · rw [if_neg hlt]
      show shuttlelaw21_RateRuns.j1 (k + 1) xs i false L R = some true
      rw [shuttlelaw21_RateRuns.j1]
      rw [if_neg (by simp)]
      exact end_at L R h0 h1 h2 h3 k (by omega)
end RateRuns
open RateRuns

theorem RateRuns : shuttlelaw21_RateRuns.Pure := by
  intro xs _ _ _
  refine ⟨200, ?_⟩
  unfold shuttlelaw21_RateRuns.f
  have h : shuttlelaw21_rates.f 200 = some true := at_rounds (g := fun k => shuttlelaw21_rates.f k) (fun k => shuttlelaw21_rates.mono k) (show 5 ≤ 200 by omega) rates_true
  rw [h]
  simp only [Option.bind_some, if_true]
  exact runs xs 40 200 0 0 0 (by omega) (by omega) (by omega) (by omega) (by omega) (by omega) (by omega)

end Go.Proofs.Ytheklcdaanojaaa.Pure

namespace Go.Proofs.Ytheklcdaanojaaa.PrintWords
/-- The row names this word so. -/
abbrev sized_ints := @Go.Proofs.YtheklcdaanojaaaW.PrintWords.sized_ints
end Go.Proofs.Ytheklcdaanojaaa.PrintWords
