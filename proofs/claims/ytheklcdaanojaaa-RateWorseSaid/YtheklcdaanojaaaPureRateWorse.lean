/- With one more try (of 1 to 9) the level behind a message is never less, and no fewer versions go out, at each of the twelve policies. No condition beside the types' own ranges. -/
import Derived.Test.YtheklcdaanojaaaPRateWorsex2
namespace Go.Proofs.Ytheklcdaanojaaa.Pure
open Go.RowKit Go.Proofs.Ytheklcdaanojaaa.PRateWorse Go.Proofs.YtheklcdaanojaaaW.PrintWords Go.Proofs.YtheklcdaanojaaaW.PrintLast Go.Proofs.YtheklcdaanojaaaW.PrintMore
namespace RateWorse
theorem wf_i64 {n : Int} (h : (Lit.int .i64 n).wf = true) : -9223372036854775808 ≤ n ∧ n ≤ 9223372036854775807 := by
  simp [Lit.wf, IntKind.min, IntKind.max, IntKind.signed, IntKind.bits] at h
  exact h
theorem u64_wrap (n : Int) : IntKind.u64.wrap n = n % 18446744073709551616 := by
  simp [IntKind.wrap, IntKind.signed, IntKind.bits]
theorem u64_mod (n m : Int) (h : 1 ≤ m) (h' : m ≤ 1000000) : ∃ d : Int, 0 ≤ d ∧ d < m ∧ wrap64 (Int.tmod (IntKind.u64.wrap n) m) = d ∧ wrap64 (1 + wrap64 (Int.tmod (IntKind.u64.wrap n) m)) = 1 + d := by
  rw [u64_wrap, Int.tmod_eq_emod_of_nonneg (by omega)]
  have h1 := Int.emod_nonneg (n % 18446744073709551616) (show m ≠ 0 by omega)
  have h2 := Int.emod_lt_of_pos (n % 18446744073709551616) (show 0 < m by omega)
  generalize n % 18446744073709551616 % m = d at *
  have e : wrap64 d = d := by unfold wrap64; omega
  refine ⟨d, h1, h2, e, ?_⟩
  rw [e]
  unfold wrap64
  omega

theorem all_small : ∀ L : Fin 3, ∀ R : Fin 4, ∀ t : Fin 9, shuttlelaw21_RateWorse.f 5 (L.val : Int) (R.val : Int) (t.val : Int) = some true := by decide +kernel
theorem small (L R t : Int) (h0 : 0 ≤ L) (h1 : L < 3) (h2 : 0 ≤ R) (h3 : R < 4) (h4 : 0 ≤ t) (h5 : t < 9) : shuttlelaw21_RateWorse.f 5 L R t = some true := by
  have := all_small ⟨L.toNat, by omega⟩ ⟨R.toNat, by omega⟩ ⟨t.toNat, by omega⟩
  simp only [Int.toNat_of_nonneg h0, Int.toNat_of_nonneg h2, Int.toNat_of_nonneg h4] at this
  exact this
theorem mod_self (d m : Int) (h0 : 0 ≤ d) (h : d < m) (hm : m ≤ 100) : wrap64 (Int.tmod (IntKind.u64.wrap d) m) = d := by
  rw [u64_wrap, Int.emod_eq_of_lt h0 (by omega), Int.tmod_eq_of_lt h0 h]
  unfold wrap64
  omega
end RateWorse
open RateWorse

theorem RateWorse : shuttlelaw21_RateWorse.Pure := by
  intro a b c _ _ _
  refine ⟨5, ?_⟩
  obtain ⟨L, l0, l1, hl, _⟩ := u64_mod a 3 (by omega) (by omega)
  obtain ⟨R, r0, r1, hr, _⟩ := u64_mod b 4 (by omega) (by omega)
  obtain ⟨t, t0, t1, ht, _⟩ := u64_mod c 9 (by omega) (by omega)
  have h := small L R t l0 l1 r0 r1 t0 t1
  unfold shuttlelaw21_RateWorse.f at h ⊢
  rw [mod_self L 3 l0 l1 (by omega), mod_self R 4 r0 r1 (by omega), mod_self t 9 t0 t1 (by omega)] at h
  rw [hl, hr, ht]
  exact h

end Go.Proofs.Ytheklcdaanojaaa.Pure
