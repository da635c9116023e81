/- All waits together behind so many tries (1 to 1000000) are those behind one try less and the last one, as the program's Total and Wait tell them. No condition beside the types' own ranges. -/
import Derived.Test.YtpkoaleebabmdaaPBackoffAddsx1
namespace Go.Proofs.Ytpkoaleebabmdaa.Pure
open Go.RowKit Go.Proofs.Ytpkoaleebabmdaa.PBackoffAdds Go.Proofs.YtpkoaleebabmdaaW.PrintWords Go.Proofs.YtpkoaleebabmdaaW.PrintLast Go.Proofs.YtpkoaleebabmdaaW.PrintMore
namespace BackoffAdds
theorem wf_i64 {n : Int} (h : (Lit.int .i64 n).wf = true) : -9223372036854775808 ≤ n ∧ n ≤ 9223372036854775807 := by
  simp [Lit.wf, IntKind.min, IntKind.max, IntKind.signed, IntKind.bits] at h
  exact h
theorem wf_u16 {n : Int} (h : (Lit.int .u16 n).wf = true) : 0 ≤ n ∧ n ≤ 65535 := by
  simp [Lit.wf, IntKind.min, IntKind.max, IntKind.signed, IntKind.bits] at h
  exact h
theorem u16_wrap (n : Int) : IntKind.u16.wrap n = n % 65536 := by
  simp [IntKind.wrap, IntKind.signed, IntKind.bits]
theorem u64_wrap (n : Int) : IntKind.u64.wrap n = n % 18446744073709551616 := by
  simp [IntKind.wrap, IntKind.signed, IntKind.bits]


theorem waits_true : shuttlelaw20_waits.f = some true := by decide +kernel
/-- What is waited behind so many tries, plainly. -/
def wt (n : Int) : Int := if n = 1 then 2 else if n = 2 then 4 else if n = 3 then 8 else 16
theorem wait_no (n : Int) (h : n < 1) : backoff_Wait.f n = some (0, 1) := by
  unfold backoff_Wait.f
  rw [if_pos h]
theorem wait_yes (n : Int) (h : 1 ≤ n) : backoff_Wait.f n = some (wt n, 0) := by
  unfold backoff_Wait.f
  rw [if_neg (by omega)]
  by_cases h1 : n = 1
  · subst h1; decide +kernel
  by_cases h2 : n = 2
  · subst h2; decide +kernel
  by_cases h3 : n = 3
  · subst h3; decide +kernel
  have e : mn n 4 = 4 := by unfold mn; omega
  rw [e]
  unfold wt
  rw [if_neg h1, if_neg h2, if_neg h3]
  decide +kernel
/-- All waits of so many tries, plainly. -/
def tt (n : Int) : Int := if n = 0 then 0 else if n = 1 then 2 else if n = 2 then 6 else if n = 3 then 14 else 30 + (n - 4) * 16
theorem total_no (n : Int) (h : n < 0 ∨ 1000000 < n) : backoff_Total.f n = some (0, 1) := by
  unfold backoff_Total.f
  by_cases h0 : n < 0
  · rw [if_pos h0]
  · rw [if_neg h0, if_pos (by omega)]
theorem total_yes (n : Int) (h : 0 ≤ n) (h' : n ≤ 1000000) : backoff_Total.f n = some (tt n, 0) := by
  unfold backoff_Total.f
  rw [if_neg (by omega), if_neg (by omega)]
  by_cases h0 : n = 0
  · subst h0; decide +kernel
  by_cases h1 : n = 1
  · subst h1; decide +kernel
  by_cases h2 : n = 2
  · subst h2; decide +kernel
  by_cases h3 : n = 3
  · subst h3; decide +kernel
  have e : mn n 4 = 4 := by unfold mn; omega
  rw [e]
  unfold tt
  rw [if_neg h0, if_neg h1, if_neg h2, if_neg h3, if_pos (by decide)]
  have e1 : wrap64 (wrap64 (2 * 2 ^ (4 : Int).toNat) - 2) = 30 := by decide +kernel
  have e2 : wrap64 (n - 4) = n - 4 := by unfold wrap64; omega
  rw [e1, e2]
  have e3 : wrap64 ((n - 4) * 16) = (n - 4) * 16 := by unfold wrap64; omega
  rw [e3]
  have e4 : wrap64 (30 + (n - 4) * 16) = 30 + (n - 4) * 16 := by unfold wrap64; omega
  rw [e4]
theorem tt_step (n : Int) (h : 1 ≤ n) : tt n = tt (n - 1) + wt n := by
  by_cases h1 : n = 1
  · subst h1; decide
  by_cases h2 : n = 2
  · subst h2; decide
  by_cases h3 : n = 3
  · subst h3; decide
  by_cases h4 : n = 4
  · subst h4; decide
  unfold tt wt
  rw [if_neg (by omega), if_neg h1, if_neg h2, if_neg h3, if_neg (by omega), if_neg (by omega), if_neg (by omega), if_neg (by omega), if_neg h1, if_neg h2, if_neg h3]
  omega
theorem wt_range (n : Int) : 2 ≤ wt n ∧ wt n ≤ 16 := by
  unfold wt
  split
  · omega
  split
  · omega
  split <;> omega
theorem wt_mono (n : Int) (h : 2 ≤ n) : wt (n - 1) ≤ wt n := by
  by_cases h2 : n = 2
  · subst h2; decide
  by_cases h3 : n = 3
  · subst h3; decide
  have := (wt_range (n - 1)).2
  have e : wt n = 16 := by unfold wt; rw [if_neg (by omega), if_neg h2, if_neg h3]
  omega
theorem tt_range (n : Int) (h : 0 ≤ n) (h' : n ≤ 1000000) : 0 ≤ tt n ∧ tt n ≤ 16000000 := by
  unfold tt
  split
  · omega
  split
  · omega
  split
  · omega
  split <;> omega

end BackoffAdds
open BackoffAdds

theorem BackoffAdds : shuttlelaw20_BackoffAdds.Pure := by
  intro a ha
  obtain ⟨a0, a1⟩ := wf_i64 ha
  have en : ∃ d : Int, 1 ≤ d ∧ d ≤ 1000000 ∧ wrap64 (1 + wrap64 (Int.tmod (IntKind.u64.wrap a) 1000000)) = d := by
    rw [u64_wrap, Int.tmod_eq_emod_of_nonneg (by omega)]
    refine ⟨1 + a % 18446744073709551616 % 1000000, by omega, by omega, ?_⟩
    unfold wrap64
    omega
  obtain ⟨d, d0, d1, hd⟩ := en
  unfold shuttlelaw20_BackoffAdds.f
  rw [hd]
  have e : wrap64 (d - 1) = d - 1 := by unfold wrap64; omega
  rw [e, total_yes d (by omega) (by omega), total_yes (d - 1) (by omega) (by omega), wait_yes d d0, waits_true]
  simp only [Option.bind_some, if_true]
  have r1 := tt_range (d - 1) (by omega) (by omega)
  have r2 := wt_range d
  have e2 : wrap64 (tt (d - 1) + wt d) = tt (d - 1) + wt d := by unfold wrap64; omega
  rw [e2, ← tt_step d d0]
  simp

end Go.Proofs.Ytpkoaleebabmdaa.Pure
