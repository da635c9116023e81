/- Behind any count of tries the program tells the document's wait, or that there is none; it is at most 16 and never shorter than the one ahead. No condition beside the types' own ranges. -/
import Derived.Test.YtpkoaleebabmdaaPBackoffWaitsx1
namespace Go.Proofs.Ytpkoaleebabmdaa.Pure
open Go.RowKit Go.Proofs.Ytpkoaleebabmdaa.PBackoffWaits Go.Proofs.YtpkoaleebabmdaaW.PrintWords Go.Proofs.YtpkoaleebabmdaaW.PrintLast Go.Proofs.YtpkoaleebabmdaaW.PrintMore
namespace BackoffWaits
theorem wf_i64 {n : Int} (h : (Lit.int .i64 n).wf = true) : -9223372036854775808 ≤ n ∧ n ≤ 9223372036854775807 := by
  simp [Lit.wf, IntKind.min, IntKind.max, IntKind.signed, IntKind.bits] at h
  exact h
theorem wf_u16 {n : Int} (h : (Lit.int .u16 n).wf = true) : 0 ≤ n ∧ n ≤ 65535 := by
  simp [Lit.wf, IntKind.min, IntKind.max, IntKind.signed, IntKind.bits] at h
  exact h
theorem u16_wrap (n : Int) : IntKind.u16.wrap n = n % 65536 := by
  simp [IntKind.wrap, IntKind.signed, IntKind.bits]
theorem u64_wrap (n : Int) : IntKind.u64.wrap n = n % 18446744073709551616 := by
  simp [IntKind.wrap, IntKind.signed, IntKind.bits]


theorem waits_true : shuttlelaw20_waits.f = some true := by decide +kernel
/-- What is waited behind so many tries, plainly. -/
def wt (n : Int) : Int := if n = 1 then 2 else if n = 2 then 4 else if n = 3 then 8 else 16
theorem wait_no (n : Int) (h : n < 1) : backoff_Wait.f n = some (0, 1) := by
  unfold backoff_Wait.f
  rw [if_pos h]
theorem wait_yes (n : Int) (h : 1 ≤ n) : backoff_Wait.f n = some (wt n, 0) := by
  unfold backoff_Wait.f
  rw [if_neg (by omega)]
  by_cases h1 : n = 1
  · subst h1; decide +kernel
  by_cases h2 : n = 2
  · subst h2; decide +kernel
  by_cases h3 : n = 3
  · subst h3; decide +kernel
  have e : mn n 4 = 4 := by unfold mn; omega
  rw [e]
  unfold wt
  rw [if_neg h1, if_neg h2, if_neg h3]
  decide +kernel
/-- All waits of so many tries, plainly. -/
def tt (n : Int) : Int := if n = 0 then 0 else if n = 1 then 2 else if n = 2 then 6 else if n = 3 then 14 else 30 + (n - 4) * 16
theorem total_no (n : Int) (h : n < 0 ∨ 1000000 < n) : backoff_Total.f n = some (0, 1) := by
  unfold backoff_Total.f
  by_cases h0 : n < 0
  · rw [if_pos h0]
  · rw [if_neg h0, if_pos (by omega)]
theorem total_yes (n : Int) (h : 0 ≤ n) (h' : n ≤ 1000000) : backoff_Total.f n = some (tt n, 0) := by
  unfold backoff_Total.f
  rw [if_neg (by omega), if_neg (by omega)]
  by_cases h0 : n = 0
  · subst h0; decide +kernel
  by_cases h1 : n = 1
  · subst h1; decide +kernel
  by_cases h2 : n = 2
  · subst h2; decide +kernel
  by_cases h3 : n = 3
  · subst h3; decide +kernel
  have e : mn n 4 = 4 := by unfold mn; omega
  rw [e]
  unfold tt
  rw [if_neg h0, if_neg h1, if_neg h2, if_neg h3, if_pos (by decide)]
  have e1 : wrap64 (wrap64 (2 * 2 ^ (4 : Int).toNat) - 2) = 30 := by decide +kernel
  have e2 : wrap64 (n - 4) = n - 4 := by unfold wrap64; omega
  rw [e1, e2]
  have e3 : wrap64 ((n - 4) * 16) = (n - 4) * 16 := by unfold wrap64; omega
  rw [e3]
  have e4 : wrap64 (30 + (n - 4) * 16) = 30 + (n - 4) * 16 := by unfold wrap64; omega
  rw [e4]
theorem tt_step (n : Int) (h : 1 ≤ n) : tt n = tt (n - 1) + wt n := by
  by_cases h1 : n = 1
  · subst h1; decide
  by_cases h2 : n = 2
  · subst h2; decide
  by_cases h3 : n = 3
  · subst h3; decide
  by_cases h4 : n = 4
  · subst h4; decide
  unfold tt wt
  rw [if_neg (by omega), if_neg h1, if_neg h2, if_neg h3, if_neg (by omega), if_neg (by omega), if_neg (by omega), if_neg (by omega), if_neg h1, if_neg h2, if_neg h3]
  omega
theorem wt_range (n : Int) : 2 ≤ wt n ∧ wt n ≤ 16 := by
  unfold wt
  split
  · omega
  split
  · omega
  split <;> omega
theorem wt_mono (n : Int) (h : 2 ≤ n) : wt (n - 1) ≤ wt n := by
  by_cases h2 : n = 2
  · subst h2; decide
  by_cases h3 : n = 3
  · subst h3; decide
  have := (wt_range (n - 1)).2
  have e : wt n = 16 := by unfold wt; rw [if_neg (by omega), if_neg h2, if_neg h3]
  omega
theorem tt_range (n : Int) (h : 0 ≤ n) (h' : n ≤ 1000000) : 0 ≤ tt n ∧ tt n ≤ 16000000 := by
  unfold tt
  split
  · omega
  split
  · omega
  split
  · omega
  split <;> omega
theorem ref_wait_one (k : Nat) (n x i : Int) (h : ¬ i < n) : shuttleref20_Wait.l0 (k + 1) n x i = some x := by
  simp only [shuttleref20_Wait.l0]
  rw [if_neg h]
theorem ref_wait_top (k : Nat) (n x i : Int) (h : ¬ x < 16) : shuttleref20_Wait.l0 (k + 1) n x i = some x := by
  simp only [shuttleref20_Wait.l0]
  by_cases g : i < n
  · rw [if_pos g, if_neg h]
  · rw [if_neg g]
theorem ref_wait_go (k : Nat) (n x i : Int) (h : i < n) (h' : x < 16) (h0 : 0 ≤ x) (h1 : 0 ≤ i) (h2 : i ≤ 100) : shuttleref20_Wait.l0 (k + 1) n x i = shuttleref20_Wait.l0 k n (2 * x) (i + 1) := by
  show (if i < n then (if x < 16 then shuttleref20_Wait.l0 k n (wrap64 (2 * x)) (wrap64 (i + 1)) else some x) else some x) = _
  rw [if_pos h, if_pos h']
  have e : wrap64 (2 * x) = 2 * x := by unfold wrap64; omega
  have e' : wrap64 (i + 1) = i + 1 := by unfold wrap64; omega
  rw [e, e']
theorem ref_wait (n : Int) (h : 1 ≤ n) (k : Nat) (hk : 4 ≤ k) : shuttleref20_Wait.f k n = some (wt n) := by
  obtain ⟨k, rfl⟩ : ∃ m, k = m + 4 := ⟨k - 4, by omega⟩
  unfold shuttleref20_Wait.f
  by_cases h1 : n = 1
  · subst h1; rw [ref_wait_one _ _ _ _ (by omega)]; rfl
  rw [ref_wait_go _ _ _ _ (by omega) (by omega) (by omega) (by omega) (by omega)]
  by_cases h2 : n = 2
  · subst h2; rw [ref_wait_one _ _ _ _ (by omega)]; rfl
  rw [ref_wait_go _ _ _ _ (by omega) (by omega) (by omega) (by omega) (by omega)]
  by_cases h3 : n = 3
  · subst h3; rw [ref_wait_one _ _ _ _ (by omega)]; rfl
  rw [ref_wait_go _ _ _ _ (by omega) (by omega) (by omega) (by omega) (by omega)]
  rw [ref_wait_top _ _ _ _ (by omega)]
  unfold wt
  rw [if_neg h1, if_neg h2, if_neg h3]
  rfl

end BackoffWaits
open BackoffWaits

theorem BackoffWaits : shuttlelaw20_BackoffWaits.Pure := by
  intro a ha
  obtain ⟨a0, a1⟩ := wf_i64 ha
  refine ⟨4, ?_⟩
  unfold shuttlelaw20_BackoffWaits.f
  by_cases h : a < 1
  · rw [wait_no a h, waits_true]
    simp only [Option.bind_some, if_true]
    rw [if_pos h]
    rfl
  · have h1 : 1 ≤ a := by omega
    have e : wrap64 (a - 1) = a - 1 := by unfold wrap64; omega
    have em : 1 ≤ mx (a - 1) 1 := by unfold mx; split <;> omega
    rw [wait_yes a h1, waits_true, e, wait_yes _ em, ref_wait a h1 4 (by omega)]
    simp only [Option.bind_some, if_true]
    rw [if_neg h]
    have hm : wt (mx (a - 1) 1) ≤ wt a := by
      by_cases h2 : a = 1
      · subst h2; decide
      · have : mx (a - 1) 1 = a - 1 := by unfold mx; omega
        rw [this]
        exact wt_mono a (by omega)
    rw [if_pos hm]
    have := (wt_range a).2
    simpa using this

end Go.Proofs.Ytpkoaleebabmdaa.Pure
