/- Of three 16-bit numbers within 32767, one behind the other, each is before those behind it, by the program's own Plus, Before and Ahead. No condition beside the types' own ranges. -/
import Derived.Test.YtpkoaleebabmdaaPSeqOrderx1
namespace Go.Proofs.Ytpkoaleebabmdaa.Pure
open Go.RowKit Go.Proofs.Ytpkoaleebabmdaa.PSeqOrder Go.Proofs.YtpkoaleebabmdaaW.PrintWords Go.Proofs.YtpkoaleebabmdaaW.PrintLast Go.Proofs.YtpkoaleebabmdaaW.PrintMore
namespace SeqOrder
theorem wf_i64 {n : Int} (h : (Lit.int .i64 n).wf = true) : -9223372036854775808 ≤ n ∧ n ≤ 9223372036854775807 := by
  simp [Lit.wf, IntKind.min, IntKind.max, IntKind.signed, IntKind.bits] at h
  exact h
theorem wf_u16 {n : Int} (h : (Lit.int .u16 n).wf = true) : 0 ≤ n ∧ n ≤ 65535 := by
  simp [Lit.wf, IntKind.min, IntKind.max, IntKind.signed, IntKind.bits] at h
  exact h
theorem u16_wrap (n : Int) : IntKind.u16.wrap n = n % 65536 := by
  simp [IntKind.wrap, IntKind.signed, IntKind.bits]
theorem u64_wrap (n : Int) : IntKind.u64.wrap n = n % 18446744073709551616 := by
  simp [IntKind.wrap, IntKind.signed, IntKind.bits]

theorem round_true : shuttlelaw14_round.f = some true := by decide +kernel
theorem plus_f (a n : Int) : seq_Plus.f a n = some ((a + n) % 65536) := by
  unfold seq_Plus.f
  rw [u16_wrap, u16_wrap]
  congr 1
  omega
theorem ahead_f (a b : Int) : seq_Ahead.f a b = some ((b - a) % 65536) := by
  unfold seq_Ahead.f
  rw [u16_wrap]
  congr 1
  unfold wrap64
  omega
theorem before_f (a b : Int) : seq_Before.f a b = some (decide (1 ≤ (b - a) % 65536 ∧ (b - a) % 65536 < 32768)) := by
  unfold seq_Before.f
  rw [ahead_f]
  simp only [Option.bind_some]
  by_cases h : (b - a) % 65536 ≥ 1
  · rw [if_pos h]; simp; omega
  · rw [if_neg h]; simp; omega
end SeqOrder
open SeqOrder

theorem SeqOrder : shuttlelaw14_SeqOrder.Pure := by
  intro a n m ha hn hm
  obtain ⟨h0, h1⟩ := wf_u16 ha
  obtain ⟨n0, n1⟩ := wf_i64 hn
  obtain ⟨m0, m1⟩ := wf_i64 hm
  have en : ∃ d : Int, 1 ≤ d ∧ d ≤ 30000 ∧ wrap64 (1 + wrap64 (Int.tmod (IntKind.u64.wrap n) 30000)) = d := by
    rw [u64_wrap, Int.tmod_eq_emod_of_nonneg (by omega)]
    refine ⟨1 + n % 18446744073709551616 % 30000, by omega, by omega, ?_⟩
    unfold wrap64
    omega
  have em : ∃ d : Int, 1 ≤ d ∧ d ≤ 2767 ∧ wrap64 (1 + wrap64 (Int.tmod (IntKind.u64.wrap m) 2767)) = d := by
    rw [u64_wrap, Int.tmod_eq_emod_of_nonneg (by omega)]
    refine ⟨1 + m % 18446744073709551616 % 2767, by omega, by omega, ?_⟩
    unfold wrap64
    omega
  obtain ⟨d, d0, d1, hd⟩ := en
  obtain ⟨c, c0, c1, hc⟩ := em
  unfold shuttlelaw14_SeqOrder.f
  rw [hd, hc, plus_f]
  simp only [Option.bind_some]
  rw [plus_f]
  simp only [Option.bind_some]
  rw [round_true]
  simp only [Option.bind_some, if_true]
  simp only [before_f, ahead_f, Option.bind_some]
  have e : wrap64 (d + c) = d + c := by unfold wrap64; omega
  rw [e]
  rw [if_pos (by rw [decide_eq_true_eq]; omega), if_pos (by rw [decide_eq_true_eq]; omega), if_pos (by rw [decide_eq_true_eq]; omega), if_neg (by rw [decide_eq_true_eq]; omega)]
  have e2 : (((a + d) % 65536 + c) % 65536 - a) % 65536 = d + c := by omega
  rw [e2]
  simp

end Go.Proofs.Ytpkoaleebabmdaa.Pure
