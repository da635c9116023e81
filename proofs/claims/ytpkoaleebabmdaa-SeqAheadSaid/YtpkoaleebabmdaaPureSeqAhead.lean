/- Of any two 16-bit numbers it is told how far one is ahead of the other, as the document's count tells, whether it is before, and whether it is one of so many. No condition beside the types' own ranges. -/
import Derived.Test.YtpkoaleebabmdaaPSeqAheadx1
namespace Go.Proofs.Ytpkoaleebabmdaa.Pure
open Go.RowKit Go.Proofs.Ytpkoaleebabmdaa.PSeqAhead Go.Proofs.YtpkoaleebabmdaaW.PrintWords Go.Proofs.YtpkoaleebabmdaaW.PrintLast Go.Proofs.YtpkoaleebabmdaaW.PrintMore
namespace SeqAhead
theorem wf_i64 {n : Int} (h : (Lit.int .i64 n).wf = true) : -9223372036854775808 ≤ n ∧ n ≤ 9223372036854775807 := by
  simp [Lit.wf, IntKind.min, IntKind.max, IntKind.signed, IntKind.bits] at h
  exact h
theorem wf_u16 {n : Int} (h : (Lit.int .u16 n).wf = true) : 0 ≤ n ∧ n ≤ 65535 := by
  simp [Lit.wf, IntKind.min, IntKind.max, IntKind.signed, IntKind.bits] at h
  exact h
theorem u16_wrap (n : Int) : IntKind.u16.wrap n = n % 65536 := by
  simp [IntKind.wrap, IntKind.signed, IntKind.bits]
theorem u64_wrap (n : Int) : IntKind.u64.wrap n = n % 18446744073709551616 := by
  simp [IntKind.wrap, IntKind.signed, IntKind.bits]

theorem round_true : shuttlelaw14_round.f = some true := by decide +kernel
theorem ahead_f (a b : Int) : seq_Ahead.f a b = some ((b - a) % 65536) := by
  unfold seq_Ahead.f
  rw [u16_wrap]
  congr 1
  unfold wrap64
  omega
theorem before_f (a b : Int) : seq_Before.f a b = some (decide (1 ≤ (b - a) % 65536 ∧ (b - a) % 65536 < 32768)) := by
  unfold seq_Before.f
  rw [ahead_f]
  simp only [Option.bind_some]
  by_cases h : (b - a) % 65536 ≥ 1
  · rw [if_pos h]; simp; omega
  · rw [if_neg h]; simp; omega
theorem within_f (a n b : Int) : seq_Within.f a n b = some (decide ((b - a) % 65536 < n)) := by
  unfold seq_Within.f
  rw [ahead_f]
  rfl
theorem ref (a n : Int) (h0 : 0 ≤ a) (h1 : a ≤ 65535) (n0 : 0 ≤ n) (n1 : n ≤ 65535) : shuttleref14_Plus.f a n = some ((a + n) % 65536) := by
  unfold shuttleref14_Plus.f
  congr 1
  have e0 : Int.tmod n 65536 = n % 65536 := Int.tmod_eq_emod_of_nonneg n0
  have em : n % 65536 = n := Int.emod_eq_of_lt n0 (by omega)
  have e1 : wrap64 (a + n % 65536) = a + n % 65536 := by rw [em]; unfold wrap64; omega
  have e2 : Int.tmod (a + n % 65536) 65536 = (a + n % 65536) % 65536 := Int.tmod_eq_emod_of_nonneg (by omega)
  have e3 : wrap64 ((a + n % 65536) % 65536 + 65536) = (a + n % 65536) % 65536 + 65536 := by unfold wrap64; omega
  have e4 : Int.tmod ((a + n % 65536) % 65536 + 65536) 65536 = ((a + n % 65536) % 65536 + 65536) % 65536 := Int.tmod_eq_emod_of_nonneg (by omega)
  rw [e0, e1, e2, e3, e4]
  omega
theorem steps (a b : Int) (a0 : 0 ≤ a) (a1 : a ≤ 65535) (b0 : 0 ≤ b) (b1 : b ≤ 65535) (d : Nat) : ∀ (k : Nat) (i : Int), 0 ≤ i → i + d = (b - a) % 65536 → d < k →
    shuttleref14_Ahead.l0 k a b i = some ((b - a) % 65536) := by
  induction d with
  | zero =>
    intro k i i0 hi hk
    obtain ⟨k, rfl⟩ : ∃ m, k = m + 1 := ⟨k - 1, by omega⟩
    simp only [shuttleref14_Ahead.l0]
    rw [ref a i a0 a1 i0 (by omega)]
    simp only [Option.bind_some]
    rw [if_pos (by omega)]
    congr 1
    omega
  | succ d ih =>
    intro k i i0 hi hk
    obtain ⟨k, rfl⟩ : ∃ m, k = m + 1 := ⟨k - 1, by omega⟩
    simp only [shuttleref14_Ahead.l0]
    rw [ref a i a0 a1 i0 (by omega)]
    simp only [Option.bind_some]
    rw [if_neg (by omega)]
    have e : wrap64 (i + 1) = i + 1 := by unfold wrap64; omega
    rw [e]
    exact ih k (i + 1) (by omega) (by omega) (by omega)
theorem ref_ahead (a b : Int) (a0 : 0 ≤ a) (a1 : a ≤ 65535) (b0 : 0 ≤ b) (b1 : b ≤ 65535) : shuttleref14_Ahead.f 65537 (wrap64 a) (wrap64 b) = some ((b - a) % 65536) := by
  have e : wrap64 a = a := by unfold wrap64; omega
  have e' : wrap64 b = b := by unfold wrap64; omega
  unfold shuttleref14_Ahead.f
  rw [e, e']
  exact steps a b a0 a1 b0 b1 ((b - a) % 65536).toNat 65537 0 (by omega) (by omega) (by omega)
end SeqAhead
open SeqAhead

theorem SeqAhead : shuttlelaw14_SeqAhead.Pure := by
  intro a b s ha hb hs
  obtain ⟨a0, a1⟩ := wf_u16 ha
  obtain ⟨b0, b1⟩ := wf_u16 hb
  refine ⟨65537, ?_⟩
  unfold shuttlelaw14_SeqAhead.f
  rw [ref_ahead a b a0 a1 b0 b1, round_true]
  simp only [before_f, ahead_f, within_f, Option.bind_some, if_true]
  generalize hw : (b - a) % 65536 = w
  generalize hv : (a - b) % 65536 = v
  have hj : shuttlelaw14_SeqAhead.j0 65537 a b w w v false = some true := by
    show shuttlelaw14_SeqAhead.j0 (65536 + 1) a b w w v false = some true
    simp only [shuttlelaw14_SeqAhead.j0, before_f, Option.bind_some]
    rw [if_neg (by simp), hw, hv]
    have e : wrap64 (w + v) = w + v := by unfold wrap64; omega
    rw [e]
    by_cases h : w = 0
    · rw [if_pos h, if_pos (by omega)]; simp; omega
    · rw [if_neg h, if_pos (by omega)]
      by_cases h2 : w = 32768
      · rw [if_pos h2]
      · rw [if_neg h2]
        congr 1
        rw [bne_iff_ne, ne_eq, decide_eq_decide]
        omega
  have e1 : decide (1 ≤ w ∧ w < 32768) = decide (w ≤ 32767) ∨ ¬ w ≥ 1 := by
    by_cases h : w ≥ 1
    · left; rw [decide_eq_decide]; omega
    · exact .inr h
  by_cases h : w ≥ 1
  · rw [if_pos h]
    have e1 : decide (1 ≤ w ∧ w < 32768) = decide (w ≤ 32767) := by rw [decide_eq_decide]; omega
    rw [e1]
    simp only [bne_self_eq_false, Bool.false_eq_true, if_false]
    exact hj
  · rw [if_neg h]
    have e1 : decide (1 ≤ w ∧ w < 32768) = false := by rw [decide_eq_false_iff_not]; omega
    rw [e1]
    simp only [bne_self_eq_false, Bool.false_eq_true, if_false]
    exact hj

end Go.Proofs.Ytpkoaleebabmdaa.Pure
