/- Of all 16-bit numbers and all counts, the program's Plus tells what the document's Plus tells, and going as many back comes to the first number again. No condition beside the types' own ranges. -/
import Derived.Test.YtpkoaleebabmdaaPSeqPlusx1
namespace Go.Proofs.Ytpkoaleebabmdaa.Pure
open Go.RowKit Go.Proofs.Ytpkoaleebabmdaa.PSeqPlus Go.Proofs.YtpkoaleebabmdaaW.PrintWords Go.Proofs.YtpkoaleebabmdaaW.PrintLast Go.Proofs.YtpkoaleebabmdaaW.PrintMore
namespace SeqPlus
theorem wf_i64 {n : Int} (h : (Lit.int .i64 n).wf = true) : -9223372036854775808 ≤ n ∧ n ≤ 9223372036854775807 := by
  simp [Lit.wf, IntKind.min, IntKind.max, IntKind.signed, IntKind.bits] at h
  exact h
theorem wf_u16 {n : Int} (h : (Lit.int .u16 n).wf = true) : 0 ≤ n ∧ n ≤ 65535 := by
  simp [Lit.wf, IntKind.min, IntKind.max, IntKind.signed, IntKind.bits] at h
  exact h
theorem u16_wrap (n : Int) : IntKind.u16.wrap n = n % 65536 := by
  simp [IntKind.wrap, IntKind.signed, IntKind.bits]
theorem u64_wrap (n : Int) : IntKind.u64.wrap n = n % 18446744073709551616 := by
  simp [IntKind.wrap, IntKind.signed, IntKind.bits]

theorem round_true : shuttlelaw14_round.f = some true := by decide +kernel
theorem plus_f (a n : Int) : seq_Plus.f a n = some ((a + n) % 65536) := by
  unfold seq_Plus.f
  rw [u16_wrap, u16_wrap]
  congr 1
  omega
theorem back (a n : Int) (h0 : 0 ≤ a) (h1 : a ≤ 65535) : ((a + n) % 65536 + wrap64 (-n)) % 65536 = a := by
  unfold wrap64
  omega
theorem tmod_16 (x : Int) : (Int.tmod x 65536 = x % 65536) ∨ (Int.tmod x 65536 = x % 65536 - 65536 ∧ 0 < x % 65536) := by
  rw [Int.tmod_eq_emod]
  split
  · left; simp
  · rename_i h
    right
    have h' : ¬ (65536 : Int) ∣ x := fun hd => h (.inr hd)
    have : x % 65536 ≠ 0 := fun e => h' (Int.dvd_of_emod_eq_zero e)
    simp
    omega
theorem ref (a n : Int) (h0 : 0 ≤ a) (h1 : a ≤ 65535) : shuttleref14_Plus.f (wrap64 a) n = some ((a + n) % 65536) := by
  unfold shuttleref14_Plus.f
  have e : wrap64 a = a := by unfold wrap64; omega
  rw [e]
  congr 1
  have hm := tmod_16 n
  generalize Int.tmod n 65536 = t at *
  have e1 : wrap64 (a + t) = a + t := by unfold wrap64; omega
  rw [e1]
  have hs := tmod_16 (a + t)
  generalize Int.tmod (a + t) 65536 = s at *
  have e2 : wrap64 (s + 65536) = s + 65536 := by unfold wrap64; omega
  rw [e2, Int.tmod_eq_emod_of_nonneg (by omega)]
  omega
end SeqPlus
open SeqPlus

theorem SeqPlus : shuttlelaw14_SeqPlus.Pure := by
  intro a n ha _
  obtain ⟨h0, h1⟩ := wf_u16 ha
  unfold shuttlelaw14_SeqPlus.f
  rw [plus_f]
  simp only [Option.bind_some]
  rw [plus_f]
  simp only [Option.bind_some]
  rw [round_true]
  simp only [Option.bind_some, if_true]
  rw [ref a n h0 h1, back a n h0 h1]
  simp only [Option.bind_some]
  have e : wrap64 ((a + n) % 65536) = (a + n) % 65536 := by unfold wrap64; omega
  rw [e]
  simp

end Go.Proofs.Ytpkoaleebabmdaa.Pure
