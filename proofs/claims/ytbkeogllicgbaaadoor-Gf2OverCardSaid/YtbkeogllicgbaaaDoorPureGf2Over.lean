/- Of all polynomials quotient and rest are told: together they are what was divided, and the rest is shorter than the divisor (the plain law of the printed function). No condition beside the types' own ranges. -/
import Derived.Test.YtbkeogllicgbaaaDoorQ2
import Derived.Test.YtbkeogllicgbaaaDoorGq
namespace Go.Proofs.YtbkeogllicgbaaaDoor.Pure
open Go.RowKit Go.Proofs.YtbkeogllicgbaaaDoor.Q Go.Proofs.YtbkeogllicgbaaaDoorW.PrintWords Go.Proofs.YtbkeogllicgbaaaDoorW.PrintLast Go.Proofs.YtbkeogllicgbaaaDoorW.PrintMore Gf
set_option linter.unusedVariables false

theorem Gf2Over : shuttlelaw03_Gf2Over.Pure := by
  intro a0 b0 ha0 hb0
  obtain ⟨a, rfl, ha⟩ := wf_u64 ha0
  obtain ⟨b, rfl, hb⟩ := wf_u64 hb0
  refine ⟨100, ?_⟩
  unfold shuttlelaw03_Gf2Over.f
  by_cases h0 : b = 0
  · subst h0
    rw [show ((0 : Nat) : Int) = 0 from rfl, over_zero, polys_f 100 (by omega)]
    simp only [Option.bind_some, if_true]
    rw [show (100 : Nat) = 99 + 1 from rfl, show (false != ((0 : Int) != 0)) = false by decide, shuttlelaw03_Gf2Over.j0, if_neg (by simp), if_neg (by simp), if_pos rfl]
    rfl
  · obtain ⟨q, r, h1, h2, h3, h4, h5⟩ := over_f a b 100 ha hb h0 (by omega)
    have hb0 : ((b : Int) != 0) = true := by rw [bne_iff_ne]; omega
    rw [h1, polys_f 100 (by omega)]
    simp only [Option.bind_some, if_true]
    rw [hb0, show (true != true) = false by decide, show (100 : Nat) = 99 + 1 from rfl, shuttlelaw03_Gf2Over.j0, if_neg (by simp), if_pos rfl]
    have hf : fits q b := by
      by_cases hq : q = 0
      · exact .inl hq
      · refine .inr (.inr ?_)
        have lq := bitLen_len q h2
        have lb := bitLen_len b hb
        have hl := cl_len q _ lq (lq.pos hq) b _ lb (lb.pos h0)
        have hc : cl q b < 2 ^ 64 := by
          have : cl q b = a ^^^ r := by rw [← h5, Nat.xor_assoc, Nat.xor_self, Nat.xor_zero]
          rw [this]
          exact Nat.xor_lt_two_pow ha h3
        have h6 := hl.unique (bitLen_len _ hc)
        have := bitLen_le64 _ hc
        omega
    rw [(ref_times q b 99 h2 hb (by omega)).1 hf]
    simp only [Option.bind_some, if_true]
    rw [bits_xor_u64_nat _ _ (cl_lt h2 hb hf) h3, h5, if_pos rfl, ref_deg r 99 h3 (by omega), ref_deg b 99 hb (by omega)]
    simp only [Option.bind_some]
    rw [decide_eq_true (by omega)]

end Go.Proofs.YtbkeogllicgbaaaDoor.Pure
