/- What math/bits.Len64 tells, as the print asks for it. No condition. -/
import Derived.Test.YtlpinbeppedeeaaBytes
import Derived.Test.YtlpinbeppedeeaaLen
namespace Go.Proofs.Ytlpinbeppedeeaa.Q
open Go Go.RowKit Go.Proofs.YtlpinbeppedeeaaW.PrintWords Go.Proofs.YtlpinbeppedeeaaW.PrintLast Go.Proofs.YtlpinbeppedeeaaW.PrintMore
def bits_Len64.f (_k : Nat) (a0 : Int) : Option (Int) := if 0 ≤ a0 ∧ a0 < 18446744073709551616 then some (Lib.bitLen a0.toNat : Int) else none
theorem bits_Len64.mono : ∀ a0 k, LeO (bits_Len64.f k a0) (bits_Len64.f (k + 1) a0) := fun _ _ => LeO.refl _
theorem bits_Len64.calls (k : Nat) (a0 : Int) (r : Int) (w : World) (h : bits_Len64.f k a0 = some r) :
    Calls Try.prog 19 #[.int .u64 a0] w fun e w' => e = .returned (.int .i64 r) ∧ Drawn0 w w' := by
  unfold bits_Len64.f at h
  by_cases c : 0 ≤ a0 ∧ a0 < 18446744073709551616
  · rw [if_pos c] at h
    obtain rfl := Option.some.inj h
    exact (len64_core a0 w c.1 (by omega)).mono fun e w' ⟨h1, h2⟩ => ⟨h1, h2 ▸ Drawn0.refl _⟩
  · rw [if_neg c] at h
    cases h

end Go.Proofs.Ytlpinbeppedeeaa.Q
