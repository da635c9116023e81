/- A product with a sum is the sum of the products, for polynomials of a degree below 31 (the plain law of the printed function). No condition beside the types' own ranges. -/
import Derived.Test.YtbkeogllicgbaaaDoorQ3
import Derived.Test.YtbkeogllicgbaaaDoorGq
namespace Go.Proofs.YtbkeogllicgbaaaDoor.Pure
open Go.RowKit Go.Proofs.YtbkeogllicgbaaaDoor.Q Go.Proofs.YtbkeogllicgbaaaDoorW.PrintWords Go.Proofs.YtbkeogllicgbaaaDoorW.PrintLast Go.Proofs.YtbkeogllicgbaaaDoorW.PrintMore Gf
set_option linter.unusedVariables false
theorem tmod_nat (a m : Nat) (hm : 0 < m) : Int.tmod (a : Int) (m : Int) = ((a % m : Nat) : Int) := by
  rw [Int.tmod_eq_emod_of_nonneg (by omega)]
  simp
theorem Gf2Spreads : shuttlelaw03_Gf2Spreads.Pure := by
  intro a0 b0 c0 ha0 hb0 hc0
  obtain ⟨a, rfl, ha⟩ := wf_u64 ha0
  obtain ⟨b, rfl, hb⟩ := wf_u64 hb0
  obtain ⟨c, rfl, hc⟩ := wf_u64 hc0
  refine ⟨100, ?_⟩
  unfold shuttlelaw03_Gf2Spreads.f gf2_Add.f
  have em : ∀ z : Nat, Int.tmod (z : Int) 2147483648 = ((z % 2147483648 : Nat) : Int) := fun z => tmod_nat z 2147483648 (by omega)
  rw [em a, em b, em c]
  have xa : a % 2147483648 < 2 ^ 31 := Nat.mod_lt _ (by omega)
  have xb : b % 2147483648 < 2 ^ 31 := Nat.mod_lt _ (by omega)
  have xc : c % 2147483648 < 2 ^ 31 := Nat.mod_lt _ (by omega)
  generalize a % 2147483648 = x at *
  generalize b % 2147483648 = y at *
  generalize c % 2147483648 = z at *
  have xyz : y ^^^ z < 2 ^ 31 := Nat.xor_lt_two_pow xb xc
  have fit : ∀ u v : Nat, u < 2 ^ 31 → v < 2 ^ 31 → fits u v := fun u v hu hv =>
    .inr (.inr (by have := Lib.bitLen_le u 31 (by omega) hu; have := Lib.bitLen_le v 31 (by omega) hv; omega))
  rw [bits_xor_u64_nat y z (by omega) (by omega)]
  simp only [Option.bind_some]
  rw [(times_f x (y ^^^ z) 100 (by omega) (by omega) (by omega)).1 (fit _ _ xa xyz), (times_f x y 100 (by omega) (by omega) (by omega)).1 (fit _ _ xa xb), (times_f x z 100 (by omega) (by omega) (by omega)).1 (fit _ _ xa xc), polys_f 100 (by omega)]
  simp only [Option.bind_some, if_true]
  rw [bits_xor_u64_nat _ _ (cl_lt (by omega) (by omega) (fit _ _ xa xb)) (cl_lt (by omega) (by omega) (fit _ _ xa xc)), cl_add]
  simp

end Go.Proofs.YtbkeogllicgbaaaDoor.Pure
