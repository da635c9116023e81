/- What gf2.Rest tells, in plain numbers (turned from our text on chapter 3). Conditions: a divisor of a degree below 63; up to 300 coefficients. -/
import Derived.Test.YtlpinbeppedeeaaQ1
import Derived.Lib.BitFns
namespace Go.Proofs.Ytlpinbeppedeeaa.Pure
open Go.RowKit Go.Proofs.Ytlpinbeppedeeaa.Q Go.Proofs.YtlpinbeppedeeaaW.PrintWords Go.Proofs.YtlpinbeppedeeaaW.PrintLast Go.Proofs.YtlpinbeppedeeaaW.PrintMore

theorem u64_w (n : Int) : IntKind.u64.wrap n = n % 18446744073709551616 := by simp [IntKind.wrap, IntKind.bits, IntKind.signed]
theorem u32_w (n : Int) : IntKind.u32.wrap n = n % 4294967296 := by simp [IntKind.wrap, IntKind.bits, IntKind.signed]
theorem u16_w (n : Int) : IntKind.u16.wrap n = n % 65536 := by simp [IntKind.wrap, IntKind.bits, IntKind.signed]
theorem u8_w (n : Int) : IntKind.u8.wrap n = n % 256 := by simp [IntKind.wrap, IntKind.bits, IntKind.signed]
theorem two_xor (x y : Nat) : 2 * (x ^^^ y) = (2 * x) ^^^ (2 * y) := by
  have := Nat.shiftLeft_xor_distrib (a := x) (b := y) (i := 1)
  simpa [Nat.shiftLeft_eq, Nat.mul_comm] using this
theorem xor_low (x c : Nat) (hc : c < 2) : c ^^^ (2 * x) = 2 * x + c := by
  apply Nat.eq_of_testBit_eq
  intro i
  rw [Nat.testBit_xor]
  cases i with
  | zero =>
    simp only [Nat.testBit_zero]
    rcases (show c = 0 ∨ c = 1 by omega) with rfl | rfl
    · simp
    · simp [Nat.add_mod]
  | succ i =>
    rw [Nat.testBit_succ, Nat.testBit_succ, Nat.testBit_succ, show c / 2 = 0 by omega, show 2 * x / 2 = x by omega, show (2 * x + c) / 2 = x by omega]
    simp
theorem bitLen_le64 (x : Nat) (hx : x < 2 ^ 64) : Lib.bitLen x ≤ 64 := Lib.bitLen_le x 64 (by omega) hx
theorem xor_top (k x y : Nat) (h0 : 2 ^ k ≤ x) (h1 : x < 2 ^ (k + 1)) (g0 : 2 ^ k ≤ y) (g1 : y < 2 ^ (k + 1)) : x ^^^ y < 2 ^ k := by
  have top : ∀ z, 2 ^ k ≤ z → z < 2 ^ (k + 1) → z.testBit k = true := by
    intro z z0 z1
    rw [Nat.testBit_eq_decide_div_mod_eq]
    have : z / 2 ^ k = 1 := by
      apply Nat.div_eq_of_lt_le
      · omega
      · rw [Nat.pow_succ] at z1; omega
    rw [this]
    decide
  apply Nat.lt_pow_two_of_testBit
  intro i hi
  rw [Nat.testBit_xor]
  by_cases e : i = k
  · subst e; rw [top x h0 h1, top y g0 g1]; rfl
  · have hp : 2 ^ (k + 1) ≤ 2 ^ i := Nat.pow_le_pow_right (by omega) (by omega)
    rw [Nat.testBit_lt_two_pow (by omega), Nat.testBit_lt_two_pow (by omega)]
    rfl
theorem xor_eq_zero {x y : Nat} (h : x ^^^ y = 0) : x = y := by
  have : x ^^^ (x ^^^ y) = x := by rw [h, Nat.xor_zero]
  rw [← Nat.xor_assoc, Nat.xor_self, Nat.zero_xor] at this
  exact this.symm
theorem deg_f (k a : Nat) (h : a < 18446744073709551616) : gf2_Degree.f k (a : Int) = some ((Lib.bitLen a : Int) - 1) := by
  unfold gf2_Degree.f bits_Len64.f
  rw [if_pos (by omega), Int.toNat_natCast]
  have := bitLen_le64 a h
  simp only [Option.bind_some]
  congr 1
  unfold wrap64
  omega
theorem bit_f (a k : Nat) (hk : k ≤ 64) (h : a < 18446744073709551616) : Go.bits .and .u64 (shr .u64 (a : Int) (k : Int)) 1 = ((a / 2 ^ k % 2 : Nat) : Int) := by
  unfold shr
  have hb : IntKind.u64.bits = 64 := rfl
  rw [hb, Int.toNat_natCast, Nat.min_eq_left hk]
  have e : (a : Int) / 2 ^ k = ((a / 2 ^ k : Nat) : Int) := by simp
  have hlt : a / 2 ^ k < 18446744073709551616 := Nat.lt_of_le_of_lt (Nat.div_le_self _ _) h
  rw [e, show (1 : Int) = ((1 : Nat) : Int) from rfl, bits_and_u64_nat _ _ hlt (by decide), Nat.and_one_is_mod]
theorem test_bit (a k : Nat) : (a / 2 ^ k % 2 = 1) ↔ a.testBit k = true := by
  rw [Nat.testBit_eq_decide_div_mod_eq, decide_eq_true_eq]

/-- One coefficient more. -/
def rs (b d r c : Nat) : Nat := if (2 * r + c % 2).testBit d = true then (2 * r + c % 2) ^^^ b else 2 * r + c % 2
def fold (b d : Nat) : List Int → Nat → Nat
  | [], r => r
  | c :: t, r => fold b d t (rs b d r c.toNat)
theorem rs_lt (b d r c : Nat) (h0 : 2 ^ d ≤ b) (h1 : b < 2 ^ (d + 1)) (hr : r < 2 ^ d) : rs b d r c < 2 ^ d := by
  unfold rs
  have hx : 2 * r + c % 2 < 2 ^ (d + 1) := by rw [Nat.pow_succ]; omega
  split
  · rename_i ht
    exact xor_top d _ b (Nat.ge_two_pow_of_testBit ht) hx h0 h1
  · rename_i ht
    apply Nat.lt_of_not_le
    intro hle
    apply ht
    rw [Nat.testBit_eq_decide_div_mod_eq]
    have : (2 * r + c % 2) / 2 ^ d = 1 := by
      apply Nat.div_eq_of_lt_le
      · omega
      · rw [Nat.pow_succ] at hx; omega
    rw [this]
    decide
theorem low_u8 (c : Nat) (hc : c < 256) : Go.bits .and .u8 (c : Int) 1 = ((c % 2 : Nat) : Int) := by
  rw [show (1 : Int) = ((1 : Nat) : Int) from rfl, (bits_nat .u8 8 (by decide) wraps_u8 c 1 hc (by decide)).1, Nat.and_one_is_mod]
theorem twice (r : Nat) (h : r < 9223372036854775808) : IntKind.u64.wrap ((r : Int) * 2) = ((2 * r : Nat) : Int) := by rw [u64_w]; omega
theorem bit_w (c : Nat) : IntKind.u64.wrap ((c % 2 : Nat) : Int) = ((c % 2 : Nat) : Int) := by rw [u64_w]; omega
theorem or_low (r c : Nat) (h : r < 9223372036854775808) : Go.bits .or .u64 ((2 * r : Nat) : Int) ((c % 2 : Nat) : Int) = ((2 * r + c % 2 : Nat) : Int) := by
  rw [bits_or_u64_nat _ _ (by omega) (by omega)]
  have := Nat.two_pow_add_eq_or_of_lt (i := 1) (b := c % 2) (by omega) r
  rw [Nat.pow_one] at this
  rw [← this]
theorem rd_at (xs : List Int) (i : Nat) (hlt : i < xs.length) : rd xs (i : Int) = xs[i] := by
  unfold rd
  rw [Int.toNat_natCast, List.getD_eq_getElem?_getD, List.getElem?_eq_getElem hlt]
  rfl
theorem rest_loop (b d : Nat) (hd : d < 63) (h0 : 2 ^ d ≤ b) (h1 : b < 2 ^ (d + 1)) (xs : List Int) (hx : ∀ x ∈ xs, 0 ≤ x ∧ x ≤ 255) (hl : xs.length ≤ 1000) (n : Int) (hn : n = xs.length) (m : Nat) : ∀ (k i r : Nat), r < 2 ^ d → i + m = xs.length → m < k →
    gf2_Rest.l0 k (b : Int) (d : Int) (r : Int) xs n (i : Int) = some (((fold b d (xs.drop i) r : Nat) : Int), true) := by
  subst hn
  have p : (2 : Nat) ^ d ≤ 4611686018427387904 := Nat.le_trans (Nat.pow_le_pow_right (by decide) (show d ≤ 62 by omega)) (by decide)
  have p1 : (2 : Nat) ^ (d + 1) ≤ 9223372036854775808 := Nat.le_trans (Nat.pow_le_pow_right (by decide) (show d + 1 ≤ 63 by omega)) (by decide)
  induction m with
  | zero =>
    intro k i r hr hi hk
    obtain ⟨k, rfl⟩ : ∃ j, k = j + 1 := ⟨k - 1, by omega⟩
    rw [gf2_Rest.l0, if_neg (by omega), List.drop_of_length_le (by omega), fold]
  | succ m ih =>
    intro k i r hr hi hk
    obtain ⟨k, rfl⟩ : ∃ j, k = j + 1 := ⟨k - 1, by omega⟩
    have hlt : i < xs.length := by omega
    obtain ⟨c0, c1⟩ := hx xs[i] (List.getElem_mem hlt)
    obtain ⟨c, hc⟩ := Int.eq_ofNat_of_zero_le c0
    have e1 : wrap64 ((i : Int) + 1) = ((i + 1 : Nat) : Int) := by unfold wrap64; omega
    rw [gf2_Rest.l0, if_pos (Int.ofNat_lt.mpr hlt), if_pos (Int.natCast_nonneg i), if_pos (Int.ofNat_lt.mpr hlt), if_pos (Int.natCast_nonneg d), rd_at xs i hlt, hc, low_u8 c (by omega), twice r (by omega), bit_w, or_low r c (by omega), bit_f _ d (by omega) (by omega), e1, List.drop_eq_getElem_cons hlt, fold, hc, Int.toNat_natCast]
    have hrs := rs_lt b d r c h0 h1 hr
    have hi2 := ih k (i + 1) (rs b d r c) hrs (by omega) (by omega)
    by_cases ht : (2 * r + c % 2).testBit d = true
    · have := (test_bit (2 * r + c % 2) d).2 ht
      rw [if_pos (by omega), bits_xor_u64_nat _ _ (by omega) (by omega)]
      have e2 : rs b d r c = (2 * r + c % 2) ^^^ b := by unfold rs; rw [if_pos ht]
      rw [e2] at hi2 ⊢
      exact hi2
    · have hne : ¬ (2 * r + c % 2) / 2 ^ d % 2 = 1 := fun h => ht ((test_bit _ _).1 h)
      rw [if_neg (by omega)]
      have e2 : rs b d r c = 2 * r + c % 2 := by unfold rs; rw [if_neg ht]
      rw [e2] at hi2 ⊢
      exact hi2
theorem wf_u8 {n : Int} (h : (Lit.int .u8 n).wf = true) : 0 ≤ n ∧ n ≤ 255 := by
  simp [Lit.wf, IntKind.min, IntKind.max, IntKind.signed, IntKind.bits] at h
  exact h
theorem run_rest (b d : Nat) (hd : d < 63) (h0 : 2 ^ d ≤ b) (h1 : b < 2 ^ (d + 1)) (k : Nat) (xs : List Int) (hx : ∀ x ∈ xs, 0 ≤ x ∧ x ≤ 255) (hl : xs.length ≤ 300) (hk : 400 ≤ k) :
    gf2_Rest.j0 k xs (b : Int) (d : Int) false = some (((fold b d xs 0 : Nat) : Int), true) := by
  obtain ⟨k, rfl⟩ : ∃ m, k = m + 1 := ⟨k - 1, by omega⟩
  rw [gf2_Rest.j0, if_neg (by simp)]
  exact rest_loop b d hd h0 h1 xs hx (by omega) xs.length rfl xs.length k 0 0 (Nat.two_pow_pos d) (by omega) (by omega)
theorem rest_f (b d : Nat) (hb : b < 18446744073709551616) (_ : b ≠ 0) (hl : Lib.bitLen b = d + 1) (hd : d < 63) (h0 : 2 ^ d ≤ b) (h1 : b < 2 ^ (d + 1)) (k : Nat) (xs : List Int) (hx : ∀ x ∈ xs, 0 ≤ x ∧ x ≤ 255) (hxl : xs.length ≤ 300) (hk : 400 ≤ k) :
    gf2_Rest.f k xs (b : Int) = some (((fold b d xs 0 : Nat) : Int), true) := by
  unfold gf2_Rest.f
  have e3 : ((Lib.bitLen b : Nat) : Int) - 1 = (d : Int) := by omega
  have e : ((d : Int) == 63) = false := by rw [beq_eq_false_iff_ne]; omega
  rw [deg_f k b hb, Option.bind_some, e3, if_neg (by omega), e]
  exact run_rest b d hd h0 h1 k xs hx hxl hk
end Go.Proofs.Ytlpinbeppedeeaa.Pure
