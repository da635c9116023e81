/- What the printed functions of chapter 3 come to, in plain numbers: degree, product, quotient and rest, what divides both, and the references'. Conditions: the numbers have 64 bits. -/
import Derived.Test.YtbkeogllicgbaaaDoorQ2
import Derived.Test.YtbkeogllicgbaaaDoorGf
namespace Go.Proofs.YtbkeogllicgbaaaDoor.Q
open Go.RowKit Go.Proofs.YtbkeogllicgbaaaDoorW.PrintWords Go.Proofs.YtbkeogllicgbaaaDoorW.PrintLast Go.Proofs.YtbkeogllicgbaaaDoorW.PrintMore
open Gf
set_option linter.unusedVariables false

theorem wf_u64 {n : Int} (h : (Lit.int .u64 n).wf = true) : ∃ a : Nat, n = a ∧ a < 18446744073709551616 := by
  simp [Lit.wf, IntKind.min, IntKind.max, IntKind.signed, IntKind.bits] at h
  obtain ⟨a, rfl⟩ := Int.eq_ofNat_of_zero_le h.1
  exact ⟨a, rfl, by omega⟩
theorem deg_f (k a : Nat) (h : a < 18446744073709551616) : gf2_Degree.f k (a : Int) = some ((Lib.bitLen a : Int) - 1) := by
  unfold gf2_Degree.f bits_Len64.f
  rw [if_pos (by omega), Int.toNat_natCast]
  have := bitLen_le64 a h
  simp only [Option.bind_some]
  congr 1
  unfold wrap64
  omega
theorem shl_f (a k : Nat) (hk : k ≤ 64) (h : a * 2 ^ k < 18446744073709551616) : shl .u64 (a : Int) (k : Int) = ((a * 2 ^ k : Nat) : Int) := by
  unfold shl
  have hb : IntKind.u64.bits = 64 := rfl
  rw [hb, Int.toNat_natCast, Nat.min_eq_left hk, u64_w]
  have e : (a : Int) * 2 ^ k = ((a * 2 ^ k : Nat) : Int) := by simp
  rw [e]
  generalize a * 2 ^ k = p at *
  omega
theorem bit_f (a k : Nat) (hk : k ≤ 64) (h : a < 18446744073709551616) : Go.bits .and .u64 (shr .u64 (a : Int) (k : Int)) 1 = ((a / 2 ^ k % 2 : Nat) : Int) := by
  unfold shr
  have hb : IntKind.u64.bits = 64 := rfl
  rw [hb, Int.toNat_natCast, Nat.min_eq_left hk]
  have e : (a : Int) / 2 ^ k = ((a / 2 ^ k : Nat) : Int) := by simp
  have hlt : a / 2 ^ k < 18446744073709551616 := Nat.lt_of_le_of_lt (Nat.div_le_self _ _) h
  rw [e, show (1 : Int) = ((1 : Nat) : Int) from rfl, bits_and_u64_nat _ _ hlt (by decide), Nat.and_one_is_mod]
theorem test_bit (a k : Nat) : (a / 2 ^ k % 2 = 1) ↔ a.testBit k = true := by
  rw [Nat.testBit_eq_decide_div_mod_eq, decide_eq_true_eq]

/-! ### Quotient and rest -/
theorem or_new (q by_ : Nat) (h : 2 ^ (by_ + 1) ∣ q) : q ||| 2 ^ by_ = q ^^^ 2 ^ by_ := by
  obtain ⟨m, rfl⟩ := h
  apply Nat.eq_of_testBit_eq
  intro i
  rw [Nat.testBit_or, Nat.testBit_xor, Nat.testBit_two_pow]
  by_cases e : by_ = i
  · subst e
    have : (2 ^ (by_ + 1) * m).testBit by_ = false := by
      rw [Nat.mul_comm, Nat.testBit_mul_two_pow]
      have : decide (by_ + 1 ≤ by_) = false := by rw [decide_eq_false_iff_not]; omega
      rw [this]
      rfl
    rw [this]
    simp
  · simp [e]
theorem len_lo {b : Nat} (hb : b < 18446744073709551616) (h0 : b ≠ 0) : 1 ≤ Lib.bitLen b ∧ 2 ^ (Lib.bitLen b - 1) ≤ b ∧ b < 2 ^ (Lib.bitLen b) := by
  have h := bitLen_len b hb
  have hp := h.pos h0
  rcases h.2 with e | e
  · omega
  · exact ⟨hp, e, h.1⟩
theorem over_loop (b : Nat) (hb : b < 18446744073709551616) (h0 : b ≠ 0) (d : Nat) : ∀ (k a q : Nat), Lib.bitLen a ≤ d → d < k → a < 18446744073709551616 → q < 18446744073709551616 →
    (Lib.bitLen b ≤ Lib.bitLen a → 2 ^ (Lib.bitLen a - Lib.bitLen b + 1) ∣ q) →
    ∃ q' r : Nat, gf2_Over.l0 k (a : Int) (b : Int) (q : Int) = some ((q' : Int), (r : Int), true) ∧ q' < 18446744073709551616 ∧ r < 18446744073709551616 ∧ Lib.bitLen r < Lib.bitLen b ∧ cl q' b ^^^ r = cl q b ^^^ a := by
  obtain ⟨lb1, lb2, lb3⟩ := len_lo hb h0
  induction d with
  | zero =>
    intro k a q hd hk ha hq hdiv
    obtain ⟨k, rfl⟩ : ∃ m, k = m + 1 := ⟨k - 1, by omega⟩
    refine ⟨q, a, ?_, hq, ha, by omega, rfl⟩
    rw [gf2_Over.l0, deg_f k a ha, deg_f k b hb]
    simp only [Option.bind_some]
    rw [if_neg (by omega)]
  | succ d ih =>
    intro k a q hd hk ha hq hdiv
    obtain ⟨k, rfl⟩ : ∃ m, k = m + 1 := ⟨k - 1, by omega⟩
    rw [gf2_Over.l0, deg_f k a ha, deg_f k b hb]
    simp only [Option.bind_some]
    by_cases hc : Lib.bitLen b ≤ Lib.bitLen a
    · rw [if_pos (by omega)]
      have ha0 : a ≠ 0 := by
        intro e
        subst e
        rw [bitLen_zero] at hc
        omega
      obtain ⟨la1, la2, la3⟩ := len_lo ha ha0
      have hla := bitLen_le64 a ha
      obtain ⟨by_, hby⟩ : ∃ n, Lib.bitLen a = Lib.bitLen b + n := ⟨Lib.bitLen a - Lib.bitLen b, by omega⟩
      have e1 : wrap64 ((Lib.bitLen a : Int) - 1 - ((Lib.bitLen b : Int) - 1)) = (by_ : Int) := by unfold wrap64; omega
      rw [e1, if_pos (by omega)]
      have p64 : (2 : Nat) ^ Lib.bitLen a ≤ 2 ^ 64 := Nat.pow_le_pow_right (by omega) hla
      have hs : b * 2 ^ by_ < 2 ^ Lib.bitLen a := by rw [hby, Nat.pow_add]; exact Nat.mul_lt_mul_of_pos_right lb3 (Nat.two_pow_pos _)
      have hs0 : 2 ^ (Lib.bitLen a - 1) ≤ b * 2 ^ by_ := by
        have : Lib.bitLen a - 1 = (Lib.bitLen b - 1) + by_ := by omega
        rw [this, Nat.pow_add]
        exact Nat.mul_le_mul_right _ lb2
      have h1 : 1 * 2 ^ by_ < 18446744073709551616 := by
        have : (2 : Nat) ^ by_ ≤ b * 2 ^ by_ := Nat.le_mul_of_pos_left _ (by omega)
        omega
      rw [shl_f b by_ (by omega) (by omega), bits_xor_u64_nat a _ ha (by omega)]
      have es : shl .u64 1 (by_ : Int) = ((2 ^ by_ : Nat) : Int) := by
        have := shl_f 1 by_ (by omega) h1
        rw [Nat.one_mul] at this
        exact this
      rw [Nat.one_mul] at h1
      have hdv := hdiv hc
      have hby2 : Lib.bitLen a - Lib.bitLen b + 1 = by_ + 1 := by omega
      rw [hby2] at hdv
      rw [es, bits_or_u64_nat q _ hq h1, or_new q by_ hdv]
      have hla1 : Lib.bitLen a = (Lib.bitLen a - 1) + 1 := by omega
      have hx : a ^^^ (b * 2 ^ by_) < 2 ^ (Lib.bitLen a - 1) := xor_top (Lib.bitLen a - 1) a (b * 2 ^ by_) la2 (by rw [← hla1]; exact la3) hs0 (by rw [← hla1]; exact hs)
      have hp1 : (2 : Nat) ^ (Lib.bitLen a - 1) ≤ 2 ^ Lib.bitLen a := Nat.pow_le_pow_right (by omega) (by omega)
      have hlx : Lib.bitLen (a ^^^ (b * 2 ^ by_)) ≤ Lib.bitLen a - 1 := Lib.bitLen_le _ _ (by omega) hx
      have hq2 : q ^^^ 2 ^ by_ < 18446744073709551616 := Nat.xor_lt_two_pow (n := 64) hq h1
      obtain ⟨q', r, hr, r1, r2, r3, r4⟩ := ih k (a ^^^ (b * 2 ^ by_)) (q ^^^ 2 ^ by_) (by omega) (by omega) (by omega) hq2 (fun hc2 => by
        have hle : Lib.bitLen (a ^^^ (b * 2 ^ by_)) - Lib.bitLen b + 1 ≤ by_ := by omega
        have d1 : 2 ^ (Lib.bitLen (a ^^^ (b * 2 ^ by_)) - Lib.bitLen b + 1) ∣ 2 ^ by_ := Nat.pow_dvd_pow 2 hle
        have d2 : 2 ^ (Lib.bitLen (a ^^^ (b * 2 ^ by_)) - Lib.bitLen b + 1) ∣ q := Nat.dvd_trans (Nat.pow_dvd_pow 2 (by omega)) hdv
        rw [← or_new q by_ hdv]
        obtain ⟨m, hm⟩ := hdv
        have : q ||| 2 ^ by_ = q + 2 ^ by_ := by
          rw [hm, ← Nat.two_pow_add_eq_or_of_lt (by rw [Nat.pow_succ]; have := Nat.two_pow_pos by_; omega)]
        rw [this]
        exact Nat.dvd_add d2 d1)
      refine ⟨q', r, hr, r1, r2, r3, ?_⟩
      rw [r4, cl_add_left, cl_comm (2 ^ by_) b, cl_pow]
      calc cl q b ^^^ b * 2 ^ by_ ^^^ (a ^^^ b * 2 ^ by_) = (cl q b ^^^ a) ^^^ (b * 2 ^ by_ ^^^ b * 2 ^ by_) := by ac_rfl
        _ = cl q b ^^^ a := by rw [Nat.xor_self, Nat.xor_zero]
    · rw [if_neg (by omega)]
      exact ⟨q, a, rfl, hq, ha, by omega, rfl⟩
/-- Over: quotient and rest, plainly. -/
theorem over_f (a b k : Nat) (ha : a < 18446744073709551616) (hb : b < 18446744073709551616) (h0 : b ≠ 0) (hk : 64 < k) :
    ∃ q r : Nat, gf2_Over.f k (a : Int) (b : Int) = some ((q : Int), (r : Int), true) ∧ q < 18446744073709551616 ∧ r < 18446744073709551616 ∧ Lib.bitLen r < Lib.bitLen b ∧ cl q b ^^^ r = a := by
  unfold gf2_Over.f
  rw [if_neg (by omega)]
  obtain ⟨q, r, h1, h2, h3, h4, h5⟩ := over_loop b hb h0 64 k a 0 (bitLen_le64 a ha) hk ha (by omega) (fun _ => Nat.dvd_zero _)
  rw [cl_zero_left, Nat.zero_xor] at h5
  exact ⟨q, r, h1, h2, h3, h4, h5⟩
theorem over_zero (a : Int) (k : Nat) : gf2_Over.f k a 0 = some (0, 0, false) := by
  unfold gf2_Over.f
  rw [if_pos rfl]
/-- The rest of one and the same number is one. -/
theorem over_once {a b q r q' r' : Nat} (hb : b < 18446744073709551616) (h0 : b ≠ 0) (hr : r < 18446744073709551616) (hr' : r' < 18446744073709551616) (h1 : Lib.bitLen r < Lib.bitLen b) (h2 : Lib.bitLen r' < Lib.bitLen b)
    (e1 : cl q b ^^^ r = a) (e2 : cl q' b ^^^ r' = a) : r = r' ∧ q = q' := by
  obtain ⟨lb1, lb2, lb3⟩ := len_lo hb h0
  have up : ∀ z, z < 18446744073709551616 → Lib.bitLen z < Lib.bitLen b → z < 2 ^ (Lib.bitLen b - 1) := by
    intro z hz hl
    have := (bitLen_len z hz).1
    have : (2 : Nat) ^ Lib.bitLen z ≤ 2 ^ (Lib.bitLen b - 1) := Nat.pow_le_pow_right (by omega) (by omega)
    omega
  exact rest_once b (Lib.bitLen b - 1) q q' r r' lb2 (up r hr h1) (up r' hr' h2) (e1.trans e2.symm)

/-! ### The reference's degree and product -/
theorem ref_deg_loop (a : Nat) (ha : a < 18446744073709551616) (d : Nat) : ∀ (k i : Nat), i + d = 64 → d < k →
    shuttleref03_Degree.l0 k (a : Int) ((Lib.bitLen (a % 2 ^ i) : Int) - 1) (i : Int) = some ((Lib.bitLen a : Int) - 1) := by
  induction d with
  | zero =>
    intro k i hi hk
    obtain ⟨k, rfl⟩ : ∃ m, k = m + 1 := ⟨k - 1, by omega⟩
    obtain rfl : i = 64 := by omega
    rw [shuttleref03_Degree.l0, if_neg (by omega), Nat.mod_eq_of_lt ha]
  | succ d ih =>
    intro k i hi hk
    obtain ⟨k, rfl⟩ : ∃ m, k = m + 1 := ⟨k - 1, by omega⟩
    have e1 : wrap64 ((i : Int) + 1) = ((i + 1 : Nat) : Int) := by unfold wrap64; omega
    rw [shuttleref03_Degree.l0, if_pos (by omega), if_pos (by omega), bit_f a i (by omega) ha, e1]
    have hm : a % 2 ^ (i + 1) = a % 2 ^ i + 2 ^ i * (a / 2 ^ i % 2) := by rw [Nat.pow_succ, Nat.mod_mul]
    have hlt : a % 2 ^ i < 2 ^ i := Nat.mod_lt _ (Nat.two_pow_pos i)
    have p64 : (2 : Nat) ^ (i + 1) ≤ 2 ^ 64 := Nat.pow_le_pow_right (by omega) (by omega)
    have hlt2 : a % 2 ^ (i + 1) < 2 ^ (i + 1) := Nat.mod_lt _ (Nat.two_pow_pos _)
    have hi2 := ih k (i + 1) (by omega) (by omega)
    rcases (show a / 2 ^ i % 2 = 0 ∨ a / 2 ^ i % 2 = 1 by omega) with h | h
    · rw [h, if_neg (by omega)]
      rw [h, Nat.mul_zero, Nat.add_zero] at hm
      rw [hm] at hi2
      exact hi2
    · rw [h, if_pos (by omega)]
      rw [h, Nat.mul_one] at hm
      have hl : Lib.bitLen (a % 2 ^ (i + 1)) = i + 1 := (bitLen_len _ (by omega)).unique ⟨hlt2, .inr (by rw [Nat.add_sub_cancel]; omega)⟩
      rw [hl] at hi2
      have e2 : (((i + 1 : Nat) : Int) - 1) = (i : Int) := by omega
      rw [e2] at hi2
      exact hi2
theorem ref_deg (a k : Nat) (ha : a < 18446744073709551616) (hk : 64 < k) : shuttleref03_Degree.f k (a : Int) = some ((Lib.bitLen a : Int) - 1) := by
  unfold shuttleref03_Degree.f
  have h := ref_deg_loop a ha 64 k 0 (by omega) hk
  rw [Nat.pow_zero, Nat.mod_one, bitLen_zero] at h
  exact h
/-- A product by the low bits of a number, and by one bit more. -/
theorem cl_bit (a b i : Nat) : cl a (b % 2 ^ (i + 1)) = cl a (b % 2 ^ i) ^^^ (if b / 2 ^ i % 2 = 1 then a * 2 ^ i else 0) := by
  have hm : b % 2 ^ (i + 1) = b % 2 ^ i + 2 ^ i * (b / 2 ^ i % 2) := by rw [Nat.pow_succ, Nat.mod_mul]
  have hlt : b % 2 ^ i < 2 ^ i := Nat.mod_lt _ (Nat.two_pow_pos i)
  rcases (show b / 2 ^ i % 2 = 0 ∨ b / 2 ^ i % 2 = 1 by omega) with h | h
  · have hm0 : b % 2 ^ (i + 1) = b % 2 ^ i := by rw [hm, h]; rfl
    rw [hm0, h, if_neg (by omega), Nat.xor_zero]
  · rw [h, Nat.mul_one] at hm
    have : b % 2 ^ (i + 1) = b % 2 ^ i ^^^ 2 ^ i := by
      rw [hm, Nat.add_comm]
      have e := Nat.two_pow_add_eq_or_of_lt hlt 1
      rw [Nat.mul_one] at e
      rw [e]
      apply Nat.eq_of_testBit_eq
      intro j
      rw [Nat.testBit_or, Nat.testBit_xor, Nat.testBit_two_pow]
      by_cases ej : i = j
      · subst ej
        rw [Nat.testBit_lt_two_pow hlt]
        simp
      · simp [ej]
    rw [this, cl_add, cl_pow, h, if_pos rfl]
/-- Two lengths together leave room. -/
def fits (a b : Nat) : Prop := a = 0 ∨ b = 0 ∨ Lib.bitLen a + Lib.bitLen b ≤ 65
theorem fits.comm {a b : Nat} (h : fits a b) : fits b a := by
  rcases h with h | h | h
  · exact .inr (.inl h)
  · exact .inl h
  · exact .inr (.inr (by omega))
/-- Each shifted summand has room. -/
theorem fits.room {a b i : Nat} (ha : a < 18446744073709551616) (hb : b < 18446744073709551616) (h : fits a b) (hi : b.testBit i = true) : a * 2 ^ i < 18446744073709551616 := by
  rcases h with h | h | h
  · subst h; simp
  · subst h; simp at hi
  · have hl := (bitLen_len b hb).1
    have hi2 : i < Lib.bitLen b := by
      apply Nat.lt_of_not_le
      intro hle
      have : (2 : Nat) ^ Lib.bitLen b ≤ 2 ^ i := Nat.pow_le_pow_right (by omega) hle
      rw [Nat.testBit_lt_two_pow (by omega)] at hi
      cases hi
    have h1 := (bitLen_len a ha).1
    have h2 : (2 : Nat) ^ (Lib.bitLen a + i) ≤ 2 ^ 64 := Nat.pow_le_pow_right (by omega) (by omega)
    rw [Nat.pow_add] at h2
    have := Nat.mul_lt_mul_of_pos_right h1 (Nat.two_pow_pos i)
    omega
theorem cl_lt {a b : Nat} (ha : a < 18446744073709551616) (hb : b < 18446744073709551616) (h : fits a b) : cl a b < 18446744073709551616 := by
  rcases h with h | h | h
  · subst h; rw [cl_zero_left]; omega
  · subst h; rw [cl_zero]; omega
  · by_cases h1 : a = 0
    · subst h1; rw [cl_zero_left]; omega
    by_cases h2 : b = 0
    · subst h2; rw [cl_zero]; omega
    have la := bitLen_len a ha
    have lb := bitLen_len b hb
    have := (cl_len a _ la (la.pos h1) b _ lb (lb.pos h2)).1
    have : (2 : Nat) ^ (Lib.bitLen a + Lib.bitLen b - 1) ≤ 2 ^ 64 := Nat.pow_le_pow_right (by omega) (by omega)
    omega
theorem low_lt {a b i : Nat} (ha : a < 18446744073709551616) (hb : b < 18446744073709551616) (h : fits a b) : cl a (b % 2 ^ i) < 18446744073709551616 := by
  induction i with
  | zero => rw [Nat.pow_zero, Nat.mod_one, cl_zero]; omega
  | succ i ih =>
    rw [cl_bit]
    refine Nat.xor_lt_two_pow (n := 64) ih ?_
    split
    · rename_i hc
      exact h.room ha hb ((test_bit b i).1 hc)
    · omega
theorem ref_times_loop (a b : Nat) (ha : a < 18446744073709551616) (hb : b < 18446744073709551616) (h : fits a b) (d : Nat) : ∀ (k i : Nat), i + d = 64 → d < k →
    shuttleref03_Times.l0 k (a : Int) (b : Int) (cl a (b % 2 ^ i) : Nat) (i : Int) = some ((cl a b : Int), true) := by
  induction d with
  | zero =>
    intro k i hi hk
    obtain ⟨k, rfl⟩ : ∃ m, k = m + 1 := ⟨k - 1, by omega⟩
    obtain rfl : i = 64 := by omega
    rw [shuttleref03_Times.l0, if_neg (by omega), Nat.mod_eq_of_lt hb]
  | succ d ih =>
    intro k i hi hk
    obtain ⟨k, rfl⟩ : ∃ m, k = m + 1 := ⟨k - 1, by omega⟩
    have e1 : wrap64 ((i : Int) + 1) = ((i + 1 : Nat) : Int) := by unfold wrap64; omega
    have hi2 := ih k (i + 1) (by omega) (by omega)
    rw [cl_bit] at hi2
    rw [shuttleref03_Times.l0, if_pos (by omega), if_pos (by omega), bit_f b i (by omega) hb, e1]
    rcases (show b / 2 ^ i % 2 = 0 ∨ b / 2 ^ i % 2 = 1 by omega) with hc | hc
    · rw [hc, if_neg (by omega)]
      rw [hc, if_neg (by omega), Nat.xor_zero] at hi2
      exact hi2
    · rw [hc, if_pos (by omega)]
      rw [hc, if_pos rfl] at hi2
      have hr := h.room ha hb ((test_bit b i).1 hc)
      rw [shl_f a i (by omega) hr, bits_xor_u64_nat _ _ (low_lt ha hb h) hr]
      exact hi2
/-- The reference's product. -/
theorem ref_times (a b k : Nat) (ha : a < 18446744073709551616) (hb : b < 18446744073709551616) (hk : 66 < k) :
    (fits a b → shuttleref03_Times.f k (a : Int) (b : Int) = some ((cl a b : Int), true)) ∧ (¬ fits a b → shuttleref03_Times.f k (a : Int) (b : Int) = some (0, false)) := by
  obtain ⟨k, rfl⟩ : ∃ m, k = m + 1 := ⟨k - 1, by omega⟩
  have la := bitLen_le64 a ha
  have lb := bitLen_le64 b hb
  have hj : shuttleref03_Times.j0 (k + 1) (a : Int) (b : Int) true = some (0, true) := by rw [shuttleref03_Times.j0, if_pos rfl]
  unfold shuttleref03_Times.f
  by_cases h0 : a = 0
  · subst h0
    rw [if_pos (by rfl)]
    rw [hj, cl_zero_left]
    exact ⟨fun _ => rfl, fun hn => absurd (.inl rfl) hn⟩
  · rw [if_neg (by omega)]
    by_cases h1 : b = 0
    · subst h1
      rw [show (((0 : Nat) : Int) == 0) = true by rfl, hj, cl_zero]
      exact ⟨fun _ => rfl, fun hn => absurd (.inr (.inl rfl)) hn⟩
    · have hb0 : ((b : Int) == 0) = false := by rw [beq_eq_false_iff_ne]; omega
      rw [hb0, shuttleref03_Times.j0, if_neg (by simp), ref_deg a k ha (by omega), ref_deg b k hb (by omega)]
      simp only [Option.bind_some]
      have e : wrap64 ((Lib.bitLen a : Int) - 1 + ((Lib.bitLen b : Int) - 1)) = (Lib.bitLen a : Int) - 1 + ((Lib.bitLen b : Int) - 1) := by unfold wrap64; omega
      rw [e]
      refine ⟨fun hf => ?_, fun hn => ?_⟩
      · have hl : Lib.bitLen a + Lib.bitLen b ≤ 65 := by rcases hf with h | h | h <;> omega
        rw [if_neg (by omega)]
        have := ref_times_loop a b ha hb hf 64 k 0 (by omega) (by omega)
        rw [Nat.pow_zero, Nat.mod_one, cl_zero] at this
        exact this
      · have hl : ¬ Lib.bitLen a + Lib.bitLen b ≤ 65 := fun h => hn (.inr (.inr h))
        rw [if_pos (by omega)]

/-! ### The program's product -/
/-- A number without its lowest bit. -/
theorem drop_low (b : Nat) (h0 : b ≠ 0) (hb : b < 18446744073709551616) : ∃ t : Nat, Lib.ctz 64 b = t ∧ t < 64 ∧ b.testBit t = true ∧ b &&& (b - 1) = b ^^^ 2 ^ t ∧ b &&& (b - 1) < b := by
  obtain ⟨m, hm, hk⟩ := Lib.ctzFrom_spec 64 b (by omega) hb
  have e : Lib.ctz 64 b = Lib.ctzFrom 64 b := by simp [Lib.ctz, h0]
  refine ⟨Lib.ctzFrom 64 b, e, hk, ?_⟩
  generalize Lib.ctzFrom 64 b = t at *
  have hp := Nat.two_pow_pos t
  have hb1 : b - 1 = 2 ^ t * (2 * m) + (2 ^ t - 1) := by
    rw [hm, Nat.mul_add, Nat.mul_one]
    omega
  have tb : ∀ i, b.testBit i = (decide (t ≤ i) && (2 * m + 1).testBit (i - t)) := by
    intro i
    rw [hm, Nat.mul_comm, Nat.testBit_mul_two_pow]
  have tb1 : ∀ i, (b - 1).testBit i = if i < t then true else (2 * m).testBit (i - t) := by
    intro i
    rw [hb1, Nat.testBit_two_pow_mul_add _ (by omega)]
    split
    · rw [Nat.testBit_two_pow_sub_one]
      simp [*]
    · rfl
  have hand : b &&& (b - 1) = b ^^^ 2 ^ t := by
    apply Nat.eq_of_testBit_eq
    intro i
    rw [Nat.testBit_and, Nat.testBit_xor, Nat.testBit_two_pow, tb, tb1]
    by_cases h1 : i < t
    · have e1 : decide (t ≤ i) = false := by rw [decide_eq_false_iff_not]; omega
      have e2 : decide (t = i) = false := by rw [decide_eq_false_iff_not]; omega
      rw [e1, e2]
      simp
    · have e1 : decide (t ≤ i) = true := by rw [decide_eq_true_eq]; omega
      rw [e1, if_neg h1]
      by_cases h2 : t = i
      · subst h2
        simp
      · obtain ⟨j, rfl⟩ : ∃ j, i = t + (j + 1) := ⟨i - t - 1, by omega⟩
        have e3 : t + (j + 1) - t = j + 1 := by omega
        have e4 : decide (t = t + (j + 1)) = false := by rw [decide_eq_false_iff_not]; omega
        rw [e3, e4, Nat.testBit_succ, Nat.testBit_succ, show (2 * m + 1) / 2 = m by omega, show 2 * m / 2 = m by omega]
        simp
  refine ⟨?_, hand, ?_⟩
  · rw [tb]; simp
  · have : b &&& (b - 1) ≤ b - 1 := Nat.and_le_right
    omega
theorem times_loop (a : Nat) (ha : a < 18446744073709551616) : ∀ (b k out : Nat), b < 18446744073709551616 → out < 18446744073709551616 → (∀ i, b.testBit i = true → a * 2 ^ i < 18446744073709551616) → 64 < k →
    gf2_Times.l0 k (a : Int) (b : Int) (out : Int) = some (((out ^^^ cl a b : Nat) : Int), true) := by
  have key : ∀ (c b k out : Nat), b < 18446744073709551616 → out < 18446744073709551616 → (∀ i, b.testBit i = true → a * 2 ^ i < 18446744073709551616) → (∀ i, b.testBit i = true → c ≤ i) → c + (k - 1) ≥ 64 → 1 ≤ k →
      gf2_Times.l0 k (a : Int) (b : Int) (out : Int) = some (((out ^^^ cl a b : Nat) : Int), true) := by
    intro c b k
    induction k generalizing c b with
    | zero => intro out _ _ _ _ _ h; omega
    | succ k ih =>
      intro out hb hout hroom hlow hc _
      rw [gf2_Times.l0]
      by_cases h0 : b = 0
      · subst h0
        rw [if_pos (by rfl), cl_zero, Nat.xor_zero]
      · rw [if_neg (by omega)]
        obtain ⟨t, ht, ht64, htb, hand, hless⟩ := drop_low b h0 hb
        have hct := hlow t htb
        unfold bits_TrailingZeros64.f
        rw [if_pos (by omega), Int.toNat_natCast, ht]
        simp only [Option.bind_some]
        rw [if_pos (by omega)]
        have e1 : IntKind.u64.wrap ((b : Int) - 1) = ((b - 1 : Nat) : Int) := by rw [u64_w]; omega
        have hr := hroom t htb
        rw [e1, bits_and_u64_nat b (b - 1) hb (by omega), shl_f a t (by omega) hr, bits_xor_u64_nat out _ hout hr, hand]
        have tb2 : ∀ i, (b ^^^ 2 ^ t).testBit i = true → b.testBit i = true ∧ i ≠ t := by
          intro i hi
          rw [Nat.testBit_xor, Nat.testBit_two_pow] at hi
          by_cases e : t = i
          · subst e
            rw [htb] at hi
            simp at hi
          · have e2 : decide (t = i) = false := by rw [decide_eq_false_iff_not]; exact e
            rw [e2] at hi
            exact ⟨by simpa using hi, fun h => e h.symm⟩
        have hlow2 : ∀ i, (b ^^^ 2 ^ t).testBit i = true → t + 1 ≤ i := by
          intro i hi
          obtain ⟨h1, h2⟩ := tb2 i hi
          have : t ≤ i := by
            obtain ⟨m, hm, _⟩ := Lib.ctzFrom_spec 64 b (by omega) hb
            have e : Lib.ctz 64 b = Lib.ctzFrom 64 b := by simp [Lib.ctz, h0]
            rw [← e, ht] at hm
            apply Nat.le_of_not_lt
            intro hlt
            rw [hm, Nat.mul_comm, Nat.testBit_mul_two_pow] at h1
            simp at h1
            omega
          omega
        have hk1 : 1 ≤ k := by
          apply Nat.pos_of_ne_zero
          intro e
          subst e
          omega
        rw [ih (t + 1) (b ^^^ 2 ^ t) (out ^^^ a * 2 ^ t) (by rw [← hand]; omega) (Nat.xor_lt_two_pow (n := 64) hout hr) (fun i hi => hroom i (tb2 i hi).1) hlow2 (by omega) hk1]
        congr 3
        rw [cl_add, cl_pow]
        calc out ^^^ a * 2 ^ t ^^^ (cl a b ^^^ a * 2 ^ t) = (out ^^^ cl a b) ^^^ (a * 2 ^ t ^^^ a * 2 ^ t) := by ac_rfl
          _ = out ^^^ cl a b := by rw [Nat.xor_self, Nat.xor_zero]
  intro b k out hb hout hroom hk
  exact key 0 b k out hb hout hroom (fun _ _ => Nat.zero_le _) (by omega) (by omega)
/-- The program's product. -/
theorem times_f (a b k : Nat) (ha : a < 18446744073709551616) (hb : b < 18446744073709551616) (hk : 66 < k) :
    (fits a b → gf2_Times.f k (a : Int) (b : Int) = some ((cl a b : Int), true)) ∧ (¬ fits a b → gf2_Times.f k (a : Int) (b : Int) = some (0, false)) := by
  obtain ⟨k, rfl⟩ : ∃ m, k = m + 1 := ⟨k - 1, by omega⟩
  have la := bitLen_le64 a ha
  have lb := bitLen_le64 b hb
  have hj : gf2_Times.j0 (k + 1) (a : Int) (b : Int) true = some (0, true) := by rw [gf2_Times.j0, if_pos rfl]
  unfold gf2_Times.f
  by_cases h0 : a = 0
  · subst h0
    rw [if_pos (by rfl)]
    rw [hj, cl_zero_left]
    exact ⟨fun _ => rfl, fun hn => absurd (.inl rfl) hn⟩
  · rw [if_neg (by omega)]
    by_cases h1 : b = 0
    · subst h1
      rw [show (((0 : Nat) : Int) == 0) = true by rfl, hj, cl_zero]
      exact ⟨fun _ => rfl, fun hn => absurd (.inr (.inl rfl)) hn⟩
    · have hb0 : ((b : Int) == 0) = false := by rw [beq_eq_false_iff_ne]; omega
      rw [hb0, gf2_Times.j0, if_neg (by simp), deg_f k a ha, deg_f k b hb]
      simp only [Option.bind_some]
      have e : wrap64 ((Lib.bitLen a : Int) - 1 + ((Lib.bitLen b : Int) - 1)) = (Lib.bitLen a : Int) - 1 + ((Lib.bitLen b : Int) - 1) := by unfold wrap64; omega
      rw [e]
      refine ⟨fun hf => ?_, fun hn => ?_⟩
      · have hl : Lib.bitLen a + Lib.bitLen b ≤ 65 := by rcases hf with h | h | h <;> omega
        rw [if_neg (by omega)]
        have := times_loop a ha b k 0 hb (by omega) (fun i hi => hf.room ha hb hi) (by omega)
        rw [Nat.zero_xor] at this
        exact this
      · have hl : ¬ Lib.bitLen a + Lib.bitLen b ≤ 65 := fun h => hn (.inr (.inr h))
        rw [if_pos (by omega)]
theorem polys_true : shuttlelaw03_polys.f 70 = some true := by decide +kernel
theorem polys_f (k : Nat) (hk : 70 ≤ k) : shuttlelaw03_polys.f k = some true := at_rounds (g := fun k => shuttlelaw03_polys.f k) (fun k => shuttlelaw03_polys.mono k) hk polys_true
end Go.Proofs.YtbkeogllicgbaaaDoor.Q
