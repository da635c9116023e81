/- Of up to 300 coefficients the rest is told as the reference tells it, for a divisor of a degree below 63; of those of a number it is that of Over (the plain law of the printed function). No condition beside the types' own ranges. -/
import Derived.Test.YtbkeogllicgbaaaDoorQ4
import Derived.Test.YtbkeogllicgbaaaDoorGq
import Derived.Test.YtbkeogllicgbaaaDoorWSized
namespace Go.Proofs.YtbkeogllicgbaaaDoor.Pure
open Go.RowKit Go.Proofs.YtbkeogllicgbaaaDoor.Q Go.Proofs.YtbkeogllicgbaaaDoorW.PrintWords Go.Proofs.YtbkeogllicgbaaaDoorW.PrintLast Go.Proofs.YtbkeogllicgbaaaDoorW.PrintMore Gf
set_option linter.unusedVariables false
/-- One coefficient more. -/
def rs (b d r c : Nat) : Nat := if (2 * r + c % 2).testBit d = true then (2 * r + c % 2) ^^^ b else 2 * r + c % 2
def fold (b d : Nat) : List Int → Nat → Nat
  | [], r => r
  | c :: t, r => fold b d t (rs b d r c.toNat)
theorem rs_lt (b d r c : Nat) (h0 : 2 ^ d ≤ b) (h1 : b < 2 ^ (d + 1)) (hr : r < 2 ^ d) : rs b d r c < 2 ^ d := by
  unfold rs
  have hx : 2 * r + c % 2 < 2 ^ (d + 1) := by rw [Nat.pow_succ]; omega
  split
  · rename_i ht
    exact xor_top d _ b (Nat.ge_two_pow_of_testBit ht) hx h0 h1
  · rename_i ht
    apply Nat.lt_of_not_le
    intro hle
    apply ht
    rw [Nat.testBit_eq_decide_div_mod_eq]
    have : (2 * r + c % 2) / 2 ^ d = 1 := by
      apply Nat.div_eq_of_lt_le
      · omega
      · rw [Nat.pow_succ] at hx; omega
    rw [this]
    decide
theorem low_u8 (c : Nat) (hc : c < 256) : Go.bits .and .u8 (c : Int) 1 = ((c % 2 : Nat) : Int) := by
  rw [show (1 : Int) = ((1 : Nat) : Int) from rfl, (bits_nat .u8 8 (by decide) wraps_u8 c 1 hc (by decide)).1, Nat.and_one_is_mod]
theorem twice (r : Nat) (h : r < 9223372036854775808) : IntKind.u64.wrap ((r : Int) * 2) = ((2 * r : Nat) : Int) := by rw [u64_w]; omega
theorem bit_w (c : Nat) : IntKind.u64.wrap ((c % 2 : Nat) : Int) = ((c % 2 : Nat) : Int) := by rw [u64_w]; omega
theorem or_low (r c : Nat) (h : r < 9223372036854775808) : Go.bits .or .u64 ((2 * r : Nat) : Int) ((c % 2 : Nat) : Int) = ((2 * r + c % 2 : Nat) : Int) := by
  rw [bits_or_u64_nat _ _ (by omega) (by omega)]
  have := Nat.two_pow_add_eq_or_of_lt (i := 1) (b := c % 2) (by omega) r
  rw [Nat.pow_one] at this
  rw [← this]
theorem xor_low2 (r c : Nat) (h : r < 9223372036854775808) : Go.bits .xor .u64 ((2 * r : Nat) : Int) ((c % 2 : Nat) : Int) = ((2 * r + c % 2 : Nat) : Int) := by
  rw [bits_xor_u64_nat _ _ (by omega) (by omega), Nat.xor_comm, xor_low _ _ (by omega)]
theorem rd_at (xs : List Int) (i : Nat) (hlt : i < xs.length) : rd xs (i : Int) = xs[i] := by
  unfold rd
  rw [Int.toNat_natCast, List.getD_eq_getElem?_getD, List.getElem?_eq_getElem hlt]
  rfl
theorem rest_loop (b d : Nat) (hd : d < 63) (h0 : 2 ^ d ≤ b) (h1 : b < 2 ^ (d + 1)) (xs : List Int) (hx : ∀ x ∈ xs, 0 ≤ x ∧ x ≤ 255) (hl : xs.length ≤ 1000) (n : Int) (hn : n = xs.length) (m : Nat) : ∀ (k i r : Nat), r < 2 ^ d → i + m = xs.length → m < k →
    gf2_Rest.l0 k (b : Int) (d : Int) (r : Int) xs n (i : Int) = some (((fold b d (xs.drop i) r : Nat) : Int), true) := by
  subst hn
  have p : (2 : Nat) ^ d ≤ 4611686018427387904 := Nat.le_trans (Nat.pow_le_pow_right (by decide) (show d ≤ 62 by omega)) (by decide)
  have p1 : (2 : Nat) ^ (d + 1) ≤ 9223372036854775808 := Nat.le_trans (Nat.pow_le_pow_right (by decide) (show d + 1 ≤ 63 by omega)) (by decide)
  induction m with
  | zero =>
    intro k i r hr hi hk
    obtain ⟨k, rfl⟩ : ∃ j, k = j + 1 := ⟨k - 1, by omega⟩
    rw [gf2_Rest.l0, if_neg (by omega), List.drop_of_length_le (by omega), fold]
  | succ m ih =>
    intro k i r hr hi hk
    obtain ⟨k, rfl⟩ : ∃ j, k = j + 1 := ⟨k - 1, by omega⟩
    have hlt : i < xs.length := by omega
    obtain ⟨c0, c1⟩ := hx xs[i] (List.getElem_mem hlt)
    obtain ⟨c, hc⟩ := Int.eq_ofNat_of_zero_le c0
    have e1 : wrap64 ((i : Int) + 1) = ((i + 1 : Nat) : Int) := by unfold wrap64; omega
    rw [gf2_Rest.l0, if_pos (Int.ofNat_lt.mpr hlt), if_pos (Int.natCast_nonneg i), if_pos (Int.ofNat_lt.mpr hlt), if_pos (Int.natCast_nonneg d), rd_at xs i hlt, hc, low_u8 c (by omega), twice r (by omega), bit_w, or_low r c (by omega), bit_f _ d (by omega) (by omega), e1, List.drop_eq_getElem_cons hlt, fold, hc, Int.toNat_natCast]
    have hrs := rs_lt b d r c h0 h1 hr
    have hi2 := ih k (i + 1) (rs b d r c) hrs (by omega) (by omega)
    by_cases ht : (2 * r + c % 2).testBit d = true
    · have := (test_bit (2 * r + c % 2) d).2 ht
      rw [if_pos (by omega), bits_xor_u64_nat _ _ (by omega) (by omega)]
      have e2 : rs b d r c = (2 * r + c % 2) ^^^ b := by unfold rs; rw [if_pos ht]
      rw [e2] at hi2 ⊢
      exact hi2
    · have hne : ¬ (2 * r + c % 2) / 2 ^ d % 2 = 1 := fun h => ht ((test_bit _ _).1 h)
      rw [if_neg (by omega)]
      have e2 : rs b d r c = 2 * r + c % 2 := by unfold rs; rw [if_neg ht]
      rw [e2] at hi2 ⊢
      exact hi2
theorem ref_loop (b d : Nat) (hd : d < 63) (h0 : 2 ^ d ≤ b) (h1 : b < 2 ^ (d + 1)) (xs : List Int) (hx : ∀ x ∈ xs, 0 ≤ x ∧ x ≤ 255) (hl : xs.length ≤ 1000) (m : Nat) : ∀ (k i r : Nat), r < 2 ^ d → i + m = xs.length → m < k →
    shuttleref03_Rest.l0 k xs (b : Int) (r : Int) (d : Int) (i : Int) = some ((fold b d (xs.drop i) r : Nat) : Int) := by
  have p : (2 : Nat) ^ d ≤ 4611686018427387904 := Nat.le_trans (Nat.pow_le_pow_right (by decide) (show d ≤ 62 by omega)) (by decide)
  have p1 : (2 : Nat) ^ (d + 1) ≤ 9223372036854775808 := Nat.le_trans (Nat.pow_le_pow_right (by decide) (show d + 1 ≤ 63 by omega)) (by decide)
  induction m with
  | zero =>
    intro k i r hr hi hk
    obtain ⟨k, rfl⟩ : ∃ j, k = j + 1 := ⟨k - 1, by omega⟩
    rw [shuttleref03_Rest.l0, if_neg (by omega), List.drop_of_length_le (by omega), fold]
  | succ m ih =>
    intro k i r hr hi hk
    obtain ⟨k, rfl⟩ : ∃ j, k = j + 1 := ⟨k - 1, by omega⟩
    have hlt : i < xs.length := by omega
    obtain ⟨c0, c1⟩ := hx xs[i] (List.getElem_mem hlt)
    obtain ⟨c, hc⟩ := Int.eq_ofNat_of_zero_le c0
    have e1 : wrap64 ((i : Int) + 1) = ((i + 1 : Nat) : Int) := by unfold wrap64; omega
    rw [shuttleref03_Rest.l0, if_pos (Int.ofNat_lt.mpr hlt), if_pos (Int.natCast_nonneg i), if_pos (Int.natCast_nonneg d), rd_at xs i hlt, hc, low_u8 c (by omega), twice r (by omega), bit_w, xor_low2 r c (by omega), bit_f _ d (by omega) (by omega), e1, List.drop_eq_getElem_cons hlt, fold, hc, Int.toNat_natCast]
    have hrs := rs_lt b d r c h0 h1 hr
    have hi2 := ih k (i + 1) (rs b d r c) hrs (by omega) (by omega)
    by_cases ht : (2 * r + c % 2).testBit d = true
    · have := (test_bit (2 * r + c % 2) d).2 ht
      rw [if_pos (by omega), bits_xor_u64_nat _ _ (by omega) (by omega)]
      have e2 : rs b d r c = (2 * r + c % 2) ^^^ b := by unfold rs; rw [if_pos ht]
      rw [e2] at hi2 ⊢
      exact hi2
    · have hne : ¬ (2 * r + c % 2) / 2 ^ d % 2 = 1 := fun h => ht ((test_bit _ _).1 h)
      rw [if_neg (by omega)]
      have e2 : rs b d r c = 2 * r + c % 2 := by unfold rs; rw [if_neg ht]
      rw [e2] at hi2 ⊢
      exact hi2
/-- The low n coefficients of a number, the highest first. -/
def coefs (a : Nat) : Nat → List Int
  | 0 => []
  | n + 1 => ((a / 2 ^ n % 2 : Nat) : Int) :: coefs a n
theorem coefs_len (a n : Nat) : (coefs a n).length = n := by
  induction n with
  | zero => rfl
  | succ n ih => rw [coefs, List.length_cons, ih]
theorem coefs_bits (a n : Nat) : ∀ x ∈ coefs a n, 0 ≤ x ∧ x ≤ 255 := by
  induction n with
  | zero => intro x hx; cases hx
  | succ n ih =>
    intro x hx
    rw [coefs] at hx
    rcases List.mem_cons.1 hx with rfl | hx
    · omega
    · exact ih x hx
theorem coefs_loop (a : Nat) (ha : a < 18446744073709551616) (n : Nat) : ∀ (k : Nat) (acc : List Int) (i : Int), n ≤ 64 → acc.length + n ≤ 64 → i = (n : Int) - 1 → n < k →
    shuttleref03_Coefficients.l0 k (a : Int) acc i = some (acc ++ coefs a n) := by
  induction n with
  | zero =>
    intro k acc i hn hl hi hk
    obtain ⟨k, rfl⟩ : ∃ j, k = j + 1 := ⟨k - 1, by omega⟩
    rw [shuttleref03_Coefficients.l0, if_neg (by omega), coefs, List.append_nil]
  | succ n ih =>
    intro k acc i hn hl hi hk
    obtain ⟨k, rfl⟩ : ∃ j, k = j + 1 := ⟨k - 1, by omega⟩
    obtain rfl : i = (n : Int) := by omega
    have e1 : wrap64 ((n : Int) - 1) = (n : Int) - 1 := by unfold wrap64; omega
    have e2 : ((a / 2 ^ n % 2 : Nat) : Int) % 256 = ((a / 2 ^ n % 2 : Nat) : Int) := by omega
    rw [shuttleref03_Coefficients.l0, if_pos (by omega), if_pos (by omega), if_pos (by omega), bit_f a n (by omega) ha, e1, e2, ih k _ _ (by omega) (by simp; omega) rfl (by omega), coefs]
    simp
theorem coefs_f (a k : Nat) (ha : a < 18446744073709551616) (hk : 64 < k) : shuttleref03_Coefficients.f k (a : Int) = some (coefs a 64) := by
  unfold shuttleref03_Coefficients.f
  have := coefs_loop a ha 64 k [] 63 (by omega) (by simp) (by omega) hk
  simpa using this
/-- The rest of a number's coefficients is the number's rest. -/
theorem fold_coefs (a b d : Nat) (h0 : 2 ^ d ≤ b) (h1 : b < 2 ^ (d + 1)) (n : Nat) : ∀ (r q : Nat), r < 2 ^ d → cl q b ^^^ r = a / 2 ^ n → ∃ q', cl q' b ^^^ fold b d (coefs a n) r = a ∧ fold b d (coefs a n) r < 2 ^ d := by
  induction n with
  | zero =>
    intro r q hr hq
    rw [Nat.pow_zero, Nat.div_one] at hq
    exact ⟨q, hq, hr⟩
  | succ n ih =>
    intro r q hr hq
    rw [coefs, fold, Int.toNat_natCast]
    have hrs := rs_lt b d r (a / 2 ^ n % 2) h0 h1 hr
    have ha : a / 2 ^ n = 2 * (a / 2 ^ (n + 1)) + a / 2 ^ n % 2 := by
      rw [Nat.pow_succ, ← Nat.div_div_eq_div_mul]
      omega
    have hc : a / 2 ^ n % 2 % 2 = a / 2 ^ n % 2 := by omega
    have hx : cl (2 * q) b ^^^ (2 * r + a / 2 ^ n % 2) = a / 2 ^ n := by
      have e : 2 * r + a / 2 ^ n % 2 = a / 2 ^ n % 2 ^^^ 2 * r := (xor_low r _ (by omega)).symm
      rw [e, cl_double_left]
      calc 2 * cl q b ^^^ (a / 2 ^ n % 2 ^^^ 2 * r) = a / 2 ^ n % 2 ^^^ (2 * cl q b ^^^ 2 * r) := by ac_rfl
        _ = a / 2 ^ n % 2 ^^^ 2 * (a / 2 ^ (n + 1)) := by rw [← two_xor, hq]
        _ = a / 2 ^ n := by rw [xor_low _ _ (by omega)]; exact ha.symm
    unfold rs at hrs ⊢
    rw [hc] at hrs ⊢
    split at hrs
    · rename_i ht
      rw [if_pos ht]
      refine ih _ (2 * q ^^^ 1) hrs ?_
      rw [cl_add_left, cl_one_left]
      calc cl (2 * q) b ^^^ b ^^^ (2 * r + a / 2 ^ n % 2 ^^^ b) = (cl (2 * q) b ^^^ (2 * r + a / 2 ^ n % 2)) ^^^ (b ^^^ b) := by ac_rfl
        _ = a / 2 ^ n := by rw [hx, Nat.xor_self, Nat.xor_zero]
    · rename_i ht
      rw [if_neg ht]
      exact ih _ (2 * q) hrs hx
theorem wf_u8 {n : Int} (h : (Lit.int .u8 n).wf = true) : 0 ≤ n ∧ n ≤ 255 := by
  simp [Lit.wf, IntKind.min, IntKind.max, IntKind.signed, IntKind.bits] at h
  exact h
theorem run_rest (b d : Nat) (hd : d < 63) (h0 : 2 ^ d ≤ b) (h1 : b < 2 ^ (d + 1)) (k : Nat) (xs : List Int) (hx : ∀ x ∈ xs, 0 ≤ x ∧ x ≤ 255) (hl : xs.length ≤ 300) (hk : 400 ≤ k) :
    gf2_Rest.j0 k xs (b : Int) (d : Int) false = some (((fold b d xs 0 : Nat) : Int), true) := by
  obtain ⟨k, rfl⟩ : ∃ m, k = m + 1 := ⟨k - 1, by omega⟩
  rw [gf2_Rest.j0, if_neg (by simp)]
  exact rest_loop b d hd h0 h1 xs hx (by omega) xs.length rfl xs.length k 0 0 (Nat.two_pow_pos d) (by omega) (by omega)
theorem rest_f (b d : Nat) (hb : b < 18446744073709551616) (hb1 : b ≠ 0) (hl : Lib.bitLen b = d + 1) (hd : d < 63) (h0 : 2 ^ d ≤ b) (h1 : b < 2 ^ (d + 1)) (k : Nat) (xs : List Int) (hx : ∀ x ∈ xs, 0 ≤ x ∧ x ≤ 255) (hxl : xs.length ≤ 300) (hk : 400 ≤ k) :
    gf2_Rest.f k xs (b : Int) = some (((fold b d xs 0 : Nat) : Int), true) := by
  unfold gf2_Rest.f
  have e3 : ((Lib.bitLen b : Nat) : Int) - 1 = (d : Int) := by omega
  have e : ((d : Int) == 63) = false := by rw [beq_eq_false_iff_ne]; omega
  rw [deg_f k b hb, Option.bind_some, e3, if_neg (by omega), e]
  exact run_rest b d hd h0 h1 k xs hx hxl hk
theorem last (a b d : Nat) (ha : a < 18446744073709551616) (hb : b < 18446744073709551616) (hb1 : b ≠ 0) (hl : Lib.bitLen b = d + 1) (hd : d < 63) (h0 : 2 ^ d ≤ b) (h1 : b < 2 ^ (d + 1)) (y : List Int) (hy : ∀ x ∈ y, 0 ≤ x ∧ x ≤ 255) (hyl : y.length ≤ 300) (k : Nat) (hk : 450 ≤ k) :
    shuttlelaw03_Gf2Rest.j0 (k + 1) y (b : Int) (a : Int) ((fold b d y 0 : Nat) : Int) true false = some true := by
  have e3 : ((Lib.bitLen b : Nat) : Int) - 1 = (d : Int) := by omega
  rw [shuttlelaw03_Gf2Rest.j0, if_neg (by simp), if_pos rfl, coefs_f a k ha (by omega), Option.bind_some, rest_f b d hb hb1 hl hd h0 h1 k (coefs a 64) (coefs_bits a 64) (by rw [coefs_len]; omega) (by omega), Option.bind_some]
  obtain ⟨q, r, o1, o2, o3, o4, o5⟩ := over_f a b k ha hb hb1 (by omega)
  rw [o1, Option.bind_some]
  have hr : shuttleref03_Rest.f k y (b : Int) = some ((fold b d y 0 : Nat) : Int) := by
    unfold shuttleref03_Rest.f
    rw [ref_deg b k hb (by omega), Option.bind_some, e3]
    exact ref_loop b d hd h0 h1 y hy (by omega) y.length k 0 0 (Nat.two_pow_pos d) (by omega) (by omega)
  rw [hr, Option.bind_some, if_pos rfl, if_pos rfl, if_pos rfl]
  obtain ⟨q', f1, f2⟩ := fold_coefs a b d h0 h1 64 0 0 (Nat.two_pow_pos d) (by rw [cl_zero_left, Nat.zero_xor, Nat.div_eq_of_lt ha])
  have p1 : (2 : Nat) ^ d ≤ 4611686018427387904 := Nat.le_trans (Nat.pow_le_pow_right (by decide) (show d ≤ 62 by omega)) (by decide)
  have hfl : Lib.bitLen (fold b d (coefs a 64) 0) < Lib.bitLen b := by
    have := Lib.bitLen_le (fold b d (coefs a 64) 0) d (by omega) f2
    omega
  obtain ⟨e4, _⟩ := over_once hb hb1 o3 (show fold b d (coefs a 64) 0 < 18446744073709551616 by omega) o4 hfl o5 f1
  rw [e4, beq_self_eq_true]
theorem rest_no (k : Nat) (xs : List Int) (x1 x6 : Int) : gf2_Rest.j0 (k + 1) xs x1 x6 true = some (0, false) := by rw [gf2_Rest.j0, if_pos rfl]
theorem Gf2Rest : shuttlelaw03_Gf2Rest.Pure := by
  intro l b0 a0 _ _ hl hb0 ha0
  obtain ⟨a, rfl, ha⟩ := wf_u64 ha0
  obtain ⟨b, rfl, hb⟩ := wf_u64 hb0
  refine ⟨500, ?_⟩
  unfold shuttlelaw03_Gf2Rest.f
  have em : 0 ≤ mn (l.length : Int) 300 ∧ mn (l.length : Int) 300 ≤ l.length ∧ mn (l.length : Int) 300 ≤ 300 := by unfold mn; split <;> omega
  have hy : ∀ x ∈ l.take (mn (l.length : Int) 300).toNat, 0 ≤ x ∧ x ≤ 255 := fun x hx => wf_u8 (hl x (List.mem_of_mem_take hx))
  have hyl : (l.take (mn (l.length : Int) 300).toNat).length ≤ 300 := by rw [List.length_take]; omega
  generalize l.take (mn (l.length : Int) 300).toNat = y at *
  rw [Option.bind_some, if_pos em.1, if_pos em.2.1, if_pos (by rw [List.length_nil]; omega), Option.bind_some, List.nil_append]
  rw [polys_f 500 (by omega)]
  have la := bitLen_le64 b hb
  have j0f : ∀ (r : Int) , r = 0 → shuttlelaw03_Gf2Rest.j0 500 y (b : Int) (a : Int) r false false = some true := by
    intro r hr
    subst hr
    rw [show (500 : Nat) = 499 + 1 from rfl, shuttlelaw03_Gf2Rest.j0, if_neg (by simp), if_neg (by simp)]
    rfl
  unfold gf2_Rest.f
  rw [deg_f 500 b hb]
  simp only [Option.bind_some, if_true]
  by_cases hb1 : b = 0
  · subst hb1
    rw [bitLen_zero, if_pos (by omega), show (500 : Nat) = 499 + 1 from rfl, rest_no]
    simp only [Option.bind_some]
    rw [if_pos (by rfl), if_neg (by simp), bne_self_eq_false]
    exact j0f 0 rfl
  · obtain ⟨lb1, lb2, lb3⟩ := len_lo hb hb1
    rw [if_neg (by omega)]
    have hbi : ¬ (b : Int) = 0 := by omega
    have hrd := ref_deg b 500 hb (by omega)
    by_cases hd : Lib.bitLen b = 64
    · have e : (((Lib.bitLen b : Nat) : Int) - 1 == 63) = true := by rw [beq_iff_eq]; omega
      have e2 : decide (((Lib.bitLen b : Nat) : Int) - 1 < 63) = false := by rw [decide_eq_false_iff_not]; omega
      rw [e, show (500 : Nat) = 499 + 1 from rfl, rest_no]
      simp only [Option.bind_some]
      rw [if_neg hbi, hrd]
      simp only [Option.bind_some]
      rw [e2, if_neg (by simp), bne_self_eq_false]
      exact j0f 0 rfl
    · have e : (((Lib.bitLen b : Nat) : Int) - 1 == 63) = false := by rw [beq_eq_false_iff_ne]; omega
      have e2 : decide (((Lib.bitLen b : Nat) : Int) - 1 < 63) = true := by rw [decide_eq_true_eq]; omega
      obtain ⟨d, hdd⟩ : ∃ d, Lib.bitLen b = d + 1 := ⟨Lib.bitLen b - 1, by omega⟩
      have hd63 : d < 63 := by omega
      rw [hdd, Nat.add_sub_cancel] at lb2
      rw [hdd] at lb3
      have e3 : ((Lib.bitLen b : Nat) : Int) - 1 = (d : Int) := by omega
      rw [e, e3, run_rest b d hd63 lb2 lb3 500 y hy hyl (by omega), Option.bind_some, if_neg hbi, hrd, Option.bind_some, e2, show (true != true) = false by decide, if_neg (by simp), bne_self_eq_false]
      exact last a b d ha hb hb1 hdd hd63 lb2 lb3 y hy hyl 499 (by omega)

end Go.Proofs.YtbkeogllicgbaaaDoor.Pure
