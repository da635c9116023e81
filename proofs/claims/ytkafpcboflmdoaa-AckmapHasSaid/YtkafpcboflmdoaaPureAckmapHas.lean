/- Of all maps and numbers the program tells whether a number has come, and which of up to 64 from it on haven't, as the document's reference does. No condition beside the types' own ranges. (The plain law of the printed function.) -/
import Derived.Test.YtkafpcboflmdoaaPAckmapHasx3
namespace Go.Proofs.Ytkafpcboflmdoaa.Pure
open Go.RowKit Go.Proofs.Ytkafpcboflmdoaa.PAckmapHas Go.Proofs.YtkafpcboflmdoaaW.PrintWords Go.Proofs.YtkafpcboflmdoaaW.PrintLast Go.Proofs.YtkafpcboflmdoaaW.PrintMore
set_option linter.unusedVariables false
namespace AckmapHas
theorem wf_i64 {n : Int} (h : (Lit.int .i64 n).wf = true) : -9223372036854775808 ≤ n ∧ n ≤ 9223372036854775807 := by
  simp [Lit.wf, IntKind.min, IntKind.max, IntKind.signed, IntKind.bits] at h
  exact h
theorem wf_u16 {n : Int} (h : (Lit.int .u16 n).wf = true) : 0 ≤ n ∧ n ≤ 65535 := by
  simp [Lit.wf, IntKind.min, IntKind.max, IntKind.signed, IntKind.bits] at h
  exact h
theorem wf_u32 {n : Int} (h : (Lit.int .u32 n).wf = true) : 0 ≤ n ∧ n ≤ 4294967295 := by
  simp [Lit.wf, IntKind.min, IntKind.max, IntKind.signed, IntKind.bits] at h
  exact h
theorem u16_wrap (n : Int) : IntKind.u16.wrap n = n % 65536 := by
  simp [IntKind.wrap, IntKind.signed, IntKind.bits]
theorem u32_wrap (n : Int) : IntKind.u32.wrap n = n % 4294967296 := by
  simp [IntKind.wrap, IntKind.signed, IntKind.bits]
theorem u64_wrap (n : Int) : IntKind.u64.wrap n = n % 18446744073709551616 := by
  simp [IntKind.wrap, IntKind.signed, IntKind.bits]
theorem wraps_u32 (n : Int) (h0 : 0 ≤ n) (h1 : n < 2 ^ 32) : IntKind.u32.wrap n = n := by rw [u32_wrap]; omega
theorem ahead_f (a b : Int) : seq_Ahead.f a b = some ((b - a) % 65536) := by
  unfold seq_Ahead.f
  rw [u16_wrap]
  congr 1
  unfold wrap64
  omega
theorem before_f (a b : Int) : seq_Before.f a b = some (decide (1 ≤ (b - a) % 65536 ∧ (b - a) % 65536 < 32768)) := by
  unfold seq_Before.f
  rw [ahead_f]
  simp only [Option.bind_some]
  by_cases h : (b - a) % 65536 ≥ 1
  · rw [if_pos h]; simp; omega
  · rw [if_neg h]; simp; omega
theorem plus_f (a n : Int) : seq_Plus.f a n = some ((a + n) % 65536) := by
  unfold seq_Plus.f
  rw [u16_wrap, u16_wrap]
  congr 1
  omega
theorem pow_lt (i : Nat) (h : i < 32) : 2 ^ i < 4294967296 := by
  have : (2 : Nat) ^ i < 2 ^ 32 := Nat.pow_lt_pow_right (by omega) h
  omega
theorem shl_one (y : Int) (h0 : 0 ≤ y) (h1 : y < 32) : shl .u32 1 y = ((2 ^ y.toNat : Nat) : Int) := by
  unfold shl
  have hb : IntKind.u32.bits = 32 := rfl
  have hy : y.toNat < 32 := by omega
  rw [hb, Nat.min_eq_left (by omega), u32_wrap, Int.one_mul]
  have := pow_lt y.toNat hy
  have e : ((2 : Int) ^ y.toNat) = ((2 ^ y.toNat : Nat) : Int) := by simp
  rw [e]
  generalize 2 ^ y.toNat = p at *
  omega
theorem or_bit (m : Nat) (hm : m < 4294967296) (y : Int) (h0 : 0 ≤ y) (h1 : y < 32) : Go.bits .or .u32 (m : Int) (shl .u32 1 y) = ((m ||| 2 ^ y.toNat : Nat) : Int) := by
  rw [shl_one y h0 h1]
  exact (bits_nat .u32 32 (by decide) wraps_u32 m (2 ^ y.toNat) hm (pow_lt _ (by omega))).2
theorem or_lt (m : Nat) (hm : m < 4294967296) (i : Nat) (h : i < 32) : m ||| 2 ^ i < 4294967296 := by
  have h1 : m < 2 ^ 32 := hm
  have h2 : 2 ^ i < 2 ^ 32 := pow_lt i h
  exact Nat.or_lt_two_pow h1 h2
theorem has_bit (m : Nat) (hm : m < 4294967296) (y : Int) (h0 : 0 ≤ y) (h1 : y < 32) : ((Go.bits .and .u32 (shr .u32 (m : Int) y) 1) == 1) = m.testBit y.toNat := by
  have hb : IntKind.u32.bits = 32 := rfl
  have e : shr .u32 (m : Int) y = ((m / 2 ^ y.toNat : Nat) : Int) := by
    unfold shr
    rw [hb, Nat.min_eq_left (by omega)]
    simp
  have hlt : m / 2 ^ y.toNat < 2 ^ 32 := Nat.lt_of_le_of_lt (Nat.div_le_self _ _) hm
  rw [e]
  have h := (bits_nat .u32 32 (by decide) wraps_u32 (m / 2 ^ y.toNat) 1 hlt (by decide)).1
  rw [show (1 : Int) = ((1 : Nat) : Int) from rfl, h, Nat.testBit, Nat.shiftRight_eq_div_pow, Nat.and_comm]
  rw [Bool.eq_iff_iff, beq_iff_eq, bne_iff_ne]
  rw [Nat.and_comm, Nat.and_one_is_mod]
  omega
/-- What a map tells of a number, plainly. -/
def hasP (base : Int) (m : Nat) (a : Int) : Bool :=
  decide (1 ≤ (base - a) % 65536 ∧ (base - a) % 65536 < 32768) || (decide (1 ≤ (a - base) % 65536 ∧ (a - base) % 65536 ≤ 32) && m.testBit ((a - base) % 65536 - 1).toNat)
theorem has_f (base : Int) (m : Nat) (a : Int) (hm : m < 4294967296) : ackmap_Has.f base (m : Int) a = some (hasP base m a) := by
  unfold ackmap_Has.f hasP
  rw [before_f]
  simp only [Option.bind_some]
  by_cases h : 1 ≤ (base - a) % 65536 ∧ (base - a) % 65536 < 32768
  · rw [decide_eq_true h, if_pos rfl]; rfl
  · rw [decide_eq_false h, if_neg (by simp), ahead_f, Bool.false_or]
    simp only [Option.bind_some]
    generalize hn : (a - base) % 65536 = n
    by_cases h1 : n ≥ 1
    · rw [if_pos h1]
      by_cases h2 : n ≤ 32
      · rw [if_pos h2]
        have e : wrap64 (n - 1) = n - 1 := by unfold wrap64; omega
        rw [e, if_pos (by omega), has_bit m hm (n - 1) (by omega) (by omega), decide_eq_true (show 1 ≤ n ∧ n ≤ 32 by omega), Bool.true_and]
      · rw [if_neg h2, decide_eq_false (by omega), Bool.false_and]
    · rw [if_neg h1, decide_eq_false (by omega), Bool.false_and]
/-- What comes of a base and those that have come, plainly. -/
def ofP (base : Int) : List Int → Nat → Int × Int × Int
  | [], m => (base, (m : Int), 0)
  | a :: t, m => if 1 ≤ (base - a) % 65536 ∧ (base - a) % 65536 < 32768 then ofP base t m
    else if (a - base) % 65536 = 0 then (0, 0, 13) else if (a - base) % 65536 > 32 then (0, 0, 11) else ofP base t (m ||| 2 ^ ((a - base) % 65536 - 1).toNat)
theorem of_loop (base : Int) (xs : List Int) (n : Int) (hn : n = xs.length) (hl : xs.length ≤ 1000) (d : Nat) : ∀ (k i m : Nat), m < 4294967296 → i + d = xs.length → d < k →
    ackmap_Of.l0 k base xs n (i : Int) base (m : Int) = some (ofP base (xs.drop i) m) := by
  subst hn
  induction d with
  | zero =>
    intro k i m hm hi hk
    obtain ⟨k, rfl⟩ : ∃ j, k = j + 1 := ⟨k - 1, by omega⟩
    rw [ackmap_Of.l0, if_neg (by omega), List.drop_of_length_le (by omega), ofP]
  | succ d ih =>
    intro k i m hm hi hk
    obtain ⟨k, rfl⟩ : ∃ j, k = j + 1 := ⟨k - 1, by omega⟩
    have hlt : i < xs.length := by omega
    have er : rd xs (i : Int) = xs[i] := by
      unfold rd
      rw [Int.toNat_natCast, List.getD_eq_getElem?_getD, List.getElem?_eq_getElem hlt]
      rfl
    have e1 : wrap64 ((i : Int) + 1) = ((i + 1 : Nat) : Int) := by unfold wrap64; omega
    rw [ackmap_Of.l0, if_pos (by omega), if_pos (by omega), if_pos (by omega), er, ahead_f, before_f, e1, List.drop_eq_getElem_cons hlt, ofP]
    simp only [Option.bind_some]
    by_cases hb : 1 ≤ (base - xs[i]) % 65536 ∧ (base - xs[i]) % 65536 < 32768
    · rw [decide_eq_true hb, if_pos rfl, if_pos hb]
      exact ih k (i + 1) m hm (by omega) (by omega)
    · rw [decide_eq_false hb, if_neg (by simp), if_neg hb]
      generalize hj : (xs[i] - base) % 65536 = j
      by_cases h0 : j = 0
      · rw [if_pos h0, if_pos h0]
      · rw [if_neg h0, if_neg h0]
        by_cases h1 : j > 32
        · rw [if_pos h1, if_pos h1]
        · rw [if_neg h1, if_neg h1]
          have e : wrap64 (j - 1) = j - 1 := by unfold wrap64; omega
          rw [e, if_pos (by omega), or_bit m hm (j - 1) (by omega) (by omega)]
          exact ih k (i + 1) _ (or_lt m hm _ (by omega)) (by omega) (by omega)
theorem of_f (base : Int) (xs : List Int) (hl : xs.length ≤ 1000) (k : Nat) (hk : xs.length < k) : ackmap_Of.f k base xs = some (ofP base xs 0) := by
  unfold ackmap_Of.f
  have := of_loop base xs xs.length rfl hl xs.length k 0 0 (by omega) (by omega) hk
  exact this
theorem maps_true : shuttlelaw15_maps.f 5 = some true := by decide +kernel
theorem maps_f (k : Nat) (hk : 5 ≤ k) : shuttlelaw15_maps.f k = some true := at_rounds (g := fun k => shuttlelaw15_maps.f k) (fun k => shuttlelaw15_maps.mono k) hk maps_true
theorem tmod_16 (x : Int) : (Int.tmod x 65536 = x % 65536) ∨ (Int.tmod x 65536 = x % 65536 - 65536 ∧ 0 < x % 65536) := by
  rw [Int.tmod_eq_emod]
  split
  · left; simp
  · rename_i h
    right
    have h' : ¬ (65536 : Int) ∣ x := fun hd => h (.inr hd)
    have : x % 65536 ≠ 0 := fun e => h' (Int.dvd_of_emod_eq_zero e)
    simp
    omega
theorem ref_plus (a n : Int) (h0 : 0 ≤ a) (h1 : a ≤ 65535) : shuttleref14_Plus.f a n = some ((a + n) % 65536) := by
  unfold shuttleref14_Plus.f
  congr 1
  have hm := tmod_16 n
  generalize Int.tmod n 65536 = t at *
  have e1 : wrap64 (a + t) = a + t := by unfold wrap64; omega
  rw [e1]
  have hs := tmod_16 (a + t)
  generalize Int.tmod (a + t) 65536 = s at *
  have e2 : wrap64 (s + 65536) = s + 65536 := by unfold wrap64; omega
  rw [e2, Int.tmod_eq_emod_of_nonneg (by omega)]
  omega
theorem ref_before (a b : Int) (a0 : 0 ≤ a) (a1 : a ≤ 65535) (b0 : 0 ≤ b) (b1 : b ≤ 65535) : shuttleref15_Before.f a b = some (decide (1 ≤ (b - a) % 65536 ∧ (b - a) % 65536 < 32768)) := by
  unfold shuttleref15_Before.f
  have e : wrap64 (-a) = -a := by unfold wrap64; omega
  rw [e, ref_plus b (-a) b0 b1]
  simp only [Option.bind_some]
  have e2 : b + -a = b - a := by omega
  rw [e2]
  by_cases h : (b - a) % 65536 ≥ 1
  · rw [if_pos h]; congr 1; rw [decide_eq_decide]; omega
  · rw [if_neg h, decide_eq_false (by omega)]
theorem ref_has (base : Int) (m : Nat) (a : Int) (hm : m < 4294967296) (b0 : 0 ≤ base) (b1 : base ≤ 65535) (a0 : 0 ≤ a) (a1 : a ≤ 65535) : shuttleref15_Has.f base (m : Int) a = some (hasP base m a) := by
  unfold shuttleref15_Has.f hasP
  rw [ref_before a base a0 a1 b0 b1]
  simp only [Option.bind_some]
  by_cases h : 1 ≤ (base - a) % 65536 ∧ (base - a) % 65536 < 32768
  · rw [decide_eq_true h, if_pos rfl]; rfl
  · have e : wrap64 (-base) = -base := by unfold wrap64; omega
    rw [decide_eq_false h, if_neg (by simp), e, ref_plus a (-base) a0 a1, Bool.false_or]
    simp only [Option.bind_some]
    have e2 : a + -base = a - base := by omega
    rw [e2]
    generalize hn : (a - base) % 65536 = n
    by_cases h1 : n ≥ 1
    · rw [if_pos h1]
      by_cases h2 : n ≤ 32
      · rw [if_pos h2]
        have e : wrap64 (n - 1) = n - 1 := by unfold wrap64; omega
        rw [e, if_pos (by omega), has_bit m hm (n - 1) (by omega) (by omega), decide_eq_true (show 1 ≤ n ∧ n ≤ 32 by omega), Bool.true_and]
      · rw [if_neg h2, decide_eq_false (by omega), Bool.false_and]
    · rw [if_neg h1, decide_eq_false (by omega), Bool.false_and]
/-- Those of d numbers from the i-th on that haven't come. -/
def missL (base : Int) (m : Nat) (a : Int) : Int → Nat → List Int
  | _, 0 => []
  | i, d + 1 => if hasP base m ((a + i) % 65536) = true then missL base m a (i + 1) d else ((a + i) % 65536) :: missL base m a (i + 1) d
theorem missing_loop (base : Int) (m : Nat) (a n : Int) (hm : m < 4294967296) (hn : n ≤ 64) (d : Nat) : ∀ (k : Nat) (i : Int) (acc : List Int), 0 ≤ i → i ≤ 64 → d = (n - i).toNat → acc.length ≤ i → d < k →
    ackmap_Missing.l0 k a acc n i base (m : Int) = some (acc ++ missL base m a i d) := by
  induction d with
  | zero =>
    intro k i acc i0 i1 hd hl hk
    obtain ⟨k, rfl⟩ : ∃ j, k = j + 1 := ⟨k - 1, by omega⟩
    rw [ackmap_Missing.l0, if_neg (by omega), missL, List.append_nil]
  | succ d ih =>
    intro k i acc i0 i1 hd hl hk
    obtain ⟨k, rfl⟩ : ∃ j, k = j + 1 := ⟨k - 1, by omega⟩
    have e : wrap64 (i + 1) = i + 1 := by unfold wrap64; omega
    rw [ackmap_Missing.l0, if_pos (by omega), plus_f, missL, e]
    simp only [Option.bind_some]
    rw [has_f base m _ hm]
    simp only [Option.bind_some]
    by_cases h : hasP base m ((a + i) % 65536) = true
    · rw [if_pos h, if_pos h]
      exact ih k (i + 1) acc (by omega) (by omega) (by omega) (by omega) (by omega)
    · rw [if_neg h, if_neg h, if_pos (by omega), ih k (i + 1) _ (by omega) (by omega) (by omega) (by simp; omega) (by omega)]
      simp
theorem check_loop (base : Int) (m : Nat) (a N : Int) (hm : m < 4294967296) (b0 : 0 ≤ base) (b1 : base ≤ 65535) (a0 : 0 ≤ a) (a1 : a ≤ 65535) (L : List Int) (d : Nat) : ∀ (k : Nat) (i : Int) (pre : List Int), 0 ≤ i → i ≤ 64 → d = (mn N 64 - i).toNat → pre.length ≤ i →
    L = pre ++ missL base m a i d → d < k → shuttlelaw15_AckmapHas.l0 k base (m : Int) L (pre.length : Int) i a N = some true := by
  have hn : mn N 64 ≤ 64 := by unfold mn; omega
  induction d with
  | zero =>
    intro k i pre i0 i1 hd hl hL hk
    obtain ⟨k, rfl⟩ : ∃ j, k = j + 1 := ⟨k - 1, by omega⟩
    rw [shuttlelaw15_AckmapHas.l0, if_neg (by omega)]
    rw [missL, List.append_nil] at hL
    rw [hL]
    simp
  | succ d ih =>
    intro k i pre i0 i1 hd hl hL hk
    obtain ⟨k, rfl⟩ : ∃ j, k = j + 1 := ⟨k - 1, by omega⟩
    have e : wrap64 (i + 1) = i + 1 := by unfold wrap64; omega
    have ea : wrap64 a = a := by unfold wrap64; omega
    have eb : wrap64 base = base := by unfold wrap64; omega
    rw [shuttlelaw15_AckmapHas.l0, if_pos (by omega), ea, eb, ref_plus a i a0 a1, e]
    simp only [Option.bind_some]
    rw [ref_has base m _ hm b0 b1 (by omega) (by omega)]
    simp only [Option.bind_some]
    rw [missL] at hL
    by_cases h : hasP base m ((a + i) % 65536) = true
    · rw [if_pos h] at hL ⊢
      exact ih k (i + 1) pre (by omega) (by omega) (by omega) (by omega) hL (by omega)
    · rw [if_neg h] at hL ⊢
      have hlt : pre.length < L.length := by rw [hL]; simp
      have er : rd L (pre.length : Int) = (a + i) % 65536 := by
        unfold rd
        rw [Int.toNat_natCast, hL, List.getD_eq_getElem?_getD, List.getElem?_append_right (Nat.le_refl _), Nat.sub_self]
        rfl
      have ex : wrap64 ((a + i) % 65536) = (a + i) % 65536 := by unfold wrap64; omega
      have el : wrap64 ((pre.length : Int) + 1) = ((pre ++ [(a + i) % 65536]).length : Int) := by
        simp
        unfold wrap64
        omega
      rw [if_neg (by omega), if_pos (by omega), if_pos (by omega), er, ex, if_pos rfl, el]
      refine ih k (i + 1) _ (by omega) (by omega) (by omega) (by simp; omega) ?_ (by omega)
      rw [hL]
      simp
theorem has_law (base more a N : Int) (hb : (Lit.int .u16 base).wf = true) (hmo : (Lit.int .u32 more).wf = true) (ha : (Lit.int .u16 a).wf = true) : shuttlelaw15_AckmapHas.f 100 base more a N = some true := by
  obtain ⟨b0, b1⟩ := wf_u16 hb
  obtain ⟨m0, m1⟩ := wf_u32 hmo
  obtain ⟨a0, a1⟩ := wf_u16 ha
  obtain ⟨m, rfl⟩ := Int.eq_ofNat_of_zero_le m0
  have hm : m < 4294967296 := by omega
  have ea : wrap64 a = a := by unfold wrap64; omega
  have eb : wrap64 base = base := by unfold wrap64; omega
  have hn : mn N 64 ≤ 64 := by unfold mn; omega
  unfold shuttlelaw15_AckmapHas.f
  rw [maps_f 100 (by omega)]
  simp only [Option.bind_some, if_true]
  rw [has_f base m a hm, ea, eb, ref_has base m a hm b0 b1 a0 a1]
  simp only [Option.bind_some, bne_self_eq_false]
  rw [show (100 : Nat) = 99 + 1 from rfl, shuttlelaw15_AckmapHas.j0, if_neg (by simp)]
  unfold ackmap_Missing.f
  rw [missing_loop base m a _ hm hn (mn N 64 - 0).toNat 99 0 [] (by omega) (by omega) rfl (by simp) (by omega)]
  simp only [Option.bind_some, List.nil_append]
  exact check_loop base m a N hm b0 b1 a0 a1 _ (mn N 64 - 0).toNat 99 0 [] (by omega) (by omega) rfl (by simp) (by simp) (by omega)

end AckmapHas
end Go.Proofs.Ytkafpcboflmdoaa.Pure
