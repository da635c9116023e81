/- Of up to twenty numbers that have come (each one of the 32 behind a base), with one more of these the map tells what it told, and that one; asked of the base and the 33 numbers behind it. No condition beside the types' own ranges. -/
import Derived.Test.YtkafpcboflmdoaaPAckmapGrowsx3
import Derived.Test.YtkafpcboflmdoaaWSized
namespace Go.Proofs.Ytkafpcboflmdoaa.Pure
open Go.RowKit Go.Proofs.Ytkafpcboflmdoaa.PAckmapGrows Go.Proofs.YtkafpcboflmdoaaW.PrintWords Go.Proofs.YtkafpcboflmdoaaW.PrintLast Go.Proofs.YtkafpcboflmdoaaW.PrintMore
set_option linter.unusedVariables false
namespace AckmapGrows
theorem wf_i64 {n : Int} (h : (Lit.int .i64 n).wf = true) : -9223372036854775808 ≤ n ∧ n ≤ 9223372036854775807 := by
  simp [Lit.wf, IntKind.min, IntKind.max, IntKind.signed, IntKind.bits] at h
  exact h
theorem wf_u16 {n : Int} (h : (Lit.int .u16 n).wf = true) : 0 ≤ n ∧ n ≤ 65535 := by
  simp [Lit.wf, IntKind.min, IntKind.max, IntKind.signed, IntKind.bits] at h
  exact h
theorem wf_u32 {n : Int} (h : (Lit.int .u32 n).wf = true) : 0 ≤ n ∧ n ≤ 4294967295 := by
  simp [Lit.wf, IntKind.min, IntKind.max, IntKind.signed, IntKind.bits] at h
  exact h
theorem u16_wrap (n : Int) : IntKind.u16.wrap n = n % 65536 := by
  simp [IntKind.wrap, IntKind.signed, IntKind.bits]
theorem u32_wrap (n : Int) : IntKind.u32.wrap n = n % 4294967296 := by
  simp [IntKind.wrap, IntKind.signed, IntKind.bits]
theorem u64_wrap (n : Int) : IntKind.u64.wrap n = n % 18446744073709551616 := by
  simp [IntKind.wrap, IntKind.signed, IntKind.bits]
theorem wraps_u32 (n : Int) (h0 : 0 ≤ n) (h1 : n < 2 ^ 32) : IntKind.u32.wrap n = n := by rw [u32_wrap]; omega
theorem ahead_f (a b : Int) : seq_Ahead.f a b = some ((b - a) % 65536) := by
  unfold seq_Ahead.f
  rw [u16_wrap]
  congr 1
  unfold wrap64
  omega
theorem before_f (a b : Int) : seq_Before.f a b = some (decide (1 ≤ (b - a) % 65536 ∧ (b - a) % 65536 < 32768)) := by
  unfold seq_Before.f
  rw [ahead_f]
  simp only [Option.bind_some]
  by_cases h : (b - a) % 65536 ≥ 1
  · rw [if_pos h]; simp; omega
  · rw [if_neg h]; simp; omega
theorem plus_f (a n : Int) : seq_Plus.f a n = some ((a + n) % 65536) := by
  unfold seq_Plus.f
  rw [u16_wrap, u16_wrap]
  congr 1
  omega
theorem pow_lt (i : Nat) (h : i < 32) : 2 ^ i < 4294967296 := by
  have : (2 : Nat) ^ i < 2 ^ 32 := Nat.pow_lt_pow_right (by omega) h
  omega
theorem shl_one (y : Int) (h0 : 0 ≤ y) (h1 : y < 32) : shl .u32 1 y = ((2 ^ y.toNat : Nat) : Int) := by
  unfold shl
  have hb : IntKind.u32.bits = 32 := rfl
  have hy : y.toNat < 32 := by omega
  rw [hb, Nat.min_eq_left (by omega), u32_wrap, Int.one_mul]
  have := pow_lt y.toNat hy
  have e : ((2 : Int) ^ y.toNat) = ((2 ^ y.toNat : Nat) : Int) := by simp
  rw [e]
  generalize 2 ^ y.toNat = p at *
  omega
theorem or_bit (m : Nat) (hm : m < 4294967296) (y : Int) (h0 : 0 ≤ y) (h1 : y < 32) : Go.bits .or .u32 (m : Int) (shl .u32 1 y) = ((m ||| 2 ^ y.toNat : Nat) : Int) := by
  rw [shl_one y h0 h1]
  exact (bits_nat .u32 32 (by decide) wraps_u32 m (2 ^ y.toNat) hm (pow_lt _ (by omega))).2
theorem or_lt (m : Nat) (hm : m < 4294967296) (i : Nat) (h : i < 32) : m ||| 2 ^ i < 4294967296 := by
  have h1 : m < 2 ^ 32 := hm
  have h2 : 2 ^ i < 2 ^ 32 := pow_lt i h
  exact Nat.or_lt_two_pow h1 h2
theorem has_bit (m : Nat) (hm : m < 4294967296) (y : Int) (h0 : 0 ≤ y) (h1 : y < 32) : ((Go.bits .and .u32 (shr .u32 (m : Int) y) 1) == 1) = m.testBit y.toNat := by
  have hb : IntKind.u32.bits = 32 := rfl
  have e : shr .u32 (m : Int) y = ((m / 2 ^ y.toNat : Nat) : Int) := by
    unfold shr
    rw [hb, Nat.min_eq_left (by omega)]
    simp
  have hlt : m / 2 ^ y.toNat < 2 ^ 32 := Nat.lt_of_le_of_lt (Nat.div_le_self _ _) hm
  rw [e]
  have h := (bits_nat .u32 32 (by decide) wraps_u32 (m / 2 ^ y.toNat) 1 hlt (by decide)).1
  rw [show (1 : Int) = ((1 : Nat) : Int) from rfl, h, Nat.testBit, Nat.shiftRight_eq_div_pow, Nat.and_comm]
  rw [Bool.eq_iff_iff, beq_iff_eq, bne_iff_ne]
  rw [Nat.and_comm, Nat.and_one_is_mod]
  omega
/-- What a map tells of a number, plainly. -/
def hasP (base : Int) (m : Nat) (a : Int) : Bool :=
  decide (1 ≤ (base - a) % 65536 ∧ (base - a) % 65536 < 32768) || (decide (1 ≤ (a - base) % 65536 ∧ (a - base) % 65536 ≤ 32) && m.testBit ((a - base) % 65536 - 1).toNat)
theorem has_f (base : Int) (m : Nat) (a : Int) (hm : m < 4294967296) : ackmap_Has.f base (m : Int) a = some (hasP base m a) := by
  unfold ackmap_Has.f hasP
  rw [before_f]
  simp only [Option.bind_some]
  by_cases h : 1 ≤ (base - a) % 65536 ∧ (base - a) % 65536 < 32768
  · rw [decide_eq_true h, if_pos rfl]; rfl
  · rw [decide_eq_false h, if_neg (by simp), ahead_f, Bool.false_or]
    simp only [Option.bind_some]
    generalize hn : (a - base) % 65536 = n
    by_cases h1 : n ≥ 1
    · rw [if_pos h1]
      by_cases h2 : n ≤ 32
      · rw [if_pos h2]
        have e : wrap64 (n - 1) = n - 1 := by unfold wrap64; omega
        rw [e, if_pos (by omega), has_bit m hm (n - 1) (by omega) (by omega), decide_eq_true (show 1 ≤ n ∧ n ≤ 32 by omega), Bool.true_and]
      · rw [if_neg h2, decide_eq_false (by omega), Bool.false_and]
    · rw [if_neg h1, decide_eq_false (by omega), Bool.false_and]
/-- What comes of a base and those that have come, plainly. -/
def ofP (base : Int) : List Int → Nat → Int × Int × Int
  | [], m => (base, (m : Int), 0)
  | a :: t, m => if 1 ≤ (base - a) % 65536 ∧ (base - a) % 65536 < 32768 then ofP base t m
    else if (a - base) % 65536 = 0 then (0, 0, 13) else if (a - base) % 65536 > 32 then (0, 0, 11) else ofP base t (m ||| 2 ^ ((a - base) % 65536 - 1).toNat)
theorem of_loop (base : Int) (xs : List Int) (n : Int) (hn : n = xs.length) (hl : xs.length ≤ 1000) (d : Nat) : ∀ (k i m : Nat), m < 4294967296 → i + d = xs.length → d < k →
    ackmap_Of.l0 k base xs n (i : Int) base (m : Int) = some (ofP base (xs.drop i) m) := by
  subst hn
  induction d with
  | zero =>
    intro k i m hm hi hk
    obtain ⟨k, rfl⟩ : ∃ j, k = j + 1 := ⟨k - 1, by omega⟩
    rw [ackmap_Of.l0, if_neg (by omega), List.drop_of_length_le (by omega), ofP]
  | succ d ih =>
    intro k i m hm hi hk
    obtain ⟨k, rfl⟩ : ∃ j, k = j + 1 := ⟨k - 1, by omega⟩
    have hlt : i < xs.length := by omega
    have er : rd xs (i : Int) = xs[i] := by
      unfold rd
      rw [Int.toNat_natCast, List.getD_eq_getElem?_getD, List.getElem?_eq_getElem hlt]
      rfl
    have e1 : wrap64 ((i : Int) + 1) = ((i + 1 : Nat) : Int) := by unfold wrap64; omega
    rw [ackmap_Of.l0, if_pos (by omega), if_pos (by omega), if_pos (by omega), er, ahead_f, before_f, e1, List.drop_eq_getElem_cons hlt, ofP]
    simp only [Option.bind_some]
    by_cases hb : 1 ≤ (base - xs[i]) % 65536 ∧ (base - xs[i]) % 65536 < 32768
    · rw [decide_eq_true hb, if_pos rfl, if_pos hb]
      exact ih k (i + 1) m hm (by omega) (by omega)
    · rw [decide_eq_false hb, if_neg (by simp), if_neg hb]
      generalize hj : (xs[i] - base) % 65536 = j
      by_cases h0 : j = 0
      · rw [if_pos h0, if_pos h0]
      · rw [if_neg h0, if_neg h0]
        by_cases h1 : j > 32
        · rw [if_pos h1, if_pos h1]
        · rw [if_neg h1, if_neg h1]
          have e : wrap64 (j - 1) = j - 1 := by unfold wrap64; omega
          rw [e, if_pos (by omega), or_bit m hm (j - 1) (by omega) (by omega)]
          exact ih k (i + 1) _ (or_lt m hm _ (by omega)) (by omega) (by omega)
theorem of_f (base : Int) (xs : List Int) (hl : xs.length ≤ 1000) (k : Nat) (hk : xs.length < k) : ackmap_Of.f k base xs = some (ofP base xs 0) := by
  unfold ackmap_Of.f
  have := of_loop base xs xs.length rfl hl xs.length k 0 0 (by omega) (by omega) hk
  exact this
/-- A number is one of the 32 behind a base. -/
def good (base a : Int) : Prop := 1 ≤ (a - base) % 65536 ∧ (a - base) % 65536 ≤ 32
/-- The bits of those that have come. -/
def orAll (base : Int) : List Int → Nat → Nat
  | [], m => m
  | a :: t, m => orAll base t (m ||| 2 ^ ((a - base) % 65536 - 1).toNat)
theorem ofP_append (base : Int) (xs ys : List Int) : ∀ m, (∀ a ∈ xs, good base a) → ofP base (xs ++ ys) m = ofP base ys (orAll base xs m) := by
  induction xs with
  | nil => intro m _; rfl
  | cons a t ih =>
    intro m h
    have ha := h a (List.mem_cons_self ..)
    unfold good at ha
    rw [List.cons_append, ofP, orAll, if_neg (by omega), if_neg (by omega), if_neg (by omega)]
    exact ih _ (fun b hb => h b (List.mem_cons_of_mem _ hb))
theorem ofP_good (base : Int) (xs : List Int) (h : ∀ a ∈ xs, good base a) (m : Nat) : ofP base xs m = (base, (orAll base xs m : Int), 0) := by
  have := ofP_append base xs [] m h
  rw [List.append_nil] at this
  rw [this, ofP]
theorem orAll_lt (base : Int) (xs : List Int) : ∀ m, m < 4294967296 → (∀ a ∈ xs, good base a) → orAll base xs m < 4294967296 := by
  induction xs with
  | nil => intro m hm _; exact hm
  | cons a t ih =>
    intro m hm h
    have ha := h a (List.mem_cons_self ..)
    unfold good at ha
    rw [orAll]
    exact ih _ (or_lt m hm _ (by omega)) (fun b hb => h b (List.mem_cons_of_mem _ hb))
theorem maps_true : shuttlelaw15_maps.f 5 = some true := by decide +kernel
theorem maps_f (k : Nat) (hk : 5 ≤ k) : shuttlelaw15_maps.f k = some true := at_rounds (g := fun k => shuttlelaw15_maps.f k) (fun k => shuttlelaw15_maps.mono k) hk maps_true
theorem u64_mod (n : Int) : ∃ d : Int, 1 ≤ d ∧ d ≤ 32 ∧ wrap64 (1 + wrap64 (Int.tmod (IntKind.u64.wrap n) 32)) = d := by
  rw [u64_wrap, Int.tmod_eq_emod_of_nonneg (by omega)]
  refine ⟨1 + n % 18446744073709551616 % 32, by omega, by omega, ?_⟩
  unfold wrap64
  omega
theorem orAll_last (base a : Int) (xs : List Int) : ∀ m, orAll base (xs ++ [a]) m = orAll base xs m ||| 2 ^ ((a - base) % 65536 - 1).toNat := by
  induction xs with
  | nil => intro m; rfl
  | cons b t ih => intro m; rw [List.cons_append, orAll, orAll]; exact ih _
/-- One more bit: the map tells what it told, and that one. -/
theorem grows (base : Int) (m : Nat) (d i : Int) (d1 : 1 ≤ d) (d2 : d ≤ 32) (b0 : 0 ≤ base) (b1 : base ≤ 65535) (i0 : 0 ≤ i) (i1 : i < 34) :
    hasP base (m ||| 2 ^ (((base + d) % 65536 - base) % 65536 - 1).toNat) ((base + i) % 65536) = (hasP base m ((base + i) % 65536) || ((base + i) % 65536 == (base + d) % 65536)) := by
  have e : ((base + d) % 65536 - base) % 65536 = d := by omega
  have e' : ((base + i) % 65536 - base) % 65536 = i := by omega
  have hb : ¬ (1 ≤ (base - (base + i) % 65536) % 65536 ∧ (base - (base + i) % 65536) % 65536 < 32768) := by omega
  unfold hasP
  rw [e, e', decide_eq_false hb, Bool.false_or, Bool.false_or, Nat.testBit_or, Nat.testBit_two_pow]
  have hx : ((base + i) % 65536 == (base + d) % 65536) = decide (i = d) := by
    rw [Bool.eq_iff_iff, beq_iff_eq, decide_eq_true_eq]
    omega
  rw [hx]
  by_cases h1 : 1 ≤ i ∧ i ≤ 32
  · rw [decide_eq_true h1, Bool.true_and, Bool.true_and]
    congr 1
    rw [decide_eq_decide]
    omega
  · rw [decide_eq_false h1, Bool.false_and, Bool.false_and, Bool.false_or]
    rw [eq_comm, decide_eq_false_iff_not]
    omega
theorem has_new (base : Int) (m : Nat) (d : Int) (d1 : 1 ≤ d) (d2 : d ≤ 32) (b0 : 0 ≤ base) (b1 : base ≤ 65535) : hasP base (m ||| 2 ^ (((base + d) % 65536 - base) % 65536 - 1).toNat) ((base + d) % 65536) = true := by
  rw [grows base m d d d1 d2 b0 b1 (by omega) (by omega)]
  simp
theorem asks (base x : Int) (m m2 : Nat) (d : Int) (d1 : 1 ≤ d) (d2 : d ≤ 32) (b0 : 0 ≤ base) (b1 : base ≤ 65535) (hm : m < 4294967296) (hx : x = (base + d) % 65536)
    (h2 : m2 = m ||| 2 ^ ((x - base) % 65536 - 1).toNat) (q : Nat) : ∀ (k : Nat) (i : Int), 0 ≤ i → i + q = 34 → q < k → shuttlelaw15_AckmapGrows.l1 k base x i base (m : Int) base (m2 : Int) = some true := by
  have hm2 : m2 < 4294967296 := by rw [h2]; exact or_lt m hm _ (by omega)
  induction q with
  | zero =>
    intro k i i0 hi hk
    obtain ⟨k, rfl⟩ : ∃ j, k = j + 1 := ⟨k - 1, by omega⟩
    rw [shuttlelaw15_AckmapGrows.l1, if_neg (by omega)]
  | succ q ih =>
    intro k i i0 hi hk
    obtain ⟨k, rfl⟩ : ∃ j, k = j + 1 := ⟨k - 1, by omega⟩
    have e1 : wrap64 (i + 1) = i + 1 := by unfold wrap64; omega
    have g := grows base m d i d1 d2 b0 b1 i0 (by omega)
    rw [← hx, ← h2] at g
    have hr := ih k (i + 1) (by omega) (by omega) (by omega)
    rw [shuttlelaw15_AckmapGrows.l1, if_pos (by omega), plus_f]
    simp only [Option.bind_some]
    rw [has_f base m2 _ hm2, has_f base m _ hm, e1]
    simp only [Option.bind_some]
    rw [g]
    cases hasP base m ((base + i) % 65536)
    · rw [if_neg (by simp), if_neg (by simp)]; exact hr
    · rw [if_pos rfl, if_neg (by simp)]; exact hr
theorem behind (base a2 : Int) (xs : List Int) (b0 : 0 ≤ base) (b1 : base ≤ 65535) (hl : xs.length ≤ 20) (hg : ∀ a ∈ xs, good base a) (k : Nat) (hk : 60 ≤ k) : shuttlelaw15_AckmapGrows.j1 k base a2 xs = some true := by
  obtain ⟨k, rfl⟩ : ∃ j, k = j + 2 := ⟨k - 2, by omega⟩
  obtain ⟨d, d1, d2, hd⟩ := u64_mod a2
  rw [shuttlelaw15_AckmapGrows.j1, hd, plus_f]
  have hgx : good base ((base + d) % 65536) := by unfold good; omega
  have hg2 : ∀ a ∈ xs ++ [(base + d) % 65536], good base a := by
    intro a ha
    rcases List.mem_append.1 ha with ha | ha
    · exact hg a ha
    · rw [List.mem_singleton.1 ha]; exact hgx
  simp only [Option.bind_some]
  rw [of_f base xs (by omega) _ (by omega)]
  simp only [Option.bind_some, List.nil_append]
  rw [if_pos (by simp; omega), if_pos (by omega), of_f base (xs ++ _) (by simp; omega) _ (by simp; omega), maps_f _ (by omega), ofP_good base xs hg, ofP_good base _ hg2]
  simp only [Option.bind_some, if_true]
  have hm := orAll_lt base xs 0 (by omega) hg
  have hm2 := orAll_lt base _ 0 (by omega) hg2
  rw [has_f base _ _ hm2]
  simp only [Option.bind_some]
  rw [orAll_last base _ xs 0, has_new base _ d d1 d2 b0 b1]
  rw [shuttlelaw15_AckmapGrows.j2, if_neg (by simp)]
  exact asks base _ _ _ d d1 d2 b0 b1 hm rfl rfl 34 k 0 (by omega) (by omega) (by omega)
theorem fills (base a2 : Int) (come : List Int) (b0 : 0 ≤ base) (b1 : base ≤ 65535) (d : Nat) : ∀ (k : Nat) (i : Int) (xs : List Int), 0 ≤ i → i + d = 20 → xs.length ≤ i → (∀ a ∈ xs, good base a) → 61 + d ≤ k →
    shuttlelaw15_AckmapGrows.l0 k base come a2 xs i = some true := by
  induction d with
  | zero =>
    intro k i xs i0 hi hl hg hk
    obtain ⟨k, rfl⟩ : ∃ j, k = j + 1 := ⟨k - 1, by omega⟩
    rw [shuttlelaw15_AckmapGrows.l0]
    have hj := behind base a2 xs b0 b1 (by omega) hg k (by omega)
    by_cases h : i < (come.length : Int)
    · rw [if_pos h, if_neg (by omega)]; exact hj
    · rw [if_neg h]; exact hj
  | succ d ih =>
    intro k i xs i0 hi hl hg hk
    obtain ⟨k, rfl⟩ : ∃ j, k = j + 1 := ⟨k - 1, by omega⟩
    rw [shuttlelaw15_AckmapGrows.l0]
    by_cases h : i < (come.length : Int)
    · obtain ⟨c, c1, c2, hc⟩ := u64_mod (rd come i)
      rw [if_pos h, if_pos (by omega), if_pos i0, hc, plus_f]
      simp only [Option.bind_some]
      rw [if_pos (by omega)]
      have e1 : wrap64 (i + 1) = i + 1 := by unfold wrap64; omega
      rw [e1]
      refine ih k (i + 1) _ (by omega) (by omega) (by simp; omega) ?_ (by omega)
      intro a ha
      rcases List.mem_append.1 ha with ha | ha
      · exact hg a ha
      · rw [List.mem_singleton.1 ha]; unfold good; omega
    · rw [if_neg h]
      exact behind base a2 xs b0 b1 (by omega) hg k (by omega)
end AckmapGrows
open AckmapGrows

theorem AckmapGrows : shuttlelaw15_AckmapGrows.Pure := by
  intro base come a2 hb _ _ _ _
  obtain ⟨b0, b1⟩ := wf_u16 hb
  refine ⟨100, ?_⟩
  unfold shuttlelaw15_AckmapGrows.f
  exact fills base a2 come b0 b1 20 100 0 [] (by omega) (by omega) (by simp) (fun a ha => by cases ha) (by omega)

end Go.Proofs.Ytkafpcboflmdoaa.Pure

namespace Go.Proofs.Ytkafpcboflmdoaa.PrintWords
/-- The row names this word so. -/
abbrev sized_ints := @Go.Proofs.YtkafpcboflmdoaaW.PrintWords.sized_ints
end Go.Proofs.Ytkafpcboflmdoaa.PrintWords
