/- What the printed sums, bytes and places come to, in plain numbers. Conditions: bytes; up to 40 of them. -/
import Derived.Test.YtlpinbeppedeeaaLink
namespace Go.Proofs.Ytlpinbeppedeeaa.Pure
open Go.RowKit Go.Proofs.Ytlpinbeppedeeaa.Q Go.Proofs.YtlpinbeppedeeaaW.PrintWords Go.Proofs.YtlpinbeppedeeaaW.PrintLast Go.Proofs.YtlpinbeppedeeaaW.PrintMore
set_option linter.unusedVariables false
theorem fold_A : ∀ (l : List Nat) (r : Nat), (∀ c ∈ l, c < 2) → fold 69665 16 (I l) r = A r l := by
  intro l
  induction l with
  | nil => intro r _; rfl
  | cons c l ih =>
    intro r h
    show fold 69665 16 (I l) (rs 69665 16 r (c : Int).toNat) = A (up r c) l
    rw [Int.toNat_natCast, up_rs r c (h c List.mem_cons_self), ih _ (fun x hx => h x (List.mem_cons_of_mem _ hx))]
theorem rest_bits (l : List Nat) (h : ∀ c ∈ l, c < 2) (hl : l.length ≤ 300) (k : Nat) (hk : 400 ≤ k) : gf2_Rest.f k (I l) 69665 = some (((A 0 l : Nat) : Int), true) := by
  have := rest_f 69665 16 (by decide) (by decide) (by decide +kernel) (by decide) (by decide) (by decide) k (I l) (fun x hx => by
    obtain ⟨c, hc, rfl⟩ := List.mem_map.mp hx
    have := h c hc
    omega) (by rw [I_len]; exact hl) hk
  rw [fold_A l 0 h] at this
  exact this
theorem A_lt : ∀ (l : List Nat) (r : Nat), r < 65536 → (∀ c ∈ l, c < 2) → A r l < 65536 := by
  intro l
  induction l with
  | nil => intro r h _; exact h
  | cons c l ih => intro r h hl; exact ih _ (up_lt r c h (hl c List.mem_cons_self)) (fun x hx => hl x (List.mem_cons_of_mem _ hx))

/-! ### The sum of 16 bits -/
theorem up_high (x : Nat) (h : x < 65536) (hb : x.testBit 15 = true) : up x 0 = (2 * x % 65536) ^^^ 4129 := by
  have h32 : 32768 ≤ x := Nat.ge_two_pow_of_testBit hb
  unfold up
  rw [if_pos hb, Nat.xor_zero]
  have e1 := Nat.xor_div_two_pow (a := 2 * x) (b := 69665) (n := 16)
  have e2 := Nat.xor_mod_two_pow (a := 2 * x) (b := 69665) (n := 16)
  rw [show (2 : Nat) ^ 16 = 65536 from rfl] at e1 e2
  rw [show 2 * x / 65536 = 1 by omega, show 69665 / 65536 = 1 by decide, Nat.xor_self] at e1
  rw [show 69665 % 65536 = 4129 by decide] at e2
  omega
theorem step16 (k x i : Nat) (h : x < 65536) (hi : i < 8) : crc16_step.l0 (k + 1) (x : Int) (i : Int) = crc16_step.l0 k ((dn x 0 : Nat) : Int) ((i + 1 : Nat) : Int) := by
  have e0 : dn x 0 = up x 0 := by unfold dn; rw [if_neg (by decide), Nat.xor_zero]
  have ha : Go.bits .and .u16 (x : Int) 32768 = ((x &&& 32768 : Nat) : Int) := u16_and_nat x 32768 h (by decide)
  have hm : x &&& 32768 = if x.testBit 15 = true then 32768 else 0 := by
    apply Nat.eq_of_testBit_eq
    intro j
    rw [Nat.testBit_and, show (32768 : Nat) = 2 ^ 15 from rfl, Nat.testBit_two_pow]
    have hj : (2 ^ 15).testBit j = decide (15 = j) := Nat.testBit_two_pow
    by_cases e : 15 = j
    · subst e
      cases hx : x.testBit 15
      · rfl
      · decide
    · rw [decide_eq_false e, Bool.and_false]
      cases hx : x.testBit 15
      · exact (Nat.zero_testBit j).symm
      · show false = Nat.testBit 32768 j
        rw [show (32768 : Nat) = 2 ^ 15 from rfl, hj, decide_eq_false e]
  rw [crc16_step.l0, if_pos (by omega), ha, hm, e0, show wrap64 ((i : Int) + 1) = ((i + 1 : Nat) : Int) by unfold wrap64; omega, u16_w]
  by_cases c : x.testBit 15 = true
  · rw [if_pos c, if_neg (by decide), up_high x h c, show (x : Int) * 2 % 65536 = ((2 * x % 65536 : Nat) : Int) by omega]
    have := u16_xor_nat (2 * x % 65536) 4129 (Nat.mod_lt _ (by decide)) (by decide)
    rw [show ((4129 : Nat) : Int) = 4129 from rfl] at this
    rw [this]
  · rw [if_neg c, if_pos (show ((0 : Nat) : Int) = 0 from rfl)]
    have hlow : x < 32768 := by
      apply Nat.lt_of_not_le
      intro hge
      apply c
      rw [Nat.testBit_eq_decide_div_mod_eq, show x / 2 ^ 15 = 1 by rw [show (2 : Nat) ^ 15 = 32768 from rfl]; omega]
      decide
    have : up x 0 = 2 * x := by unfold up; rw [if_neg c, Nat.xor_zero, Nat.xor_zero]
    rw [this, show (x : Int) * 2 % 65536 = ((2 * x : Nat) : Int) by omega]
theorem dn_lt (x : Nat) (h : x < 65536) : dn x 0 < 65536 := by
  have e0 : dn x 0 = up x 0 := by unfold dn; rw [if_neg (by decide), Nat.xor_zero]
  rw [e0]; exact up_lt x 0 h (by decide)
theorem steps16 : ∀ (m i k x : Nat), i + m = 8 → m < k → x < 65536 → crc16_step.l0 k (x : Int) (i : Int) = some ((D x (List.replicate m 0) : Nat) : Int) := by
  intro m
  induction m with
  | zero =>
    intro i k x hi hk _
    obtain ⟨k, rfl⟩ : ∃ j, k = j + 1 := ⟨k - 1, by omega⟩
    rw [crc16_step.l0, if_neg (by omega)]
    rfl
  | succ m ih =>
    intro i k x hi hk hx
    obtain ⟨k, rfl⟩ : ∃ j, k = j + 1 := ⟨k - 1, by omega⟩
    rw [step16 k x i hx (by omega), ih (i + 1) k _ (by omega) (by omega) (dn_lt x hx)]
    rfl
theorem step_f (n c : Nat) (hn : n < 65536) (hc : c < 256) (k : Nat) (hk : 8 < k) : crc16_step.f k (n : Int) (c : Int) = some ((D n (bits8 c) : Nat) : Int) := by
  unfold crc16_step.f
  have e : IntKind.u16.wrap (IntKind.u16.wrap (c : Int) * 256) = ((256 * c : Nat) : Int) := by rw [u16_w, u16_w]; omega
  rw [e, u16_xor_nat n (256 * c) hn (by omega)]
  have h := steps16 8 0 k (n ^^^ (256 * c)) (by omega) hk (Nat.xor_lt_two_pow (n := 16) hn (by omega))
  rw [byte16 n c hc] at h
  exact h
theorem D_app (l m : List Nat) : ∀ n, D n (l ++ m) = D (D n l) m := by
  induction l with
  | nil => intro n; rfl
  | cons c l ih => intro n; exact ih (dn n c)
theorem D_lt : ∀ (l : List Nat) (n : Nat), n < 65536 → D n l < 65536 := by
  intro l
  induction l with
  | nil => intro n h; exact h
  | cons c l ih =>
    intro n h
    refine ih _ ?_
    unfold dn
    exact Nat.xor_lt_two_pow (n := 16) (up_lt n 0 h (by decide)) (by split <;> decide)
theorem sum16_loop (b : List Nat) (hb : ∀ x ∈ b, x < 256) (hl : b.length ≤ 40) : ∀ (m i k : Nat), i + m = b.length → m + 10 < k →
    crc16_Sum.l0 k ((D 65535 (ofN (b.take i)) : Nat) : Int) (I b) (b.length : Int) (i : Int) = some ((D 65535 (ofN b) : Nat) : Int) := by
  intro m
  induction m with
  | zero =>
    intro i k hi hk
    obtain ⟨k, rfl⟩ : ∃ j, k = j + 1 := ⟨k - 1, by omega⟩
    rw [crc16_Sum.l0, if_neg (by omega), List.take_of_length_le (by omega)]
  | succ m ih =>
    intro i k hi hk
    obtain ⟨k, rfl⟩ : ∃ j, k = j + 1 := ⟨k - 1, by omega⟩
    have hlt : i < b.length := by omega
    have hc : b.getD i 0 < 256 := by
      rw [List.getD_eq_getElem?_getD, List.getElem?_eq_getElem hlt]
      exact hb _ (List.getElem_mem hlt)
    have ht : ofN (b.take i) ++ bits8 (b.getD i 0) = ofN (b.take (i + 1)) := by
      rw [List.take_add_one, List.getElem?_eq_getElem hlt, ofN_app, List.getD_eq_getElem?_getD, List.getElem?_eq_getElem hlt]
      simp [ofN]
    rw [crc16_Sum.l0, if_pos (by omega), if_pos (by omega), if_pos (by rw [I_len]; omega), I_rd b i hlt, step_f _ _ (D_lt _ _ (by decide)) hc k (by omega), Option.bind_some, ← D_app, ht,
      show wrap64 ((i : Int) + 1) = ((i + 1 : Nat) : Int) by unfold wrap64; omega]
    exact ih (i + 1) k (by omega) (by omega)
theorem sum16_f (b : List Nat) (hb : ∀ x ∈ b, x < 256) (hl : b.length ≤ 40) (k : Nat) (hk : 100 ≤ k) : crc16_Sum.f k (I b) = some ((D 65535 (ofN b) : Nat) : Int) := by
  unfold crc16_Sum.f
  have := sum16_loop b hb hl b.length 0 k (by omega) (by omega)
  rw [I_len]
  exact this

/-! ### Places -/
theorem places_loop (l : List Int) (n : Nat) (hn : 1 ≤ n) (hn2 : n ≤ 1000) : ∀ (m i k : Nat) (acc : List Nat), i + m = 3 → m < k → acc.length ≤ i → (∀ p ∈ acc, p < n) →
    ∃ ps : List Nat, shuttletop_places.l0 k l 3 (n : Int) (I acc) (i : Int) = some (I ps) ∧ ps.length ≤ 3 ∧ ∀ p ∈ ps, p < n := by
  intro m
  induction m with
  | zero =>
    intro i k acc hi hk ha hp
    obtain ⟨k, rfl⟩ : ∃ j, k = j + 1 := ⟨k - 1, by omega⟩
    refine ⟨acc, ?_, by omega, hp⟩
    rw [shuttletop_places.l0]
    by_cases c : (i : Int) < (l.length : Int)
    · rw [if_pos c, if_neg (by omega)]
    · rw [if_neg c]
  | succ m ih =>
    intro i k acc hi hk ha hp
    obtain ⟨k, rfl⟩ : ∃ j, k = j + 1 := ⟨k - 1, by omega⟩
    rw [shuttletop_places.l0]
    by_cases c : (i : Int) < (l.length : Int)
    · have e0 : IntKind.u64.wrap (n : Int) = (n : Int) := by rw [u64_w]; omega
      rw [if_pos c, if_pos (by omega), if_pos (by omega), e0, if_neg (by omega), if_pos (by rw [I_len]; exact Nat.lt_of_le_of_lt (show acc.length ≤ 3 by omega) (by decide)),
        show wrap64 ((i : Int) + 1) = ((i + 1 : Nat) : Int) by unfold wrap64; omega]
      have hw : 0 ≤ IntKind.u64.wrap (rd l (i : Int)) := by rw [u64_w]; omega
      rw [Int.tmod_eq_emod_of_nonneg hw]
      have g0 := Int.emod_nonneg (IntKind.u64.wrap (rd l (i : Int))) (show (n : Int) ≠ 0 by omega)
      have g1 := Int.emod_lt_of_pos (IntKind.u64.wrap (rd l (i : Int))) (show 0 < (n : Int) by omega)
      generalize IntKind.u64.wrap (rd l (i : Int)) % (n : Int) = r at g0 g1
      obtain ⟨q, rfl⟩ := Int.eq_ofNat_of_zero_le g0
      rw [show wrap64 ((q : Nat) : Int) = ((q : Nat) : Int) by unfold wrap64; omega, show I acc ++ [((q : Nat) : Int)] = I (acc ++ [q]) by rw [I_app]; rfl]
      exact ih (i + 1) k (acc ++ [q]) (by omega) (by omega) (by rw [List.length_append, List.length_singleton]; omega) (fun p hpm => by
        rcases List.mem_append.mp hpm with h | h
        · exact hp p h
        · rw [List.mem_singleton] at h; subst h; omega)
    · rw [if_neg c]
      exact ⟨acc, rfl, by omega, hp⟩
theorem places_f (l : List Int) (n : Nat) (hn : 1 ≤ n) (hn2 : n ≤ 1000) (k : Nat) (hk : 10 ≤ k) :
    ∃ ps : List Nat, shuttletop_places.f k l 3 (n : Int) = some (I ps) ∧ ps.length ≤ 3 ∧ ∀ p ∈ ps, p < n :=
  places_loop l n hn hn2 3 0 k [] (by omega) (by omega) (by simp) (fun p h => by cases h)
end Go.Proofs.Ytlpinbeppedeeaa.Pure
