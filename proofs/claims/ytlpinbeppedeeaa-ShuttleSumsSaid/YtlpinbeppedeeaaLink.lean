/- What the printed functions come to, in plain numbers: a byte's bits, bits turned, the sum of 16 bits, the rest. Conditions: bytes; up to 40 of them. -/
import Derived.Test.YtlpinbeppedeeaaCrcs
import Derived.Test.YtlpinbeppedeeaaQ2
import Derived.Laws.BitsAllLaws
namespace Go.Proofs.Ytlpinbeppedeeaa.Pure
open Go.RowKit Go.Proofs.Ytlpinbeppedeeaa.Q Go.Proofs.YtlpinbeppedeeaaW.PrintWords Go.Proofs.YtlpinbeppedeeaaW.PrintLast Go.Proofs.YtlpinbeppedeeaaW.PrintMore
set_option linter.unusedVariables false
/-- A list of plain numbers as the program's. -/
def I (l : List Nat) : List Int := l.map (fun n : Nat => (n : Int))
theorem I_len (l : List Nat) : (I l).length = l.length := by rw [I, List.length_map]
theorem I_app (l m : List Nat) : I (l ++ m) = I l ++ I m := by rw [I, I, I, List.map_append]
theorem I_rd (l : List Nat) (i : Nat) (h : i < l.length) : rd (I l) (i : Int) = ((l.getD i 0 : Nat) : Int) := by
  rw [rd_at _ _ (by rw [I_len]; exact h), List.getD_eq_getElem?_getD, List.getElem?_eq_getElem h]
  simp [I]
/-- All bits of bytes, each byte's highest first. -/
def ofN : List Nat → List Nat
  | [] => []
  | c :: l => bits8 c ++ ofN l
theorem ofN_app (l m : List Nat) : ofN (l ++ m) = ofN l ++ ofN m := by
  induction l with
  | nil => rfl
  | cons c l ih => show bits8 c ++ ofN (l ++ m) = _; rw [ih, ← List.append_assoc]; rfl
theorem ofN_len (l : List Nat) : (ofN l).length = 8 * l.length := by
  induction l with
  | nil => rfl
  | cons c l ih => rw [ofN, List.length_append, ih, List.length_cons]; show 8 + 8 * l.length = _; omega
theorem bits8_lt (c : Nat) : ∀ x ∈ bits8 c, x < 2 := by
  intro x hx
  simp only [bits8, List.mem_cons, List.not_mem_nil, or_false] at hx
  omega
theorem ofN_lt (l : List Nat) : ∀ x ∈ ofN l, x < 2 := by
  induction l with
  | nil => intro x hx; cases hx
  | cons c l ih =>
    intro x hx
    rcases List.mem_append.mp hx with h | h
    · exact bits8_lt c x h
    · exact ih x h
theorem bit_u8 (c j : Nat) (hc : c < 256) (hj : j ≤ 7) : Go.bits .and .u8 (shr .u8 (c : Int) (j : Int)) 1 = ((c / 2 ^ j % 2 : Nat) : Int) := by
  unfold shr
  have hb : IntKind.u8.bits = 8 := rfl
  rw [hb, Int.toNat_natCast, Nat.min_eq_left (by omega)]
  have e : (c : Int) / 2 ^ j = ((c / 2 ^ j : Nat) : Int) := by simp
  have hlt : c / 2 ^ j < 256 := Nat.lt_of_le_of_lt (Nat.div_le_self _ _) hc
  rw [e, low_u8 _ hlt]
theorem of_step (k : Nat) (acc : List Int) (c : Nat) (hc : c < 256) (xs : List Int) (n i : Int) (j : Nat) (hj : j < 8) (ha : acc.length < 1000) :
    bits_Of.l1 (k + 1) acc (c : Int) xs n i (j : Int) = bits_Of.l1 k (acc ++ [((c / 2 ^ (7 - j) % 2 : Nat) : Int)]) (c : Int) xs n i ((j + 1 : Nat) : Int) := by
  have e1 : wrap64 (7 - (j : Int)) = ((7 - j : Nat) : Int) := by unfold wrap64; omega
  have e2 : wrap64 ((j : Int) + 1) = ((j + 1 : Nat) : Int) := by unfold wrap64; omega
  rw [bits_Of.l1, if_pos (by omega), e1, if_pos (by omega), if_pos (Nat.lt_trans ha (by decide)), bit_u8 c _ hc (by omega), e2]
theorem of_byte (k : Nat) (acc : List Int) (c : Nat) (hc : c < 256) (xs : List Int) (n i : Int) (ha : acc.length + 8 < 1000) :
    bits_Of.l1 (k + 9) acc (c : Int) xs n i 0 = bits_Of.l0 k (acc ++ I (bits8 c)) xs n (wrap64 (i + 1)) := by
  have h0 := of_step (k + 8) acc c hc xs n i 0 (by decide) (by omega)
  have h1 := of_step (k + 7) (acc ++ [((c / 2 ^ 7 % 2 : Nat) : Int)]) c hc xs n i 1 (by decide) (by simp; omega)
  have h2 := of_step (k + 6) (acc ++ [((c / 2 ^ 7 % 2 : Nat) : Int)] ++ [((c / 2 ^ 6 % 2 : Nat) : Int)]) c hc xs n i 2 (by decide) (by simp; omega)
  have h3 := of_step (k + 5) (acc ++ [((c / 2 ^ 7 % 2 : Nat) : Int)] ++ [((c / 2 ^ 6 % 2 : Nat) : Int)] ++ [((c / 2 ^ 5 % 2 : Nat) : Int)]) c hc xs n i 3 (by decide) (by simp; omega)
  have h4 := of_step (k + 4) (acc ++ [((c / 2 ^ 7 % 2 : Nat) : Int)] ++ [((c / 2 ^ 6 % 2 : Nat) : Int)] ++ [((c / 2 ^ 5 % 2 : Nat) : Int)] ++ [((c / 2 ^ 4 % 2 : Nat) : Int)]) c hc xs n i 4 (by decide) (by simp; omega)
  have h5 := of_step (k + 3) (acc ++ [((c / 2 ^ 7 % 2 : Nat) : Int)] ++ [((c / 2 ^ 6 % 2 : Nat) : Int)] ++ [((c / 2 ^ 5 % 2 : Nat) : Int)] ++ [((c / 2 ^ 4 % 2 : Nat) : Int)] ++ [((c / 2 ^ 3 % 2 : Nat) : Int)]) c hc xs n i 5 (by decide) (by simp; omega)
  have h6 := of_step (k + 2) (acc ++ [((c / 2 ^ 7 % 2 : Nat) : Int)] ++ [((c / 2 ^ 6 % 2 : Nat) : Int)] ++ [((c / 2 ^ 5 % 2 : Nat) : Int)] ++ [((c / 2 ^ 4 % 2 : Nat) : Int)] ++ [((c / 2 ^ 3 % 2 : Nat) : Int)] ++ [((c / 2 ^ 2 % 2 : Nat) : Int)]) c hc xs n i 6 (by decide) (by simp; omega)
  have h7 := of_step (k + 1) (acc ++ [((c / 2 ^ 7 % 2 : Nat) : Int)] ++ [((c / 2 ^ 6 % 2 : Nat) : Int)] ++ [((c / 2 ^ 5 % 2 : Nat) : Int)] ++ [((c / 2 ^ 4 % 2 : Nat) : Int)] ++ [((c / 2 ^ 3 % 2 : Nat) : Int)] ++ [((c / 2 ^ 2 % 2 : Nat) : Int)] ++ [((c / 2 ^ 1 % 2 : Nat) : Int)]) c hc xs n i 7 (by decide) (by simp; omega)
  refine h0.trans (h1.trans (h2.trans (h3.trans (h4.trans (h5.trans (h6.trans (h7.trans ?_)))))))
  rw [bits_Of.l1, if_neg (by decide)]
  simp [I, bits8]
theorem of_loop (b : List Nat) (hb : ∀ x ∈ b, x < 256) (hl : b.length ≤ 40) : ∀ (m i k : Nat), i + m = b.length → 10 * m < k →
    bits_Of.l0 k (I (ofN (b.take i))) (I b) (b.length : Int) (i : Int) = some (I (ofN b)) := by
  intro m
  induction m with
  | zero =>
    intro i k hi hk
    obtain ⟨k, rfl⟩ : ∃ j, k = j + 1 := ⟨k - 1, by omega⟩
    rw [bits_Of.l0, if_neg (by omega), List.take_of_length_le (by omega)]
  | succ m ih =>
    intro i k hi hk
    obtain ⟨k, rfl⟩ : ∃ j, k = j + 10 := ⟨k - 10, by omega⟩
    have hlt : i < b.length := by omega
    have hc : b.getD i 0 < 256 := by
      rw [List.getD_eq_getElem?_getD, List.getElem?_eq_getElem hlt]
      exact hb _ (List.getElem_mem hlt)
    have ht : I (ofN (b.take i)) ++ I (bits8 (b.getD i 0)) = I (ofN (b.take (i + 1))) := by
      rw [List.take_add_one, List.getElem?_eq_getElem hlt, ofN_app, I_app, List.getD_eq_getElem?_getD, List.getElem?_eq_getElem hlt]
      simp [ofN]
    have hal : (I (ofN (b.take i))).length + 8 < 1000 := by rw [I_len, ofN_len, List.length_take]; omega
    rw [show k + 10 = (k + 9) + 1 by omega, bits_Of.l0, if_pos (by omega), if_pos (by omega), if_pos (by rw [I_len]; omega), I_rd b i hlt, of_byte k _ _ hc _ _ _ hal, ht,
      show wrap64 ((i : Int) + 1) = ((i + 1 : Nat) : Int) by unfold wrap64; omega]
    exact ih (i + 1) k (by omega) (by omega)
theorem of_f (b : List Nat) (hb : ∀ x ∈ b, x < 256) (hl : b.length ≤ 40) (k : Nat) (hk : 500 ≤ k) : bits_Of.f k (I b) = some (I (ofN b)) := by
  unfold bits_Of.f
  have := of_loop b hb hl b.length 0 k (by omega) (by omega)
  rw [I_len]
  exact this

/-! ### Places turned -/
def turnI (l : List Int) (p : Int) : List Int := if 0 ≤ p ∧ p < (l.length : Int) then l.set p.toNat (Go.bits .xor .u8 (rd l p) 1) else l
theorem turn_loop (ps : List Int) (hp : ps.length ≤ 100) : ∀ (m i k : Nat) (l : List Int), i + m = ps.length → m < k →
    bits_Turn.l0 k l ps (ps.length : Int) (i : Int) = some ((ps.drop i).foldl turnI l) := by
  intro m
  induction m with
  | zero =>
    intro i k l hi hk
    obtain ⟨k, rfl⟩ : ∃ j, k = j + 1 := ⟨k - 1, by omega⟩
    rw [bits_Turn.l0, if_neg (by omega), List.drop_of_length_le (by omega)]
    rfl
  | succ m ih =>
    intro i k l hi hk
    obtain ⟨k, rfl⟩ : ∃ j, k = j + 1 := ⟨k - 1, by omega⟩
    have hlt : i < ps.length := by omega
    rw [bits_Turn.l0, if_pos (by omega), if_pos (by omega), if_pos (by omega), List.drop_eq_getElem_cons hlt, List.foldl_cons, show wrap64 ((i : Int) + 1) = ((i + 1 : Nat) : Int) by unfold wrap64; omega, rd_at ps i hlt]
    generalize ps[i] = p
    by_cases c : p ≥ 0
    · rw [if_pos c]
      by_cases d : p < (l.length : Int)
      · rw [if_pos d, if_pos c, ih _ _ _ (by omega) (by omega)]
        rw [turnI, if_pos ⟨c, d⟩]
      · rw [if_neg d, ih _ _ _ (by omega) (by omega), turnI, if_neg (fun h => d h.2)]
    · rw [if_neg c, ih _ _ _ (by omega) (by omega), turnI, if_neg (fun h => c h.1)]
theorem turn_f (l ps : List Int) (hl : l.length < 1000000) (hp : ps.length ≤ 100) (k : Nat) (hk : 200 ≤ k) : bits_Turn.f k l ps = some (ps.foldl turnI l) := by
  unfold bits_Turn.f slices_Clone_byte_byte.f
  rw [if_pos hl, Option.bind_some]
  exact turn_loop ps hp ps.length 0 k l (by omega) (by omega)
def checkT : Bool := (List.range 256).all fun c => (List.range 8).all fun p => bits8 (c ^^^ 2 ^ (7 - p)) == (bits8 c).set p ((bits8 c).getD p 0 ^^^ 1)
theorem checkT_true : checkT = true := by decide +kernel
theorem bits8_tog (c p : Nat) (hc : c < 256) (hp : p < 8) : bits8 (c ^^^ 2 ^ (7 - p)) = (bits8 c).set p ((bits8 c).getD p 0 ^^^ 1) := by
  have h := List.all_eq_true.mp checkT_true c (List.mem_range.mpr hc)
  have h2 := List.all_eq_true.mp h p (List.mem_range.mpr hp)
  simpa using h2
theorem ofN_tog : ∀ (l : List Nat) (p : Nat), (∀ x ∈ l, x < 256) → p < 8 * l.length → ofN (tog l p) = (ofN l).set p ((ofN l).getD p 0 ^^^ 1) := by
  intro l
  induction l with
  | nil => intro p _ h; simp at h
  | cons c l ih =>
    intro p hb h
    have hc := hb c List.mem_cons_self
    have hl8 : (bits8 c).length = 8 := rfl
    by_cases hp : p < 8
    · have e0 : p / 8 = 0 := by omega
      have e1 : p % 8 = p := by omega
      rw [tog, e0, e1]
      show bits8 (c ^^^ 2 ^ (7 - p)) ++ ofN l = (bits8 c ++ ofN l).set p _
      rw [List.set_append_left _ _ (by rw [hl8]; exact hp), bits8_tog c p hc hp]
      congr 3
      rw [ofN, List.getD_eq_getElem?_getD, List.getD_eq_getElem?_getD, List.getElem?_append_left (by rw [hl8]; exact hp)]
    · obtain ⟨q, rfl⟩ : ∃ q, p = q + 8 := ⟨p - 8, by omega⟩
      have e0 : (q + 8) / 8 = q / 8 + 1 := by omega
      have e1 : (q + 8) % 8 = q % 8 := by omega
      have e2 : tog (c :: l) (q + 8) = c :: tog l q := by rw [tog, e0, e1]; rfl
      rw [e2, ofN, ih q (fun x hx => hb x (List.mem_cons_of_mem _ hx)) (by rw [List.length_cons] at h; omega), ofN, List.set_append_right _ _ (by rw [hl8]; omega), hl8, Nat.add_sub_cancel]
      congr 3
theorem tog_lt (l : List Nat) (p : Nat) (hb : ∀ x ∈ l, x < 256) : ∀ x ∈ tog l p, x < 256 := by
  intro x hx
  rcases List.mem_or_eq_of_mem_set hx with h | rfl
  · exact hb x h
  · refine Nat.xor_lt_two_pow (n := 8) ?_ (Nat.pow_lt_pow_right (by decide) (by omega))
    rw [List.getD_eq_getElem?_getD]
    by_cases c : p / 8 < l.length
    · rw [List.getElem?_eq_getElem c]; exact hb _ (List.getElem_mem c)
    · rw [List.getElem?_eq_none (by omega)]; decide
theorem I_set (l : List Nat) (p v : Nat) : (I l).set p (v : Int) = I (l.set p v) := by rw [I, I, List.map_set]
theorem turnI_tog (l : List Nat) (p : Nat) (hb : ∀ x ∈ l, x < 256) (hp : p < 8 * l.length) : turnI (I (ofN l)) (p : Int) = I (ofN (tog l p)) := by
  have hlt : p < (ofN l).length := by rw [ofN_len]; exact hp
  rw [turnI, if_pos ⟨by omega, by rw [I_len]; omega⟩, I_rd _ _ hlt, Int.toNat_natCast, ofN_tog l p hb hp]
  have hv : (ofN l).getD p 0 < 256 := by
    rw [List.getD_eq_getElem?_getD, List.getElem?_eq_getElem hlt]
    have := ofN_lt l _ (List.getElem_mem hlt)
    show (ofN l)[p] < 256
    omega
  have e : Go.bits .xor .u8 (((ofN l).getD p 0 : Nat) : Int) 1 = (((ofN l).getD p 0 ^^^ 1 : Nat) : Int) := by
    exact u8_xor_nat ((ofN l).getD p 0) 1 hv (by decide)
  rw [e, I_set]
/-- Places turned, one behind the other. -/
def togs (l : List Nat) (ps : List Nat) : List Nat := ps.foldl tog l
theorem turns (ps : List Nat) : ∀ (l : List Nat), (∀ x ∈ l, x < 256) → (∀ p ∈ ps, p < 8 * l.length) → (I ps).foldl turnI (I (ofN l)) = I (ofN (togs l ps)) := by
  induction ps with
  | nil => intro l _ _; rfl
  | cons p ps ih =>
    intro l hb hp
    show (I ps).foldl turnI (turnI (I (ofN l)) (p : Int)) = I (ofN (togs (tog l p) ps))
    rw [turnI_tog l p hb (hp p List.mem_cons_self), ih (tog l p) (tog_lt l p hb) (fun q hq => by rw [tog_len]; exact hp q (List.mem_cons_of_mem _ hq))]
end Go.Proofs.Ytlpinbeppedeeaa.Pure
