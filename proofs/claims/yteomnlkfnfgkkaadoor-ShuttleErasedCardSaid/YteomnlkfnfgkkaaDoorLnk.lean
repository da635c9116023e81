/- What the printed functions come to, in plain numbers (turned from our text on another seat): the bits of bytes, a list cut, numbers for bits. Conditions: bytes; up to 40 of them. -/
import Derived.Test.YteomnlkfnfgkkaaDoorQ1
import Derived.Test.YteomnlkfnfgkkaaDoorGain
import Derived.Laws.BitsAllLaws
namespace Go.Proofs.YteomnlkfnfgkkaaDoor.Pure
open Go.RowKit Go.Proofs.YteomnlkfnfgkkaaDoor.Q Go.Proofs.YteomnlkfnfgkkaaDoorW.PrintWords Go.Proofs.YteomnlkfnfgkkaaDoorW.PrintLast Go.Proofs.YteomnlkfnfgkkaaDoorW.PrintMore
set_option linter.unusedVariables false
theorem low_u8 (c : Nat) (hc : c < 256) : Go.bits .and .u8 (c : Int) 1 = ((c % 2 : Nat) : Int) := by
  rw [show (1 : Int) = ((1 : Nat) : Int) from rfl, (bits_nat .u8 8 (by decide) wraps_u8 c 1 hc (by decide)).1, Nat.and_one_is_mod]
theorem rd_at (xs : List Int) (i : Nat) (hlt : i < xs.length) : rd xs (i : Int) = xs[i] := by
  unfold rd
  rw [Int.toNat_natCast, List.getD_eq_getElem?_getD, List.getElem?_eq_getElem hlt]
  rfl
theorem wf_u8 {n : Int} (h : (Lit.int .u8 n).wf = true) : 0 ≤ n ∧ n ≤ 255 := by
  simp [Lit.wf, IntKind.min, IntKind.max, IntKind.signed, IntKind.bits] at h
  exact h
def bits8 (c : Nat) : List Nat := [c / 128 % 2, c / 64 % 2, c / 32 % 2, c / 16 % 2, c / 8 % 2, c / 4 % 2, c / 2 % 2, c % 2]
/-- A list of plain numbers as the program's. -/
def I (l : List Nat) : List Int := l.map (fun n : Nat => (n : Int))
theorem I_len (l : List Nat) : (I l).length = l.length := by rw [I, List.length_map]
theorem I_app (l m : List Nat) : I (l ++ m) = I l ++ I m := by rw [I, I, I, List.map_append]
theorem I_rd (l : List Nat) (i : Nat) (h : i < l.length) : rd (I l) (i : Int) = ((l.getD i 0 : Nat) : Int) := by
  rw [rd_at _ _ (by rw [I_len]; exact h), List.getD_eq_getElem?_getD, List.getElem?_eq_getElem h]
  simp [I]
/-- All bits of bytes, each byte's highest first. -/
def ofN : List Nat → List Nat
  | [] => []
  | c :: l => bits8 c ++ ofN l
theorem ofN_app (l m : List Nat) : ofN (l ++ m) = ofN l ++ ofN m := by
  induction l with
  | nil => rfl
  | cons c l ih => show bits8 c ++ ofN (l ++ m) = _; rw [ih, ← List.append_assoc]; rfl
theorem ofN_len (l : List Nat) : (ofN l).length = 8 * l.length := by
  induction l with
  | nil => rfl
  | cons c l ih => rw [ofN, List.length_append, ih, List.length_cons]; show 8 + 8 * l.length = _; omega
theorem bits8_lt (c : Nat) : ∀ x ∈ bits8 c, x < 2 := by
  intro x hx
  simp only [bits8, List.mem_cons, List.not_mem_nil, or_false] at hx
  omega
theorem ofN_lt (l : List Nat) : ∀ x ∈ ofN l, x < 2 := by
  induction l with
  | nil => intro x hx; cases hx
  | cons c l ih =>
    intro x hx
    rcases List.mem_append.mp hx with h | h
    · exact bits8_lt c x h
    · exact ih x h
theorem bit_u8 (c j : Nat) (hc : c < 256) (hj : j ≤ 7) : Go.bits .and .u8 (shr .u8 (c : Int) (j : Int)) 1 = ((c / 2 ^ j % 2 : Nat) : Int) := by
  unfold shr
  have hb : IntKind.u8.bits = 8 := rfl
  rw [hb, Int.toNat_natCast, Nat.min_eq_left (by omega)]
  have e : (c : Int) / 2 ^ j = ((c / 2 ^ j : Nat) : Int) := by simp
  have hlt : c / 2 ^ j < 256 := Nat.lt_of_le_of_lt (Nat.div_le_self _ _) hc
  rw [e, low_u8 _ hlt]
theorem of_step (k : Nat) (acc : List Int) (c : Nat) (hc : c < 256) (xs : List Int) (n i : Int) (j : Nat) (hj : j < 8) (ha : acc.length < 1000) :
    bits_Of.l1 (k + 1) acc (c : Int) xs n i (j : Int) = bits_Of.l1 k (acc ++ [((c / 2 ^ (7 - j) % 2 : Nat) : Int)]) (c : Int) xs n i ((j + 1 : Nat) : Int) := by
  have e1 : wrap64 (7 - (j : Int)) = ((7 - j : Nat) : Int) := by unfold wrap64; omega
  have e2 : wrap64 ((j : Int) + 1) = ((j + 1 : Nat) : Int) := by unfold wrap64; omega
  rw [bits_Of.l1, if_pos (by omega), e1, if_pos (by omega), if_pos (Nat.lt_trans ha (by decide)), bit_u8 c _ hc (by omega), e2]
theorem of_byte (k : Nat) (acc : List Int) (c : Nat) (hc : c < 256) (xs : List Int) (n i : Int) (ha : acc.length + 8 < 1000) :
    bits_Of.l1 (k + 9) acc (c : Int) xs n i 0 = bits_Of.l0 k (acc ++ I (bits8 c)) xs n (wrap64 (i + 1)) := by
  have h0 := of_step (k + 8) acc c hc xs n i 0 (by decide) (by omega)
  have h1 := of_step (k + 7) (acc ++ [((c / 2 ^ 7 % 2 : Nat) : Int)]) c hc xs n i 1 (by decide) (by simp; omega)
  have h2 := of_step (k + 6) (acc ++ [((c / 2 ^ 7 % 2 : Nat) : Int)] ++ [((c / 2 ^ 6 % 2 : Nat) : Int)]) c hc xs n i 2 (by decide) (by simp; omega)
  have h3 := of_step (k + 5) (acc ++ [((c / 2 ^ 7 % 2 : Nat) : Int)] ++ [((c / 2 ^ 6 % 2 : Nat) : Int)] ++ [((c / 2 ^ 5 % 2 : Nat) : Int)]) c hc xs n i 3 (by decide) (by simp; omega)
  have h4 := of_step (k + 4) (acc ++ [((c / 2 ^ 7 % 2 : Nat) : Int)] ++ [((c / 2 ^ 6 % 2 : Nat) : Int)] ++ [((c / 2 ^ 5 % 2 : Nat) : Int)] ++ [((c / 2 ^ 4 % 2 : Nat) : Int)]) c hc xs n i 4 (by decide) (by simp; omega)
  have h5 := of_step (k + 3) (acc ++ [((c / 2 ^ 7 % 2 : Nat) : Int)] ++ [((c / 2 ^ 6 % 2 : Nat) : Int)] ++ [((c / 2 ^ 5 % 2 : Nat) : Int)] ++ [((c / 2 ^ 4 % 2 : Nat) : Int)] ++ [((c / 2 ^ 3 % 2 : Nat) : Int)]) c hc xs n i 5 (by decide) (by simp; omega)
  have h6 := of_step (k + 2) (acc ++ [((c / 2 ^ 7 % 2 : Nat) : Int)] ++ [((c / 2 ^ 6 % 2 : Nat) : Int)] ++ [((c / 2 ^ 5 % 2 : Nat) : Int)] ++ [((c / 2 ^ 4 % 2 : Nat) : Int)] ++ [((c / 2 ^ 3 % 2 : Nat) : Int)] ++ [((c / 2 ^ 2 % 2 : Nat) : Int)]) c hc xs n i 6 (by decide) (by simp; omega)
  have h7 := of_step (k + 1) (acc ++ [((c / 2 ^ 7 % 2 : Nat) : Int)] ++ [((c / 2 ^ 6 % 2 : Nat) : Int)] ++ [((c / 2 ^ 5 % 2 : Nat) : Int)] ++ [((c / 2 ^ 4 % 2 : Nat) : Int)] ++ [((c / 2 ^ 3 % 2 : Nat) : Int)] ++ [((c / 2 ^ 2 % 2 : Nat) : Int)] ++ [((c / 2 ^ 1 % 2 : Nat) : Int)]) c hc xs n i 7 (by decide) (by simp; omega)
  refine h0.trans (h1.trans (h2.trans (h3.trans (h4.trans (h5.trans (h6.trans (h7.trans ?_)))))))
  rw [bits_Of.l1, if_neg (by decide)]
  simp [I, bits8]
theorem of_loop (b : List Nat) (hb : ∀ x ∈ b, x < 256) (hl : b.length ≤ 40) : ∀ (m i k : Nat), i + m = b.length → 10 * m < k →
    bits_Of.l0 k (I (ofN (b.take i))) (I b) (b.length : Int) (i : Int) = some (I (ofN b)) := by
  intro m
  induction m with
  | zero =>
    intro i k hi hk
    obtain ⟨k, rfl⟩ : ∃ j, k = j + 1 := ⟨k - 1, by omega⟩
    rw [bits_Of.l0, if_neg (by omega), List.take_of_length_le (by omega)]
  | succ m ih =>
    intro i k hi hk
    obtain ⟨k, rfl⟩ : ∃ j, k = j + 10 := ⟨k - 10, by omega⟩
    have hlt : i < b.length := by omega
    have hc : b.getD i 0 < 256 := by
      rw [List.getD_eq_getElem?_getD, List.getElem?_eq_getElem hlt]
      exact hb _ (List.getElem_mem hlt)
    have ht : I (ofN (b.take i)) ++ I (bits8 (b.getD i 0)) = I (ofN (b.take (i + 1))) := by
      rw [List.take_add_one, List.getElem?_eq_getElem hlt, ofN_app, I_app, List.getD_eq_getElem?_getD, List.getElem?_eq_getElem hlt]
      simp [ofN]
    have hal : (I (ofN (b.take i))).length + 8 < 1000 := by rw [I_len, ofN_len, List.length_take]; omega
    rw [show k + 10 = (k + 9) + 1 by omega, bits_Of.l0, if_pos (by omega), if_pos (by omega), if_pos (by rw [I_len]; omega), I_rd b i hlt, of_byte k _ _ hc _ _ _ hal, ht,
      show wrap64 ((i : Int) + 1) = ((i + 1 : Nat) : Int) by unfold wrap64; omega]
    exact ih (i + 1) k (by omega) (by omega)
theorem of_f (b : List Nat) (hb : ∀ x ∈ b, x < 256) (hl : b.length ≤ 40) (k : Nat) (hk : 500 ≤ k) : bits_Of.f k (I b) = some (I (ofN b)) := by
  unfold bits_Of.f
  have := of_loop b hb hl b.length 0 k (by omega) (by omega)
  rw [I_len]
  exact this

theorem nats (l : List Int) (h : ∀ x ∈ l, 0 ≤ x ∧ x ≤ 255) : ∃ b : List Nat, l = I b ∧ ∀ x ∈ b, x < 256 := by
  refine ⟨l.map Int.toNat, ?_, ?_⟩
  · unfold I
    rw [List.map_map]
    refine ((List.map_congr_left (fun x hx => ?_)).trans (List.map_id l)).symm
    have := h x hx
    show ((x.toNat : Nat) : Int) = id x
    simp only [id]
    omega
  · intro x hx
    obtain ⟨y, hy, rfl⟩ := List.mem_map.mp hx
    have := h y hy
    omega
theorem cut_f (l : List Int) : shuttletop_cut.f l 8 = some (l.take 8) := by
  have h : mn (l.length : Int) 8 ≤ l.length ∧ 0 ≤ mn (l.length : Int) 8 ∧ mn (l.length : Int) 8 ≤ 8 ∧ (mn (l.length : Int) 8 = 8 ∨ mn (l.length : Int) 8 = l.length) := by unfold mn; split <;> omega
  generalize hm : mn (l.length : Int) 8 = m at h
  unfold shuttletop_cut.f
  rw [hm, Option.bind_some, if_pos h.2.1, if_pos h.1, if_pos (by rw [List.length_take]; simp; omega), List.nil_append]
  rcases h.2.2.2 with e | e
  · rw [e]; rfl
  · rw [e, Int.toNat_natCast, List.take_of_length_le (Nat.le_refl _), List.take_of_length_le (by omega)]
/-- What comes in: bits, 64 at most. -/
theorem bits_in (b : List Int) (h : ∀ x ∈ b, 0 ≤ x ∧ x ≤ 255) : ∃ l, bits_Of.f 500 (b.take 8) = some l ∧ l.length ≤ 64 ∧ ∀ x ∈ l, 0 ≤ x ∧ x ≤ 1 := by
  obtain ⟨c, e, hc⟩ := nats (b.take 8) (fun x hx => h x (List.mem_of_mem_take hx))
  have hl : c.length ≤ 8 := by
    have := congrArg List.length e
    rw [I_len, List.length_take] at this
    omega
  refine ⟨I (ofN c), by rw [e]; exact of_f c hc (by omega) 500 (Nat.le_refl _), by rw [I_len, ofN_len]; omega, ?_⟩
  intro x hx
  obtain ⟨y, hy, rfl⟩ := List.mem_map.mp hx
  have := ofN_lt c y hy
  omega
theorem all_loop (l : List Int) (hl : l.length ≤ 1000) : ∀ (m i k : Nat), i + m = l.length → m < k → soft_All.l0 k ((l.take i).map sg) l (l.length : Int) (i : Int) = some (l.map sg) := by
  intro m
  induction m with
  | zero =>
    intro i k hi hk
    obtain ⟨k, rfl⟩ : ∃ j, k = j + 1 := ⟨k - 1, by omega⟩
    rw [soft_All.l0, if_neg (by omega), List.take_of_length_le (by omega)]
  | succ m ih =>
    intro i k hi hk
    obtain ⟨k, rfl⟩ : ∃ j, k = j + 1 := ⟨k - 1, by omega⟩
    have hlt : i < l.length := by omega
    have ht : (l.take i).map sg ++ [sg l[i]] = (l.take (i + 1)).map sg := by rw [List.take_add_one, List.getElem?_eq_getElem hlt, List.map_append]; rfl
    rw [soft_All.l0, if_pos (by omega), if_pos (by omega), if_pos (by omega), of_sg, Option.bind_some, if_pos (by rw [List.length_map, List.length_take]; omega), rd_at l i hlt, ht,
      show wrap64 ((i : Int) + 1) = ((i + 1 : Nat) : Int) by unfold wrap64; omega]
    exact ih (i + 1) k (by omega) (by omega)
theorem all_f (l : List Int) (hl : l.length ≤ 1000) : soft_All.f 1001 l = some (l.map sg) := by
  unfold soft_All.f
  exact all_loop l hl l.length 0 1001 (by omega) (by omega)
end Go.Proofs.YteomnlkfnfgkkaaDoor.Pure
