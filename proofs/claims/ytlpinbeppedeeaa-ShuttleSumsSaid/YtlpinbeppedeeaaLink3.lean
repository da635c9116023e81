/- Bytes out of bits, the sum of 32 bits, and that three turned bits or fewer change it if they change the bytes: in plain numbers. Conditions: bytes; up to 30 of them. -/
import Derived.Test.YtlpinbeppedeeaaLink2
import Derived.Lib.Bytes
namespace Go.Proofs.Ytlpinbeppedeeaa.Pure
open Go.RowKit Go.Proofs.Ytlpinbeppedeeaa.Q Go.Proofs.YtlpinbeppedeeaaW.PrintWords Go.Proofs.YtlpinbeppedeeaaW.PrintLast Go.Proofs.YtlpinbeppedeeaaW.PrintMore
set_option linter.unusedVariables false
def accF (f : Nat → Nat) : Nat → Int
  | 0 => 0
  | j + 1 => Go.bits .or .u8 (accF f j) (((f j : Nat) : Int) * 2 ^ (7 - j) % 256)
def check9 : Bool := (List.range 256).all fun c => decide (accF (fun j => (bits8 c).getD j 0) 8 = (c : Int))
theorem check9_true : check9 = true := by decide +kernel
theorem acc_byte (c : Nat) (hc : c < 256) : accF (fun j => (bits8 c).getD j 0) 8 = (c : Int) := by
  have h := List.all_eq_true.mp check9_true c (List.mem_range.mpr hc)
  simpa using h
theorem ofN_getD : ∀ (b : List Nat) (k j : Nat), k < b.length → j < 8 → (ofN b).getD (8 * k + j) 0 = (bits8 (b.getD k 0)).getD j 0 := by
  intro b
  induction b with
  | nil => intro k j h; simp at h
  | cons c b ih =>
    intro k j h hj
    have hl8 : (bits8 c).length = 8 := rfl
    cases k with
    | zero =>
      show (bits8 c ++ ofN b).getD (8 * 0 + j) 0 = (bits8 c).getD j 0
      rw [List.getD_eq_getElem?_getD, List.getD_eq_getElem?_getD, List.getElem?_append_left (by rw [hl8]; omega), Nat.mul_zero, Nat.zero_add]
    | succ k =>
      show (bits8 c ++ ofN b).getD (8 * (k + 1) + j) 0 = (bits8 (b.getD k 0)).getD j 0
      rw [← ih k j (by simpa using h) hj, List.getD_eq_getElem?_getD, List.getD_eq_getElem?_getD, List.getElem?_append_right (by rw [hl8]; omega), hl8, show 8 * (k + 1) + j - 8 = 8 * k + j by omega]
theorem acc_of (b : List Nat) (k : Nat) (hk : k < b.length) : ∀ j, j ≤ 8 → accN (I (ofN b)) k j = accF (fun j => (bits8 (b.getD k 0)).getD j 0) j := by
  intro j
  induction j with
  | zero => intro _; rfl
  | succ j ih =>
    intro hj
    have e : (8 * (k : Int) + (j : Int)) = ((8 * k + j : Nat) : Int) := by omega
    rw [accN, accF, ih (by omega), e, I_rd _ _ (by rw [ofN_len]; omega), ofN_getD b k j hk (by omega)]
theorem pack_of (b : List Nat) (hb : ∀ x ∈ b, x < 256) : packN (I (ofN b)) = I b := by
  have hl : (I (ofN b)).length / 8 = b.length := by rw [I_len, ofN_len]; omega
  unfold packN
  rw [hl]
  apply List.ext_getElem
  · rw [List.length_map, List.length_range, I_len]
  · intro k h1 h2
    have hk : k < b.length := by rw [List.length_map, List.length_range] at h1; exact h1
    have hc : b.getD k 0 < 256 := by
      rw [List.getD_eq_getElem?_getD, List.getElem?_eq_getElem hk]
      exact hb _ (List.getElem_mem hk)
    rw [List.getElem_map, List.getElem_range, byteN, acc_of b k hk 8 (Nat.le_refl _), acc_byte _ hc]
    simp [I, List.getD_eq_getElem?_getD, List.getElem?_eq_getElem hk]
theorem bytes_f (b : List Nat) (hb : ∀ x ∈ b, x < 256) (h0 : 0 < b.length) (hl : b.length ≤ 40) : bits_Bytes.f (I (ofN b)) = some (I b, 0) := by
  unfold bits_Bytes.f
  rw [if_pos, pack_of b hb]
  refine ⟨by rw [I_len, ofN_len]; omega, by rw [I_len, ofN_len]; omega, by rw [I_len, ofN_len]; omega, fun x hx => ?_⟩
  obtain ⟨c, hc, rfl⟩ := List.mem_map.mp hx
  have := ofN_lt b c hc
  omega

/-! ### The sum of 32 bits -/
def check4 : Bool := (List.range 16).all fun s => decide (rd tabL (s : Int) = ((Gi 4 s : Nat) : Int))
theorem check4_true : check4 = true := by decide +kernel
theorem half_nat (a : Nat) (h : a < 4294967296) : halfS (a : Int) = ((Gi 4 a : Nat) : Int) := by
  have hs : a % 16 < 16 := Nat.mod_lt _ (by decide)
  have h1 := List.all_eq_true.mp check4_true (a % 16) (List.mem_range.mpr hs)
  have h2 : rd tabL ((a % 16 : Nat) : Int) = ((Gi 4 (a % 16) : Nat) : Int) := by simpa using h1
  have e1 : Int.tmod (a : Int) 16 = ((a % 16 : Nat) : Int) := by rw [Int.tmod_eq_emod_of_nonneg (by omega)]; omega
  have e2 : (a : Int) / 16 = ((a / 16 : Nat) : Int) := by omega
  have e3 : a = (16 * (a / 16)) ^^^ (a % 16) := by
    have d := Nat.xor_div_two_pow (a := 16 * (a / 16)) (b := a % 16) (n := 4)
    have m := Nat.xor_mod_two_pow (a := 16 * (a / 16)) (b := a % 16) (n := 4)
    rw [show (2 : Nat) ^ 4 = 16 from rfl] at d m
    rw [show 16 * (a / 16) / 16 = a / 16 by omega, show a % 16 / 16 = 0 by omega, Nat.xor_zero] at d
    rw [show 16 * (a / 16) % 16 = 0 by omega, show a % 16 % 16 = a % 16 by omega, Nat.zero_xor] at m
    omega
  have e4 : Gi 4 (16 * (a / 16)) = a / 16 := by
    rw [show 16 * (a / 16) = 2 * (2 * (2 * (2 * (a / 16)))) by omega]
    show G (G (G (G _))) = _
    rw [G_two, G_two, G_two, G_two]
  have e5 : Gi 4 a = (a / 16) ^^^ Gi 4 (a % 16) := by
    have : Gi 4 ((16 * (a / 16)) ^^^ (a % 16)) = (a / 16) ^^^ Gi 4 (a % 16) := by rw [Gi_xor, e4]
    rw [← e3] at this
    exact this
  unfold halfS
  rw [e1, e2, h2, u32_xor_nat (a / 16) (Gi 4 (a % 16)) (by omega) (Gi_lt 4 _ (by omega)), e5]
theorem byte_nat (n c : Nat) (hn : n < 4294967296) (hc : c < 256) : byteS (n : Int) (c : Int) = ((Gi 8 (n ^^^ c) : Nat) : Int) := by
  unfold byteS
  rw [show (c : Int) % 4294967296 = (c : Int) by omega, u32_xor_nat n c hn (by omega), half_nat _ (Nat.xor_lt_two_pow (n := 32) hn (by omega)), half_nat _ (Gi_lt 4 _ (Nat.xor_lt_two_pow (n := 32) hn (by omega))), ← Gi_add]
theorem St_app (l m : List Nat) : ∀ n, St n (l ++ m) = St (St n l) m := by
  induction l with
  | nil => intro n; rfl
  | cons c l ih => intro n; exact ih _
theorem St_lt : ∀ (l : List Nat) (n : Nat), n < 4294967296 → (∀ x ∈ l, x < 256) → St n l < 4294967296 := by
  intro l
  induction l with
  | nil => intro n h _; exact h
  | cons c l ih =>
    intro n h hb
    exact ih _ (Gi_lt 8 _ (Nat.xor_lt_two_pow (n := 32) h (by have := hb c List.mem_cons_self; omega))) (fun x hx => hb x (List.mem_cons_of_mem _ hx))
theorem sum_take (b : List Nat) (hb : ∀ x ∈ b, x < 256) : ∀ i, i ≤ b.length → sumN (I b) i = ((St 4294967295 (b.take i) : Nat) : Int) := by
  intro i
  induction i with
  | zero => intro _; rfl
  | succ i ih =>
    intro hi
    have hlt : i < b.length := by omega
    have hc := hb _ (List.getElem_mem hlt)
    have hg : b.getD i 0 = b[i] := by rw [List.getD_eq_getElem?_getD, List.getElem?_eq_getElem hlt]; rfl
    rw [sumN, ih (by omega), I_rd b i hlt, hg, byte_nat _ _ (St_lt _ _ (by decide) (fun x hx => hb x (List.mem_of_mem_take hx))) hc, List.take_add_one, List.getElem?_eq_getElem hlt, Option.toList_some, St_app]
    rfl
theorem sum_f (b : List Nat) (hb : ∀ x ∈ b, x < 256) (hl : b.length ≤ 40) : crc32_Sum.f (I b) = some ((4294967295 ^^^ St 4294967295 b : Nat) : Int) := by
  unfold crc32_Sum.f
  have h := sum_take b hb b.length (Nat.le_refl _)
  rw [List.take_of_length_le (Nat.le_refl _)] at h
  rw [I_len, if_pos (by omega), h, show IntKind.u32.max = ((4294967295 : Nat) : Int) from rfl, u32_xor_nat _ _ (by decide) (St_lt _ _ (by decide) hb)]

/-! ### Three turned bits, or fewer -/
theorem xor_left {a b c : Nat} (h : a ^^^ b = a ^^^ c) : b = c := by
  have : a ^^^ (a ^^^ b) = a ^^^ (a ^^^ c) := by rw [h]
  rwa [← Nat.xor_assoc, ← Nat.xor_assoc, Nat.xor_self, Nat.zero_xor, Nat.zero_xor] at this
theorem tog_tog (l : List Nat) (p : Nat) (h : p < 8 * l.length) : tog (tog l p) p = l := by
  have hi : p / 8 < l.length := by omega
  rw [tog, tog, List.set_set]
  have e : (l.set (p / 8) (l.getD (p / 8) 0 ^^^ 2 ^ (7 - p % 8))).getD (p / 8) 0 = l.getD (p / 8) 0 ^^^ 2 ^ (7 - p % 8) := by
    rw [List.getD_eq_getElem?_getD, List.getElem?_set, if_pos rfl, if_pos hi]; rfl
  rw [e, Nat.xor_assoc, Nat.xor_self, Nat.xor_zero, List.getD_eq_getElem?_getD, List.getElem?_eq_getElem hi]
  exact List.set_getElem_self hi
theorem st_eq (b : List Nat) (hl : b.length ≤ 30) (n : Nat) (ps : List Nat) (h3 : ps.length ≤ 3) (hp : ∀ p ∈ ps, p < 8 * b.length) (e : St n (togs b ps) = St n b) : togs b ps = b := by
  match ps, h3, hp, e with
  | [], _, _, _ => rfl
  | [p], _, hp, e =>
    have h1 := hp p (by simp)
    have e1 : St n (togs b [p]) = St n b ^^^ Gi (pw b.length p) 1 := St_tog b n p h1
    rw [e1] at e
    have : Gi (pw b.length p) 1 = 0 := xor_left (e.trans (Nat.xor_zero _).symm)
    exact absurd this (one_pw _)
  | [p, q], _, hp, e =>
    have h1 := hp p (by simp)
    have h2 := hp q (by simp)
    have e1 : St n (togs b [p, q]) = St n b ^^^ (Gi (pw b.length p) 1 ^^^ Gi (pw b.length q) 1) := by
      show St n (tog (tog b p) q) = _
      rw [St_tog _ n q (by rw [tog_len]; exact h2), tog_len, St_tog b n p h1, Nat.xor_assoc]
    rw [e1] at e
    have hz : Gi (pw b.length p) 1 ^^^ Gi (pw b.length q) 1 = 0 := xor_left (e.trans (Nat.xor_zero _).symm)
    have b1 := pw_in b.length p h1
    have b2 := pw_in b.length q h2
    by_cases c : p = q
    · subst c; exact tog_tog b p h1
    · have hne : pw b.length p ≠ pw b.length q := fun h => c (pw_inj _ _ _ h1 h2 h)
      rcases Nat.lt_or_gt_of_ne hne with g | g
      · exact absurd hz (two_pw _ _ b1.1 (by omega) g)
      · rw [Nat.xor_comm] at hz
        exact absurd hz (two_pw _ _ b2.1 (by omega) g)
  | [p, q, r], _, hp, e =>
    have h1 := hp p (by simp)
    have h2 := hp q (by simp)
    have h3 := hp r (by simp)
    have e1 : St n (togs b [p, q, r]) = St n b ^^^ ((Gi (pw b.length p) 1 ^^^ Gi (pw b.length q) 1) ^^^ Gi (pw b.length r) 1) := by
      show St n (tog (tog (tog b p) q) r) = _
      rw [St_tog _ n r (by rw [tog_len, tog_len]; exact h3), tog_len, tog_len, St_tog _ n q (by rw [tog_len]; exact h2), tog_len, St_tog b n p h1]
      ac_rfl
    rw [e1] at e
    have hz : (Gi (pw b.length p) 1 ^^^ Gi (pw b.length q) 1) ^^^ Gi (pw b.length r) 1 = 0 := xor_left (e.trans (Nat.xor_zero _).symm)
    have b1 := pw_in b.length p h1
    have b2 := pw_in b.length q h2
    have b3 := pw_in b.length r h3
    exfalso
    generalize pw b.length p = x at hz b1
    generalize pw b.length q = y at hz b2
    generalize pw b.length r = z at hz b3
    by_cases c : x = y
    · subst c; rw [Nat.xor_self, Nat.zero_xor] at hz; exact one_pw _ hz
    · by_cases d : x = z
      · subst d
        rw [show (Gi x 1 ^^^ Gi y 1) ^^^ Gi x 1 = Gi y 1 ^^^ (Gi x 1 ^^^ Gi x 1) by ac_rfl, Nat.xor_self, Nat.xor_zero] at hz
        exact one_pw _ hz
      · by_cases f : y = z
        · subst f
          rw [Nat.xor_assoc, Nat.xor_self, Nat.xor_zero] at hz
          exact one_pw _ hz
        · by_cases m1 : x < y ∧ x < z
          · exact three_pw x y z b1.1 (by omega) (by omega) m1.1 m1.2 hz
          · by_cases m2 : y < x ∧ y < z
            · rw [Nat.xor_comm (Gi x 1)] at hz
              exact three_pw y x z b2.1 (by omega) (by omega) m2.1 m2.2 hz
            · rw [Nat.xor_comm, ← Nat.xor_assoc] at hz
              exact three_pw z x y b3.1 (by omega) (by omega) (by omega) (by omega) hz
theorem str_inj (b c : List Nat) (hb : ∀ x ∈ b, x < 256) (hc : ∀ x ∈ c, x < 256) (e : (strOfNums (I b)).toList = (strOfNums (I c)).toList) : b = c := by
  have back : ∀ l : List Nat, (∀ x ∈ l, x < 256) → ((strOfNums (I l)).toList.map UInt8.toNat) = l := by
    intro l hl
    rw [Go.Lib.strOfNums_toList]
    unfold Go.Lib.bytesOf I
    rw [List.map_map, List.map_map]
    refine (List.map_congr_left (fun x hx => ?_)).trans (List.map_id l)
    have := hl x hx
    simp
    omega
  rw [← back b hb, ← back c hc, e]
end Go.Proofs.Ytlpinbeppedeeaa.Pure
