/- Where each place stands in the order that is told column by column, and that neighbours stand far apart in it. Conditions: at least three columns. -/
import Derived.Test.YtdakfabdegiboaaPureShufflePuts
namespace Go.Proofs.Ytdakfabdegiboaa.Pure
open Go.RowKit Go.Proofs.Ytdakfabdegiboaa.Q Go.Proofs.YtdakfabdegiboaaW.PrintWords Go.Proofs.YtdakfabdegiboaaW.PrintLast
namespace Bursts
theorem col_get (n h c : Int) : ∀ (m : Nat) (r : Int) (q : Nat), q ≤ m → (∀ j : Nat, j < m → (((r + j) * h + c < n) ↔ j < q)) →
    (colF n h c r m).length = q ∧ ∀ j, j < q → (colF n h c r m).getD j 0 = (r + j) * h + c := by
  intro m
  induction m with
  | zero =>
    intro r q hq _
    obtain rfl : q = 0 := by omega
    exact ⟨rfl, fun j hj => by omega⟩
  | succ m ih =>
    intro r q hq hc
    have h0 := hc 0 (by omega)
    rw [show r + ((0 : Nat) : Int) = r by omega] at h0
    have step : ∀ q', (∀ j : Nat, j < m → (((r + 1 + j) * h + c < n) ↔ j + 1 < q' + 1)) ↔ (∀ j : Nat, j < m → (((r + 1 + j) * h + c < n) ↔ j < q')) := by
      intro q'; constructor <;> intro hh j hj <;> rw [hh j hj] <;> omega
    cases q with
    | zero =>
      have := ih (r + 1) 0 (by omega) (fun j hj => by
        have := hc (j + 1) (by omega)
        rw [show r + ((j + 1 : Nat) : Int) = r + 1 + j by omega] at this
        rw [this]; omega)
      rw [colF, if_neg (by omega), List.nil_append]
      exact ⟨this.1, fun j hj => by omega⟩
    | succ q =>
      have := ih (r + 1) q (by omega) (fun j hj => by
        have := hc (j + 1) (by omega)
        rw [show r + ((j + 1 : Nat) : Int) = r + 1 + j by omega] at this
        rw [this]; omega)
      rw [colF, if_pos (h0.mpr (by omega))]
      refine ⟨by rw [List.length_append, this.1, List.length_singleton]; omega, ?_⟩
      intro j hj
      cases j with
      | zero => simp
      | succ j =>
        rw [List.singleton_append, List.getD_cons_succ, this.2 j (by omega)]
        rw [show r + ((j + 1 : Nat) : Int) = r + 1 + j by omega]
theorem getD_app (a b : List Int) (i : Nat) (h : a.length ≤ i) : (a ++ b).getD i 0 = b.getD (i - a.length) 0 := by
  rw [List.getD_eq_getElem?_getD, List.getD_eq_getElem?_getD, List.getElem?_append_right h]
theorem getD_app_left (a b : List Int) (i : Nat) (h : i < a.length) : (a ++ b).getD i 0 = a.getD i 0 := by
  rw [List.getD_eq_getElem?_getD, List.getD_eq_getElem?_getD, List.getElem?_append_left h]
/-- The size of a column. -/
def Zc (q s c : Nat) : Nat := q + if c < s then 1 else 0
/-- Where the column that is t columns behind c begins. -/
def Sc (q s : Nat) : Nat → Nat → Nat
  | _, 0 => 0
  | c, t + 1 => Zc q s c + Sc q s (c + 1) t
theorem Sc_eq (q s : Nat) : ∀ (t c : Nat), Sc q s c t + min c s = t * q + min (c + t) s := by
  intro t
  induction t with
  | zero => intro c; simp [Sc]
  | succ t ih =>
    intro c
    have := ih (c + 1)
    rw [Sc, Zc, Nat.succ_mul]
    rw [show c + 1 + t = c + (t + 1) by omega] at this
    split <;> omega
theorem ord_get (n h b q s : Nat) (hz : ∀ c j : Nat, c < h → j < b → ((j * h + c < n) ↔ j < Zc q s c)) (hb : ∀ c, c < h → Zc q s c ≤ b) :
    ∀ (m c t r : Nat), c + m = h → t < m → r < Zc q s (c + t) → (ordF n h b c m).getD (Sc q s c t + r) 0 = ((r * h + (c + t) : Nat) : Int) := by
  intro m
  induction m with
  | zero => intro c t r _ ht _; omega
  | succ m ih =>
    intro c t r hc ht hr
    have hcol := col_get n h c b 0 (Zc q s c) (hb c (by omega)) (fun j hj => by
      have := hz c j (by omega) hj
      rw [← this, show (0 : Int) + j = j by omega, ← Int.natCast_mul]
      omega)
    rw [ordF]
    cases t with
    | zero =>
      rw [Nat.add_zero] at hr
      rw [Sc, Nat.zero_add, getD_app_left _ _ _ (by rw [hcol.1]; exact hr), hcol.2 r hr, show (0 : Int) + r = r by omega, ← Int.natCast_mul]
      omega
    | succ t =>
      have := ih (c + 1) t r (by omega) (by omega) (by rw [show c + 1 + t = c + (t + 1) by omega]; exact hr)
      rw [Sc, getD_app _ _ _ (by rw [hcol.1]; omega), hcol.1, show Zc q s c + Sc q s (c + 1) t + r - Zc q s c = Sc q s (c + 1) t + r by omega]
      rw [show ((c : Int) + 1) = ((c + 1 : Nat) : Int) by omega, this]
      omega
theorem wide_facts (n b : Nat) (hn : 0 < n) (h0 : 0 < b) : 0 < (n + b - 1) / b ∧ n ≤ b * ((n + b - 1) / b) := by
  have d1 := Nat.div_add_mod (n + b - 1) b
  have d2 := Nat.mod_lt (n + b - 1) h0
  generalize (n + b - 1) / b = h at d1 ⊢
  have : n ≤ b * h := by omega
  refine ⟨?_, this⟩
  rcases Nat.eq_zero_or_pos h with e | e
  · rw [e] at this; omega
  · exact e
theorem cells (n h b : Nat) (hp : 0 < h) (hb : n ≤ b * h) : (∀ c j : Nat, c < h → j < b → ((j * h + c < n) ↔ j < Zc (n / h) (n % h) c)) ∧ ∀ c, c < h → Zc (n / h) (n % h) c ≤ b := by
  have d1 := Nat.div_add_mod n h
  have d2 := Nat.mod_lt n hp
  generalize n / h = q at d1 ⊢
  generalize n % h = s at d1 d2 ⊢
  have key : ∀ x y : Nat, x < y → x * h + h ≤ y * h := by
    intro x y hxy
    have := Nat.mul_le_mul_right h (show x + 1 ≤ y by omega)
    rw [Nat.succ_mul] at this
    exact this
  have e : h * q = q * h := Nat.mul_comm _ _
  constructor
  · intro c j hc hj
    unfold Zc
    rcases Nat.lt_trichotomy j q with g | g | g
    · have := key j q g
      constructor
      · intro _; omega
      · intro _; omega
    · subst g
      split <;> omega
    · have := key q j g
      constructor
      · intro _; omega
      · split <;> intro _ <;> omega
  · intro c hc
    unfold Zc
    rcases Nat.lt_trichotomy b q with g | g | g
    · have := key b q g
      exfalso; omega
    · subst g
      split
      · exfalso; omega
      · omega
    · split <;> omega
/-- Where place i stands. -/
def posN (n b i : Nat) : Nat := (i % ((n + b - 1) / b)) * (n / ((n + b - 1) / b)) + min (i % ((n + b - 1) / b)) (n % ((n + b - 1) / b)) + i / ((n + b - 1) / b)
theorem pos_at (n b : Nat) (h0 : 0 < b) {i : Nat} (hi : i < n) : (ordN n b).getD (posN n b i) 0 = i := by
  obtain ⟨hp, hb⟩ := wide_facts n b (by omega) h0
  unfold ordN posN
  generalize (n + b - 1) / b = h at hp hb ⊢
  obtain ⟨c1, c2⟩ := cells n h b hp hb
  have d1 := Nat.div_add_mod i h
  have d2 := Nat.mod_lt i hp
  have hj : i / h < b := (Nat.div_lt_iff_lt_mul hp).mpr (by omega)
  have e : h * (i / h) = i / h * h := Nat.mul_comm _ _
  have hr := (c1 (i % h) (i / h) d2 hj).mp (by omega)
  have := ord_get n h b (n / h) (n % h) c1 c2 h 0 (i % h) (i / h) (by omega) d2 (by rw [Nat.zero_add]; exact hr)
  have hs := Sc_eq (n / h) (n % h) (i % h) 0
  rw [show Sc (n / h) (n % h) 0 (i % h) = i % h * (n / h) + min (i % h) (n % h) by rw [Nat.zero_min, Nat.zero_add, Nat.add_zero] at hs; exact hs] at this
  rw [show (((0 : Nat) : Int)) = 0 from rfl] at this
  rw [this]
  omega
theorem pos_far (n b : Nat) (hw : 3 ≤ (n + b - 1) / b) {i : Nat} (hi : i + 1 < n) :
    posN n b i + n / ((n + b - 1) / b) ≤ posN n b (i + 1) ∨ posN n b (i + 1) + n / ((n + b - 1) / b) ≤ posN n b i := by
  unfold posN
  generalize (n + b - 1) / b = h at hw ⊢
  have d1 := Nat.div_add_mod i h
  have d2 := Nat.mod_lt i (show 0 < h by omega)
  have e1 := Nat.div_add_mod (i + 1) h
  have e2 := Nat.mod_lt (i + 1) (show 0 < h by omega)
  have f1 := Nat.div_add_mod n h
  have f2 := Nat.mod_lt n (show 0 < h by omega)
  by_cases cc : i % h + 1 < h
  · have hd : (i + 1) / h = i / h := by
      rw [Nat.div_eq_of_lt_le]
      · rw [Nat.mul_comm]; omega
      · rw [Nat.succ_mul, Nat.mul_comm]; omega
    have hm : (i + 1) % h = i % h + 1 := by rw [hd] at e1; omega
    rw [hd, hm, Nat.succ_mul]
    left
    omega
  · have hd : (i + 1) / h = i / h + 1 := by
      rw [Nat.div_eq_of_lt_le]
      · rw [Nat.succ_mul, Nat.mul_comm]; omega
      · rw [Nat.succ_mul, Nat.succ_mul, Nat.mul_comm]; omega
    have hm : (i + 1) % h = 0 := by rw [hd, Nat.mul_succ] at e1; omega
    have hc : i % h = h - 1 := by omega
    rw [hd, hm, hc, Nat.zero_mul]
    right
    have g1 : 0 < n / h := by
      rcases Nat.eq_zero_or_pos (n / h) with e | e
      · rw [e, Nat.mul_zero] at f1
        have : (i + 1) / h = 0 := Nat.div_eq_of_lt (by omega)
        omega
      · exact e
    have g2 := Nat.mul_le_mul_right (n / h) (show 2 ≤ h - 1 by omega)
    omega
end Bursts
end Go.Proofs.Ytdakfabdegiboaa.Pure
