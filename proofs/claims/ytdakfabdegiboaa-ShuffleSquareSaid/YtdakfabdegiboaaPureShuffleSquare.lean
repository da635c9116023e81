/- A full square read by columns: the i-th of p times q places is (i mod p) times q and i div p. Conditions: none beside the types' own ranges. -/
import Derived.Test.YtdakfabdegiboaaCore
namespace Go.Proofs.Ytdakfabdegiboaa.Pure
open Go.RowKit Go.Proofs.Ytdakfabdegiboaa.Q Go.Proofs.YtdakfabdegiboaaW.PrintWords Go.Proofs.YtdakfabdegiboaaW.PrintLast
namespace Square
theorem u64_wrap (n : Int) : IntKind.u64.wrap n = n % 18446744073709551616 := by
  simp [IntKind.wrap, IntKind.signed, IntKind.bits]
theorem u64_mod (n : Int) : ∃ d : Nat, d < 20 ∧ wrap64 (2 + wrap64 (Int.tmod (IntKind.u64.wrap n) 20)) = ((2 + d : Nat) : Int) := by
  rw [u64_wrap, Int.tmod_eq_emod_of_nonneg (by omega)]
  have h1 := Int.emod_nonneg (n % 18446744073709551616) (show (20 : Int) ≠ 0 by omega)
  have h2 := Int.emod_lt_of_pos (n % 18446744073709551616) (show (0 : Int) < 20 by omega)
  generalize n % 18446744073709551616 % 20 = d at *
  refine ⟨d.toNat, by omega, ?_⟩
  rw [wr_id (n := d) (by omega) (by omega), wr_id (by omega) (by omega)]
  omega

theorem col_len (n h c : Int) : ∀ (m : Nat) (r : Int), (∀ j, r ≤ j → j < r + m → j * h + c < n) → (colF n h c r m).length = m := by
  intro m
  induction m with
  | zero => intro r _; rfl
  | succ m ih =>
    intro r hf
    rw [colF, if_pos (hf r (by omega) (by omega)), List.singleton_append, List.length_cons, ih _ (fun j h0 h1 => hf j (by omega) (by omega))]
theorem col_get (n h c : Int) : ∀ (m : Nat) (r : Int) (i : Nat), i < m → (∀ j, r ≤ j → j < r + m → j * h + c < n) → (colF n h c r m)[i]? = some ((r + i) * h + c) := by
  intro m
  induction m with
  | zero => intro r i hi; omega
  | succ m ih =>
    intro r i hi hf
    rw [colF, if_pos (hf r (by omega) (by omega)), List.singleton_append]
    cases i with
    | zero => simp
    | succ i =>
      rw [List.getElem?_cons_succ, ih _ i (by omega) (fun j h0 h1 => hf j (by omega) (by omega))]
      rw [show r + 1 + (i : Int) = r + ((i + 1 : Nat) : Int) by omega]
theorem ord_get (n h : Int) (b : Nat) (hb : 0 < b) : ∀ (m : Nat) (c : Int) (i : Nat), i < m * b → (∀ j c' : Int, 0 ≤ j → j < b → c ≤ c' → c' < c + m → j * h + c' < n) →
    (ordF n h b c m)[i]? = some (((i % b : Nat) : Int) * h + (c + ((i / b : Nat) : Int))) := by
  intro m
  induction m with
  | zero => intro c i hi; omega
  | succ m ih =>
    intro c i hi hf
    have hfc : ∀ j : Int, 0 ≤ j → j < 0 + (b : Int) → j * h + c < n := fun j h0 h1 => hf j c h0 (by omega) (by omega) (by omega)
    have hl := col_len n h c b 0 hfc
    rw [ordF, List.getElem?_append, hl]
    by_cases hlt : i < b
    · rw [if_pos hlt, col_get n h c b 0 i hlt hfc, Nat.mod_eq_of_lt hlt, Nat.div_eq_of_lt hlt]
      congr 1
      rw [show (0 : Int) + (i : Int) = (i : Int) by omega]
      omega
    · rw [if_neg hlt, ih (c + 1) (i - b) (by rw [Nat.succ_mul] at hi; omega) (fun j c' h0 h1 h2 h3 => hf j c' h0 h1 (by omega) (by omega))]
      have e1 : (i - b) % b = i % b := (Nat.mod_eq_sub_mod (by omega)).symm
      have e2 : i / b = (i - b) / b + 1 := Nat.div_eq_sub_div hb (by omega)
      rw [e1, e2]
      generalize (i - b) / b = q
      rw [show c + 1 + (q : Int) = c + ((q + 1 : Nat) : Int) by omega]
theorem runs (p q : Nat) (hp : 0 < p) (hp2 : p ≤ 22) (hq : q ≤ 22) (O : List Int) (hO : O.length = p * q) (hg : ∀ i, i < p * q → O[i]? = some (((i % p : Nat) : Int) * q + ((i / p : Nat) : Int))) :
    ∀ (d i k : Nat), i + d = p * q → d + 1 ≤ k → shuttlelaw33_ShuffleSquare.l0 k p q O i = some true := by
  have hpq : p * q ≤ 22 * 22 := Nat.mul_le_mul hp2 hq
  intro d
  induction d with
  | zero =>
    intro i k hi hk
    obtain ⟨k, rfl⟩ : ∃ m, k = m + 1 := ⟨k - 1, by omega⟩
    rw [shuttlelaw33_ShuffleSquare.l0, if_neg (by omega)]
  | succ d ih =>
    intro i k hi hk
    obtain ⟨k, rfl⟩ : ∃ m, k = m + 1 := ⟨k - 1, by omega⟩
    rw [shuttlelaw33_ShuffleSquare.l0, if_pos (by omega), if_pos (by omega), if_neg (by omega)]
    have hr : rd O (i : Int) = ((i % p : Nat) : Int) * q + ((i / p : Nat) : Int) := by
      unfold rd
      rw [List.getD_eq_getElem?_getD, show ((i : Int)).toNat = i by omega, hg i (by omega)]
      rfl
    have e1 : Int.tmod (i : Int) (p : Int) = ((i % p : Nat) : Int) := (Int.ofNat_tmod _ _).symm
    have e2 : Int.tdiv (i : Int) (p : Int) = ((i / p : Nat) : Int) := (Int.ofNat_tdiv _ _).symm
    have b1 : i % p < p := Nat.mod_lt _ hp
    have b2 : i / p ≤ i := Nat.div_le_self _ _
    have b3 : (i % p) * q ≤ 22 * 22 := Nat.mul_le_mul (by omega) hq
    have e3 : ((i % p : Nat) : Int) * (q : Int) = (((i % p) * q : Nat) : Int) := by rw [Int.natCast_mul]
    rw [hr, e1, e2, e3]
    generalize (i % p) * q = x at *
    generalize i / p = y at *
    rw [wr_id (n := (x : Int)) (by omega) (by omega), wr_id (n := (y : Int)) (by omega) (by omega), wr_id (n := (x : Int) + y) (by omega) (by omega), if_pos rfl, wr_id (n := (i : Int) + 1) (by omega) (by omega)]
    exact ih (i + 1) k (by omega) (by omega)
end Square
open Square in
theorem ShuffleSquare : shuttlelaw33_ShuffleSquare.Pure := by
  intro a0 a1 _ _
  refine ⟨6000000, ?_⟩
  unfold shuttlelaw33_ShuffleSquare.f
  obtain ⟨d, hd, e1⟩ := u64_mod a0
  obtain ⟨d', hd', e2⟩ := u64_mod a1
  rw [e1, e2]
  generalize hp : 2 + d = p
  generalize hq : 2 + d' = q
  have hpq : p * q ≤ 22 * 22 := Nat.mul_le_mul (by omega) (by omega)
  have e3 : wrap64 ((p : Int) * (q : Int)) = ((p * q : Nat) : Int) := by
    rw [← Int.natCast_mul, wr_id (by omega) (by omega)]
  rw [e3, order_right (p * q) p (by omega) (by omega) (by omega) _ (by omega), Option.bind_some, shuffles_at _ (by omega), Option.bind_some, if_pos rfl, if_pos rfl]
  have hl : (ordN (p * q) p).length = p * q := len_ordN _ _ (by omega)
  show shuttlelaw33_ShuffleSquare.j0 6000000 p q (ordN (p * q) p) (((ordN (p * q) p).length : Int) != ((p * q : Nat) : Int)) = some true
  rw [hl]
  rw [show (((p * q : Nat) : Int) != ((p * q : Nat) : Int)) = false by simp]
  rw [show (6000000 : Nat) = 5999999 + 1 from rfl, shuttlelaw33_ShuffleSquare.j0, if_neg (by simp)]
  have hh : (p * q + p - 1) / p = q := by
    rw [show p * q + p - 1 = p * q + (p - 1) by omega, Nat.mul_add_div (by omega), Nat.div_eq_of_lt (by omega)]; rfl
  refine runs p q (by omega) (by omega) (by omega) _ hl ?_ (p * q) 0 _ (by omega) (by omega)
  intro i hi
  unfold ordN
  rw [hh]
  have := ord_get ((p * q : Nat) : Int) q p (by omega) q 0 i (by rw [Nat.mul_comm]; exact hi) (by
    intro j c h0 h1 h2 h3
    obtain ⟨j, rfl⟩ := Int.eq_ofNat_of_zero_le h0
    have : j * q + q ≤ p * q := by rw [← Nat.succ_mul]; exact Nat.mul_le_mul_right q (by omega)
    have e : (j : Int) * (q : Int) = ((j * q : Nat) : Int) := by rw [Int.natCast_mul]
    rw [e]
    omega)
  rw [this]
  congr 2
  omega
end Go.Proofs.Ytdakfabdegiboaa.Pure
