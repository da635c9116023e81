/- What a shuffled list turns into where a burst turned some places of it: in plain Lean. Conditions: at most 200 places; a burst no longer than the count of whole rows. -/
import Derived.Test.YtdakfabdegiboaaBurstCore
namespace Go.Proofs.Ytdakfabdegiboaa.Pure
open Go.RowKit Go.Proofs.Ytdakfabdegiboaa.Q Go.Proofs.YtdakfabdegiboaaW.PrintWords Go.Proofs.YtdakfabdegiboaaW.PrintLast
namespace Bursts
open Puts
/-- The first i of l as bits. -/
def mod2 (l : List Int) : Nat → List Int
  | 0 => l
  | i + 1 => (mod2 l i).set i (Int.tmod (rd (mod2 l i) (i : Int)) 2)
/-- The i places from place s on turned. -/
def xorN (p : List Int) (s : Nat) : Nat → List Int
  | 0 => p
  | i + 1 => (xorN p s i).set (s + i) (Go.bits .xor .u8 (rd (xorN p s i) ((s + i : Nat) : Int)) 1)
/-- How many of the first i differ. -/
def cntT (t l : List Int) : Nat → Nat
  | 0 => 0
  | i + 1 => cntT t l i + if rd t (i : Int) = rd l (i : Int) then 0 else 1
/-- How many of them beside one that differs. -/
def cntB (t l : List Int) : Nat → Nat
  | 0 => 0
  | i + 1 => cntB t l i + if rd t (i : Int) = rd l (i : Int) then 0 else if 0 < i ∧ rd t ((i - 1 : Nat) : Int) ≠ rd l ((i - 1 : Nat) : Int) then 1 else 0
theorem mod2_len (l : List Int) : ∀ i, (mod2 l i).length = l.length
  | 0 => rfl
  | i + 1 => by rw [mod2, List.length_set, mod2_len l i]
theorem xorN_len (p : List Int) (s : Nat) : ∀ i, (xorN p s i).length = p.length
  | 0 => rfl
  | i + 1 => by rw [xorN, List.length_set, xorN_len p s i]
theorem mod2_at (l : List Int) : ∀ (i j : Nat), j < l.length → rd (mod2 l i) (j : Int) = if j < i then Int.tmod (rd l (j : Int)) 2 else rd l (j : Int) := by
  intro i
  induction i with
  | zero => intro j _; rw [if_neg (by omega)]; rfl
  | succ i ih =>
    intro j hj
    have h := ih j hj
    unfold rd at h ⊢
    rw [Int.toNat_natCast] at h ⊢
    rw [mod2, List.getD_eq_getElem?_getD, List.getElem?_set]
    by_cases c : i = j
    · subst c
      rw [if_pos rfl, if_pos (by rw [mod2_len]; exact hj), if_pos (by omega)]
      rw [if_neg (by omega)] at h
      unfold rd
      rw [Int.toNat_natCast, h]
      rfl
    · rw [if_neg c, ← List.getD_eq_getElem?_getD, h]
      by_cases d : j < i
      · rw [if_pos d, if_pos (by omega)]
      · rw [if_neg d, if_neg (by omega)]
theorem xorN_at (p : List Int) (s : Nat) : ∀ (i j : Nat), j < p.length → rd (xorN p s i) (j : Int) = if s ≤ j ∧ j < s + i then Go.bits .xor .u8 (rd p (j : Int)) 1 else rd p (j : Int) := by
  intro i
  induction i with
  | zero => intro j _; rw [if_neg (by omega)]; rfl
  | succ i ih =>
    intro j hj
    have h := ih j hj
    unfold rd at h ⊢
    rw [Int.toNat_natCast] at h ⊢
    rw [xorN, List.getD_eq_getElem?_getD, List.getElem?_set]
    by_cases c : s + i = j
    · subst c
      rw [if_pos rfl, if_pos (by rw [xorN_len]; exact hj), if_pos (by omega)]
      rw [if_neg (by omega)] at h
      unfold rd
      rw [Int.toNat_natCast, h]
      rfl
    · rw [if_neg c, ← List.getD_eq_getElem?_getD, h]
      by_cases d : s ≤ j ∧ j < s + i
      · rw [if_pos d, if_pos (by omega)]
      · rw [if_neg d, if_neg (by omega)]
end Bursts
end Go.Proofs.Ytdakfabdegiboaa.Pure
