/- A burst no longer than the count of whole rows: as many places differ as were turned, and no two of them side by side where there are three columns or more. Conditions: the rows are at most 64. -/
import Derived.Test.YtdakfabdegiboaaBurstPlain
namespace Go.Proofs.Ytdakfabdegiboaa.Pure
open Go.RowKit Go.Proofs.Ytdakfabdegiboaa.Q Go.Proofs.YtdakfabdegiboaaW.PrintWords Go.Proofs.YtdakfabdegiboaaW.PrintLast
namespace Bursts
open Puts
theorem pos_lt (n b : Nat) (h0 : 0 < b) {i : Nat} (hi : i < n) : posN n b i < n := by
  obtain ⟨hp, hb⟩ := wide_facts n b (by omega) h0
  unfold posN
  generalize (n + b - 1) / b = h at hp hb ⊢
  obtain ⟨c1, _⟩ := cells n h b hp hb
  have d1 := Nat.div_add_mod i h
  have d2 := Nat.mod_lt i hp
  have f1 := Nat.div_add_mod n h
  have f2 := Nat.mod_lt n hp
  have hj : i / h < b := (Nat.div_lt_iff_lt_mul hp).mpr (by omega)
  have e : h * (i / h) = i / h * h := Nat.mul_comm _ _
  have hr := (c1 (i % h) (i / h) d2 hj).mp (by omega)
  unfold Zc at hr
  have g := Nat.mul_le_mul_right (n / h) (show i % h + 1 ≤ h by omega)
  rw [Nat.succ_mul] at g
  split at hr <;> omega
theorem turn_ne (x : Int) : Go.bits .xor .u8 (Int.tmod x 2) 1 ≠ Int.tmod x 2 := by
  have h1 := Int.tmod_lt_of_pos x (show (0 : Int) < 2 by decide)
  have h2 := Int.lt_tmod_of_pos x (show (0 : Int) < 2 by decide)
  have h : Int.tmod x 2 = -1 ∨ Int.tmod x 2 = 0 ∨ Int.tmod x 2 = 1 := by omega
  rcases h with e | e | e <;> rw [e] <;> decide
theorem differ (lc : List Int) (b S M : Nat) (h0 : 0 < b) {i : Nat} (hi : i < lc.length) :
    rd (takeN (xorN (putN (mod2 lc lc.length) b) S M) b) (i : Int) = rd (mod2 lc lc.length) (i : Int) ↔ ¬ (S ≤ posN lc.length b i ∧ posN lc.length b i < S + M) := by
  have hl : (mod2 lc lc.length).length = lc.length := mod2_len _ _
  have hm := mod2_at lc lc.length i hi
  rw [if_pos hi] at hm
  generalize mod2 lc lc.length = l at hl hm ⊢
  have hq : (putN l b).length = lc.length := by rw [put_len l b h0, hl]
  have hp := pos_lt lc.length b h0 hi
  have ha := pos_at lc.length b h0 hi
  generalize posN lc.length b i = m at hp ha ⊢
  have hx : (xorN (putN l b) S M).length = lc.length := by rw [xorN_len, hq]
  have e1 := take_at (xorN (putN l b) S M) b h0 (show m < _ by rw [hx]; exact hp)
  rw [hx, ha, Int.toNat_natCast] at e1
  have e2 := xorN_at (putN l b) S M m (by rw [hq]; exact hp)
  have e3 := put_at l b h0 (show m < l.length by rw [hl]; exact hp)
  rw [hl, ha, hm] at e3
  have e4 : rd (putN l b) (m : Int) = Int.tmod (rd lc (i : Int)) 2 := e3
  rw [e4] at e2
  have e5 : rd (takeN (xorN (putN l b) S M) b) (i : Int) = rd (xorN (putN l b) S M) (m : Int) := e1
  rw [e5, e2, hm]
  by_cases c : S ≤ m ∧ m < S + M
  · rw [if_pos c]
    exact ⟨fun h => absurd h (turn_ne _), fun h => absurd c h⟩
  · rw [if_neg c]
    exact ⟨fun _ => c, fun _ => rfl⟩
theorem cnt_range (S M : Nat) : ∀ n, (List.range n).countP (fun m => decide (S ≤ m ∧ m < S + M)) = min (n - S) M := by
  intro n
  induction n with
  | zero => simp
  | succ n ih =>
    rw [List.range_succ, List.countP_append, ih]
    by_cases c : S ≤ n ∧ n < S + M
    · rw [List.countP_singleton, if_pos (by simpa using c)]; omega
    · rw [List.countP_singleton, if_neg (by simpa using c)]; omega
theorem cnt_T (t l : List Int) : ∀ n, cntT t l n = (List.range n).countP (fun i : Nat => decide (rd t (i : Int) ≠ rd l (i : Int))) := by
  intro n
  induction n with
  | zero => rfl
  | succ n ih =>
    rw [List.range_succ, List.countP_append, ← ih, cntT, List.countP_singleton]
    by_cases c : rd t (n : Int) = rd l (n : Int)
    · rw [if_pos c, if_neg (by simpa using c)]
    · rw [if_neg c, if_pos (by simpa using c)]
theorem pos_perm (n b : Nat) (h0 : 0 < b) : ((List.range n).map (posN n b)).Perm (List.range n) := by
  refine (List.perm_ext_iff_of_nodup ?_ List.nodup_range).mpr ?_
  · rw [List.Nodup, List.pairwise_map]
    refine List.Pairwise.imp_of_mem ?_ (List.nodup_range (n := n))
    intro a c ha hc hne e
    have h1 := pos_at n b h0 (List.mem_range.mp ha)
    have h2 := pos_at n b h0 (List.mem_range.mp hc)
    rw [e, h2] at h1
    omega
  · intro x
    rw [List.mem_map, List.mem_range]
    constructor
    · rintro ⟨i, hi, rfl⟩; exact pos_lt n b h0 (List.mem_range.mp hi)
    · intro hx
      obtain ⟨g0, g1⟩ := ordN_at n b h0 hx
      obtain ⟨i, hi⟩ := Int.eq_ofNat_of_zero_le g0
      have hin : i < n := by omega
      refine ⟨i, List.mem_range.mpr hin, ?_⟩
      exact ordN_inj n b h0 (pos_lt n b h0 hin) hx (by rw [pos_at n b h0 hin, hi])
theorem burst_law (lc : List Int) (b S N : Nat) (hb : 2 ≤ b) (hS : S < lc.length) (hN : N ≤ lc.length / ((lc.length + b - 1) / b)) :
    cntT (takeN (xorN (putN (mod2 lc lc.length) b) S (min N (lc.length - S))) b) (mod2 lc lc.length) lc.length = min N (lc.length - S) ∧
    (3 ≤ (lc.length + b - 1) / b → cntB (takeN (xorN (putN (mod2 lc lc.length) b) S (min N (lc.length - S))) b) (mod2 lc lc.length) lc.length = 0) := by
  have hd := fun (i : Nat) (hi : i < lc.length) => differ lc b S (min N (lc.length - S)) (by omega) hi
  generalize hM : min N (lc.length - S) = M at hd ⊢
  generalize takeN (xorN (putN (mod2 lc lc.length) b) S M) b = t at hd ⊢
  generalize mod2 lc lc.length = l at hd ⊢
  generalize lc.length = n at hS hN hM hd ⊢
  constructor
  · have h1 : (List.range n).countP (fun i : Nat => decide (rd t (i : Int) ≠ rd l (i : Int))) = (List.range n).countP ((fun m => decide (S ≤ m ∧ m < S + M)) ∘ posN n b) := by
      refine List.countP_congr (fun i hi => ?_)
      have := hd i (List.mem_range.mp hi)
      simp only [Function.comp, decide_eq_true_eq]
      rw [ne_eq, this, Decidable.not_not]
    rw [cnt_T, h1, ← List.countP_map, (pos_perm n b (by omega)).countP_eq, cnt_range]
    omega
  · intro hw
    have key : ∀ i, i ≤ n → cntB t l i = 0 := by
      intro i
      induction i with
      | zero => intro _; rfl
      | succ i ih =>
        intro hi
        rw [cntB, ih (by omega)]
        by_cases c : rd t (i : Int) = rd l (i : Int)
        · rw [if_pos c]
        · rw [if_neg c]
          by_cases c2 : 0 < i ∧ rd t ((i - 1 : Nat) : Int) ≠ rd l ((i - 1 : Nat) : Int)
          · exfalso
            have h1 := hd i (by omega)
            have h2 := hd (i - 1) (by omega)
            have h3 : S ≤ posN n b i ∧ posN n b i < S + M := Decidable.not_not.mp (fun h => c (h1.mpr h))
            have h4 : S ≤ posN n b (i - 1) ∧ posN n b (i - 1) < S + M := Decidable.not_not.mp (fun h => c2.2 (h2.mpr h))
            have h5 := pos_far n b hw (show (i - 1) + 1 < n by omega)
            rw [show i - 1 + 1 = i by omega] at h5
            omega
          · rw [if_neg c2]
    exact key n (Nat.le_refl _)
end Bursts
end Go.Proofs.Ytdakfabdegiboaa.Pure
