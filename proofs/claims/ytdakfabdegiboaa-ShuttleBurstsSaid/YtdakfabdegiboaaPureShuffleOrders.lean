/- The order of the reference is the same list; each place comes once; the least distance of neighbours is the same. Conditions: none beside the types' own ranges. -/
import Derived.Test.YtdakfabdegiboaaCore
import Derived.Test.YtdakfabdegiboaaQ3
namespace Go.Proofs.Ytdakfabdegiboaa.Pure
open Go.RowKit Go.Proofs.Ytdakfabdegiboaa.Q Go.Proofs.YtdakfabdegiboaaW.PrintWords Go.Proofs.YtdakfabdegiboaaW.PrintLast
namespace Orders
/-- The reference gathers what each hands over. -/
theorem ref_each (n b h : Int) : ∀ k, (∀ xs c, shuttleref33_Order.l0 k n b h xs c = each.l0 dO n b h k xs c) ∧ (∀ xs c r, shuttleref33_Order.l1 k n b h xs c r = each.l1 dO n b h k xs c r) := by
  intro k
  induction k with
  | zero => exact ⟨fun _ _ => rfl, fun _ _ _ => rfl⟩
  | succ k ih =>
    refine ⟨fun xs c => ?_, fun xs c r => ?_⟩
    · rw [shuttleref33_Order.l0, each.l0, ih.2]
    · rw [shuttleref33_Order.l1, each.l1]
      by_cases h1 : r < b
      · rw [if_pos h1, if_pos h1]
        by_cases h2 : wrap64 (wrap64 (r * h) + c) < n
        · rw [if_pos h2, if_pos h2]
          unfold dO
          by_cases h3 : xs.length < 17592186044416
          · rw [if_pos h3, if_pos h3, ih.2]; rfl
          · rw [if_neg h3, if_neg h3]; rfl
        · rw [if_neg h2, if_neg h2, ih.2]
      · rw [if_neg h1, if_neg h1, ih.1]
theorem ref_order (n b : Nat) (hn : n ≤ 65536) (h0 : 0 < b) (hb : b ≤ 64) (k : Nat) (hk : 5000000 ≤ k) : shuttleref33_Order.f k n b = some (ordN n b) := by
  unfold shuttleref33_Order.f
  rw [if_neg (by omega), wr_id (n := (n : Int) + b) (by omega) (by omega), wr_id (n := (n : Int) + b - 1) (by omega) (by omega)]
  have e : Int.tdiv ((n : Int) + b - 1) b = (((n + b - 1) / b : Nat) : Int) := by
    rw [show ((n : Int) + b - 1) = ((n + b - 1 : Nat) : Int) by omega]
    exact (Int.ofNat_tdiv _ _).symm
  rw [e]
  have : (n + b - 1) / b ≤ n + b - 1 := Nat.div_le_self _ _
  have e2 : wrap64 (((n + b - 1) / b : Nat) : Int) = (((n + b - 1) / b : Nat) : Int) := by
    generalize (n + b - 1) / b = h at *
    exact wr_id (by omega) (by omega)
  rw [e2, (ref_each n b _ k).1, each_N dO n b hn h0 hb [] k hk, foldO _ _ (by rw [len_ordN n b h0]; simp; omega)]
  rfl
theorem right_is (a b : Int) : shuttleref33_Right.f a b = some (decide (0 ≤ a ∧ a ≤ 65536 ∧ 1 ≤ b ∧ b ≤ 64)) := by
  unfold shuttleref33_Right.f
  by_cases h0 : a ≥ 0
  · rw [if_pos h0]
    by_cases h1 : a ≤ 65536
    · rw [if_pos h1]
      by_cases h2 : b ≥ 1
      · rw [if_pos h2]
        congr 1
        exact decide_eq_decide.mpr ⟨fun h => ⟨h0, h1, h2, h⟩, fun h => h.2.2.2⟩
      · rw [if_neg h2, decide_eq_false (fun h => h2 h.2.2.1)]
    · rw [if_neg h1, decide_eq_false (fun h => h1 h.2.1)]
  · rw [if_neg h0, decide_eq_false (fun h => h0 h.1)]

theorem rd_nat (l : List Int) (i : Nat) : rd l (i : Int) = l.getD i 0 := rfl

/-- Where each place came. -/
def whr (n b : Nat) : List Int := scat (fun i => (i : Int)) (List.replicate n 0) (ordN n b) 0
theorem whr_len (n b : Nat) : (whr n b).length = n := by rw [whr, scat_len, List.length_replicate]
theorem whr_on (n b : Nat) (h0 : 0 < b) {i : Nat} (hi : i < n) : (whr n b).getD ((ordN n b).getD i 0).toNat 0 = (i : Int) := by
  have h := scat_on (fun i => (i : Int)) (ordN n b) (List.replicate n 0) 0 i (nodup_ordN n b) (fun o ho => by
    rw [List.length_replicate]; exact (mem_ordN n b h0 o).mp ho) (by rw [len_ordN n b h0]; exact hi)
  rw [show 0 + i = i by omega] at h
  exact h
theorem whr_at (n b : Nat) (h0 : 0 < b) {j : Nat} (hj : j < n) : ∃ i, i < n ∧ (ordN n b).getD i 0 = (j : Int) ∧ (whr n b).getD j 0 = (i : Int) := by
  obtain ⟨i, hi, e⟩ := ordN_onto n b h0 hj
  refine ⟨i, hi, e, ?_⟩
  have := whr_on n b h0 hi
  rw [e] at this
  exact this

theorem at_rd (n b : Nat) {i : Nat} (hi : i < (ordN n b).length) : (ordN n b).drop i = (ordN n b).getD i 0 :: (ordN n b).drop (i + 1) := by
  rw [getD_get hi]; exact List.drop_eq_getElem_cons hi

theorem apart_fill (n b : Nat) (h0 : 0 < b) (hn : n ≤ 65536) (x11 : Int) : ∀ (d i k : Nat) (acc : List Int), acc.length = n → i + d = n →
    shuffle_Apart.l0 (k + d + 1) x11 acc (ordN n b) n i = shuffle_Apart.l1 k (scat (fun i => (i : Int)) acc ((ordN n b).drop i) i) x11 (wrap64 (x11 - 1)) 0 := by
  intro d
  induction d with
  | zero =>
    intro i k acc _ hi
    rw [shuffle_Apart.l0, if_neg (by omega), List.drop_eq_nil_of_le (by rw [len_ordN n b h0]; omega)]
    rfl
  | succ d ih =>
    intro i k acc ha hi
    have hl := len_ordN n b h0
    obtain ⟨g0, g1⟩ := ordN_at n b h0 (show i < n by omega)
    rw [show k + (d + 1) + 1 = (k + d + 1) + 1 by omega, shuffle_Apart.l0, if_pos (by omega), if_pos (by omega), if_pos (by rw [hl]; omega), rd_nat, if_pos g0, if_pos (by rw [ha]; exact g1), wr_id (by omega) (by omega)]
    have := ih (i + 1) k (acc.set ((ordN n b).getD i 0).toNat i) (by rw [List.length_set]; exact ha) (by omega)
    rw [at_rd n b (by rw [hl]; omega), scat, ← this]
    rfl
theorem ref_fill (n b : Nat) (h0 : 0 < b) (hn : n ≤ 65536) : ∀ (d i k : Nat) (acc : List Int), acc.length = n → i + d = n →
    shuttleref33_Apart.l0 (k + d + 1) n acc (ordN n b) i = shuttleref33_Apart.l1 k n (scat (fun i => (i : Int)) acc ((ordN n b).drop i) i) 0 0 := by
  intro d
  induction d with
  | zero =>
    intro i k acc _ hi
    rw [shuttleref33_Apart.l0, if_neg (by omega), List.drop_eq_nil_of_le (by rw [len_ordN n b h0]; omega)]
    rfl
  | succ d ih =>
    intro i k acc ha hi
    have hl := len_ordN n b h0
    obtain ⟨g0, g1⟩ := ordN_at n b h0 (show i < n by omega)
    rw [show k + (d + 1) + 1 = (k + d + 1) + 1 by omega, shuttleref33_Apart.l0, if_pos (by omega), if_pos (by omega), if_pos (by rw [hl]; omega), rd_nat, if_pos g0, if_pos (by rw [ha]; exact g1), wr_id (by omega) (by omega)]
    have := ih (i + 1) k (acc.set ((ordN n b).getD i 0).toNat i) (by rw [List.length_set]; exact ha) (by omega)
    rw [at_rd n b (by rw [hl]; omega), scat, ← this]
    rfl

theorem least (n b : Nat) (h0 : 0 < b) (hn : n ≤ 65536) : ∀ (d i k : Nat) (best x8 : Int), i + d + 1 = n →
    ((x8 = 0 ∧ best = n ∧ 1 ≤ d) ∨ (x8 = best ∧ 1 ≤ best ∧ best ≤ n)) →
    ∃ v, shuffle_Apart.l1 (k + d + 1) (whr n b) best ((n : Int) - 1) i = some (v, 0) ∧ shuttleref33_Apart.l1 (k + d + 1) n (whr n b) x8 i = some v := by
  intro d
  induction d with
  | zero =>
    intro i k best x8 hi hs
    rcases hs with ⟨_, _, h⟩ | ⟨e, _, _⟩
    · omega
    · refine ⟨best, ?_, ?_⟩
      · rw [shuffle_Apart.l1, if_neg (by omega)]
      · rw [shuttleref33_Apart.l1, wr_id (by omega) (by omega), if_neg (by omega), e]
  | succ d ih =>
    intro i k best x8 hi hs
    have hl := whr_len n b
    obtain ⟨p, hp, ep, wp⟩ := whr_at n b h0 (show i < n by omega)
    obtain ⟨q, hq, eq_, wq⟩ := whr_at n b h0 (show i + 1 < n by omega)
    have hpq : p ≠ q := by
      intro e
      rw [e, eq_] at ep
      omega
    rw [show k + (d + 1) + 1 = (k + d + 1) + 1 by omega]
    rw [shuffle_Apart.l1, shuttleref33_Apart.l1, wr_id (n := (i : Int) + 1) (by omega) (by omega)]
    rw [show (i : Int) + 1 = ((i + 1 : Nat) : Int) by omega]
    rw [if_pos (by omega), if_pos (by omega), if_pos (by rw [hl]; omega), if_pos (by omega), if_pos (by rw [hl]; omega)]
    rw [if_pos (by omega), if_pos (by omega), if_pos (by rw [hl]; omega), if_pos (by omega), if_pos (by rw [hl]; omega)]
    rw [rd_nat, rd_nat, wp, wq]
    rw [wr_id (n := (q : Int) - p) (by omega) (by omega), wr_id (n := -((q : Int) - p)) (by omega) (by omega)]
    have key : ∀ D : Int, 1 ≤ D → D ≤ n → (mn best D = if x8 = 0 then D else if D < x8 then D else x8) ∧ 1 ≤ mn best D ∧ mn best D ≤ n := by
      intro D hD hDn
      unfold mn
      rcases hs with ⟨e, e2, _⟩ | ⟨e, h1, h2⟩
      · rw [if_pos e]
        by_cases hc : D < best
        · rw [if_pos hc]; exact ⟨rfl, by omega, by omega⟩
        · rw [if_neg hc]; exact ⟨by omega, by omega, by omega⟩
      · rw [if_neg (show ¬ x8 = 0 by omega), ← e]
        by_cases hc : D < x8
        · rw [if_pos hc]; exact ⟨rfl, by omega, by omega⟩
        · rw [if_neg hc]; exact ⟨rfl, by omega, by omega⟩
    by_cases hlt : (q : Int) - p < 0
    · rw [if_pos hlt]
      have em : mx ((q : Int) - p) (-((q : Int) - p)) = -((q : Int) - p) := by unfold mx; rw [if_pos (by omega)]
      rw [em]
      obtain ⟨k1, k2, k3⟩ := key (-((q : Int) - p)) (by omega) (by omega)
      obtain ⟨v, v1, v2⟩ := ih (i + 1) k (mn best (-((q : Int) - p))) (mn best (-((q : Int) - p))) (by omega) (Or.inr ⟨rfl, k2, k3⟩)
      refine ⟨v, v1, ?_⟩
      rw [k1] at v2
      split
      · rename_i e; rw [if_pos e] at v2; exact v2
      · rename_i e; rw [if_neg e] at v2
        split
        · rename_i e3; rw [if_pos e3] at v2; exact v2
        · rename_i e3; rw [if_neg e3] at v2; exact v2
    · rw [if_neg hlt]
      have em : mx ((q : Int) - p) (-((q : Int) - p)) = ((q : Int) - p) := by unfold mx; rw [if_neg (by omega)]
      rw [em]
      obtain ⟨k1, k2, k3⟩ := key ((q : Int) - p) (by omega) (by omega)
      obtain ⟨v, v1, v2⟩ := ih (i + 1) k (mn best ((q : Int) - p)) (mn best ((q : Int) - p)) (by omega) (Or.inr ⟨rfl, k2, k3⟩)
      refine ⟨v, v1, ?_⟩
      rw [k1] at v2
      split
      · rename_i e; rw [if_pos e] at v2; exact v2
      · rename_i e; rw [if_neg e] at v2
        split
        · rename_i e3; rw [if_pos e3] at v2; exact v2
        · rename_i e3; rw [if_neg e3] at v2; exact v2

theorem aparts (n b : Nat) (hn : n ≤ 65536) (h0 : 0 < b) (hb : b ≤ 64) (k : Nat) (hk : 6000000 ≤ k) :
    ∃ v, shuffle_Apart.f k n b = some (v, 0) ∧ shuttleref33_Apart.f k n b = some v := by
  have hl := len_ordN n b h0
  have hrep : (List.replicate n (0 : Int)).length = n := List.length_replicate
  have er : shuttleref33_Apart.f k n b = shuttleref33_Apart.l1 (k - n - 1) n (whr n b) 0 0 := by
    unfold shuttleref33_Apart.f
    rw [if_pos (by omega), if_pos (by omega), ref_order n b hn h0 hb k (by omega)]
    show shuttleref33_Apart.l0 k n (List.replicate ((n : Int)).toNat 0) (ordN n b) 0 = _
    rw [show ((n : Int)).toNat = n from rfl]
    have := ref_fill n b h0 hn n 0 (k - n - 1) (List.replicate n 0) hrep (by omega)
    rw [show k - n - 1 + n + 1 = k by omega] at this
    exact this
  by_cases h2 : n < 2
  · refine ⟨0, ?_, ?_⟩
    · unfold shuffle_Apart.f
      rw [order_right n b hn h0 hb k (by omega)]
      show (if (0 : Int) = 0 then shuffle_Apart.j0 k n (ordN n b) 0 (decide ((n : Int) < 2)) else shuffle_Apart.j0 k n (ordN n b) 0 true) = _
      rw [if_pos rfl]
      obtain ⟨k, rfl⟩ : ∃ m, k = m + 1 := ⟨k - 1, by omega⟩
      rw [shuffle_Apart.j0, if_pos (decide_eq_true (by omega))]
    · rw [er]
      obtain ⟨m, hm⟩ : ∃ m, k - n - 1 = m + 1 := ⟨k - n - 2, by omega⟩
      rw [hm, shuttleref33_Apart.l1, wr_id (by omega) (by omega), if_neg (by omega)]
  · obtain ⟨v, v1, v2⟩ := least n b h0 hn (n - 1) 0 (k - n - n - 1) n 0 (by omega) (Or.inl ⟨rfl, rfl, by omega⟩)
    have hk2 : k - n - n - 1 + (n - 1) + 1 = k - n - 1 := by omega
    rw [hk2] at v1 v2
    refine ⟨v, ?_, ?_⟩
    · unfold shuffle_Apart.f
      rw [order_right n b hn h0 hb k (by omega)]
      show (if (0 : Int) = 0 then shuffle_Apart.j0 k n (ordN n b) 0 (decide ((n : Int) < 2)) else shuffle_Apart.j0 k n (ordN n b) 0 true) = _
      rw [if_pos rfl, decide_eq_false (by omega)]
      obtain ⟨m, hm⟩ : ∃ m, k = m + 1 := ⟨k - 1, by omega⟩
      rw [hm, shuffle_Apart.j0, if_neg (by simp), if_pos (by omega), if_pos (by omega)]
      have := apart_fill n b h0 hn n n 0 (k - n - 2) (List.replicate n 0) hrep (by omega)
      rw [show k - n - 2 + n + 1 = m by omega, wr_id (n := (n : Int) - 1) (by omega) (by omega)] at this
      rw [hl]
      show shuffle_Apart.l0 m n (List.replicate n 0) (ordN n b) n 0 = _
      refine this.trans ?_
      obtain ⟨w, w1, w2⟩ := least n b h0 hn (n - 1) 0 (k - n - n - 2) n 0 (by omega) (Or.inl ⟨rfl, rfl, by omega⟩)
      rw [show k - n - n - 2 + (n - 1) + 1 = k - n - 2 by omega] at w1 w2
      have w3 := at_rounds (g := fun k => shuttleref33_Apart.l1 k n (whr n b) 0 0) (fun k => (shuttleref33_Apart.mono_l k).2 _ _ _ _) (show k - n - 2 ≤ k - n - 1 by omega) w2
      have : some w = some v := w3.symm.trans v2
      obtain rfl := Option.some.inj this
      exact w1
    · rw [er]; exact v2

theorem seen (n b : Nat) (h0 : 0 < b) (hn : n ≤ 65536) : ∀ (d i k : Nat) (sn : List Bool), i + d = n → sn.length = n → (∀ t, i ≤ t → t < n → sn.getD ((ordN n b).getD t 0).toNat false = false) → d + 1 ≤ k →
    shuttlelaw33_ShuffleOrders.l0 k n (ordN n b) (ordN n b) sn i = some true := by
  intro d
  induction d with
  | zero =>
    intro i k sn hi _ _ hk
    obtain ⟨k, rfl⟩ : ∃ m, k = m + 1 := ⟨k - 1, by omega⟩
    rw [shuttlelaw33_ShuffleOrders.l0, if_neg (by omega)]
  | succ d ih =>
    intro i k sn hi hs hf hk
    have hl := len_ordN n b h0
    obtain ⟨k, rfl⟩ : ∃ m, k = m + 1 := ⟨k - 1, by omega⟩
    obtain ⟨g0, g1⟩ := ordN_at n b h0 (show i < n by omega)
    have hr : rdOf false sn ((ordN n b).getD i 0) = false := hf i (by omega) (by omega)
    rw [shuttlelaw33_ShuffleOrders.l0, if_pos (by omega), if_pos (by omega), if_pos (by rw [hl]; omega), if_pos (by rw [hl]; omega), if_pos rfl, rd_nat, if_pos g0, if_pos (by rw [hs]; exact g1), hr, if_neg (by simp), wr_id (by omega) (by omega)]
    refine ih (i + 1) k _ (by omega) (by rw [List.length_set]; exact hs) ?_ (by omega)
    intro t h1 h2
    obtain ⟨e0, e1⟩ := ordN_at n b h0 h2
    have hne : ((ordN n b).getD i 0).toNat ≠ ((ordN n b).getD t 0).toNat := by
      intro e
      have := ordN_inj n b h0 (show i < n by omega) h2 (by omega)
      omega
    rw [List.getD_eq_getElem?_getD, List.getElem?_set, if_neg hne, ← List.getD_eq_getElem?_getD]
    exact hf t (by omega) h2
theorem j2 (n b : Nat) (h0 : 0 < b) (hn : n ≤ 65536) (k : Nat) (hk : 100000 ≤ k) : shuttlelaw33_ShuffleOrders.j2 k n (ordN n b) (ordN n b) false = some true := by
  obtain ⟨k, rfl⟩ : ∃ m, k = m + 1 := ⟨k - 1, by omega⟩
  rw [shuttlelaw33_ShuffleOrders.j2, if_neg (by simp), if_pos (by omega), if_pos (by omega)]
  refine seen n b h0 hn n 0 k _ (by omega) (by rw [List.length_replicate]; rfl) ?_ (by omega)
  intro t _ _
  rw [List.getD_eq_getElem?_getD, List.getElem?_replicate]
  split <;> rfl
theorem j1 (x y : Int) (k : Nat) (hk : 7000000 ≤ k) : shuttlelaw33_ShuffleOrders.j1 k x y = some true := by
  obtain ⟨k, rfl⟩ : ∃ m, k = m + 1 := ⟨k - 1, by omega⟩
  rw [shuttlelaw33_ShuffleOrders.j1, right_is]
  by_cases hR : 0 ≤ x ∧ x ≤ 65536 ∧ 1 ≤ y ∧ y ≤ 64
  · obtain ⟨x0, x1, y0, y1⟩ := hR
    obtain ⟨n, rfl⟩ := Int.eq_ofNat_of_zero_le x0
    obtain ⟨b, rfl⟩ := Int.eq_ofNat_of_zero_le (show 0 ≤ y by omega)
    obtain ⟨v, v1, v2⟩ := aparts n b (by omega) (by omega) (by omega) k (by omega)
    rw [order_right n b (by omega) (by omega) (by omega) k (by omega), Option.bind_some, v1, Option.bind_some, shuffles_at k (by omega), Option.bind_some, if_pos rfl, Option.bind_some, if_pos (decide_eq_true (by omega)), ref_order n b (by omega) (by omega) (by omega) k (by omega), Option.bind_some, v2, Option.bind_some, if_pos rfl, if_pos rfl, if_pos (by rw [len_ordN n b (by omega)])]
    have : (v != v) = false := by simp
    rw [this]
    exact j2 n b (by omega) (by omega) k (by omega)
  · have ha : shuffle_Apart.f k x y = some (0, 1) := by
      unfold shuffle_Apart.f
      rw [order_wrong x y hR k, Option.bind_some, if_neg (by decide)]
      obtain ⟨k, rfl⟩ : ∃ m, k = m + 1 := ⟨k - 1, by omega⟩
      rw [shuffle_Apart.j0, if_pos rfl]
    rw [order_wrong x y hR k, ha, decide_eq_false hR, Option.bind_some, Option.bind_some, shuffles_at k (by omega)]
    rfl
end Orders
open Orders in
theorem ShuffleOrders : shuttlelaw33_ShuffleOrders.Pure := by
  intro a0 a1 _ _
  refine ⟨7000001, ?_⟩
  have hj : ∀ x, shuttlelaw33_ShuffleOrders.j0 7000001 a0 a1 x = some true := by
    intro x
    rw [show (7000001 : Nat) = 7000000 + 1 from rfl, shuttlelaw33_ShuffleOrders.j0]
    split
    · exact j1 _ _ _ (by omega)
    · exact j1 _ _ _ (by omega)
  unfold shuttlelaw33_ShuffleOrders.f
  split
  · exact hj _
  · exact hj _
end Go.Proofs.Ytdakfabdegiboaa.Pure
