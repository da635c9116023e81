/- Put hands on what lies at each place of the order; Take writes what comes at each place; one undoes the other. Conditions: none beside the types' own ranges. -/
import Derived.Test.YtdakfabdegiboaaPureShuffleOrders
import Derived.Test.YtdakfabdegiboaaQ4
namespace Go.Proofs.Ytdakfabdegiboaa.Pure
open Go.RowKit Go.Proofs.Ytdakfabdegiboaa.Q Go.Proofs.YtdakfabdegiboaaW.PrintWords Go.Proofs.YtdakfabdegiboaaW.PrintLast
namespace Puts
open Orders
theorem foldP (xs : List Int) : ∀ (l s : List Int), (∀ o ∈ l, 0 ≤ o ∧ o < (xs.length : Int)) → s.length + l.length ≤ 100000 → l.foldlM (dP xs) s = some (s ++ l.map (rd xs)) := by
  intro l
  induction l with
  | nil => intro s _ _; simp
  | cons x l ih =>
    intro s ho hs
    rw [List.length_cons] at hs
    obtain ⟨g0, g1⟩ := ho x List.mem_cons_self
    rw [List.foldlM_cons]
    have : dP xs s x = some (s ++ [rd xs x]) := by unfold dP; rw [if_pos g0, if_pos g1, if_pos (Nat.lt_of_lt_of_le (show s.length < 100001 by omega) (by decide))]
    rw [this]
    show l.foldlM (dP xs) (s ++ [rd xs x]) = _
    rw [ih _ (fun o h => ho o (List.mem_cons_of_mem _ h)) (by rw [List.length_append, List.length_singleton]; omega), List.append_assoc]; rfl
theorem foldT (xs : List Int) (hx : xs.length ≤ 70000) : ∀ (l acc : List Int) (i : Nat), (∀ o ∈ l, 0 ≤ o ∧ o < (acc.length : Int)) → i + l.length ≤ xs.length →
    l.foldlM (dT xs) (acc, (i : Int)) = some (scat (fun i => rd xs i) acc l i, ((i + l.length : Nat) : Int)) := by
  intro l
  induction l with
  | nil => intro acc i _ _; rfl
  | cons x l ih =>
    intro acc i ho hs
    rw [List.length_cons] at hs
    obtain ⟨g0, g1⟩ := ho x List.mem_cons_self
    rw [List.foldlM_cons]
    have : dT xs (acc, (i : Int)) x = some (acc.set x.toNat (rd xs i), ((i + 1 : Nat) : Int)) := by
      unfold dT
      simp only
      rw [if_pos g0, if_pos g1, if_pos (by omega), if_pos (by omega), wr_id (by omega) (by omega)]
      rfl
    rw [this]
    show l.foldlM (dT xs) (acc.set x.toNat (rd xs i), ((i + 1 : Nat) : Int)) = _
    rw [ih _ _ (fun o h => by rw [List.length_set]; exact ho o (List.mem_cons_of_mem _ h)) (by omega), scat, List.length_cons]
    congr 2
    omega
/-- What Put answers. -/
def putN (xs : List Int) (b : Nat) : List Int := (ordN xs.length b).map (rd xs)
/-- What Take answers. -/
def takeN (xs : List Int) (b : Nat) : List Int := scat (fun i => rd xs i) (List.replicate xs.length 0) (ordN xs.length b) 0
theorem put_right (xs : List Int) (b : Nat) (hx : xs.length ≤ 60000) (h0 : 0 < b) (hb : b ≤ 64) (k : Nat) (hk : 5000000 ≤ k) : shuffle_Put.f k xs b = some (putN xs b, 0) := by
  unfold shuffle_Put.f
  rw [of_right xs.length b (by omega) h0 hb]
  show (if (0 : Int) = 0 then ((each.l0 (dP xs) xs.length b (((xs.length + b - 1) / b : Nat) : Int) k [] 0).bind fun xs => some (xs, (0 : Int))) else some ([], 0)) = _
  rw [if_pos rfl, each_N _ xs.length b (by omega) h0 hb [] k hk, foldP xs _ _ (fun o h => (mem_ordN _ b h0 o).mp h) (by rw [len_ordN _ b h0]; simp; omega)]
  rfl
theorem take_right (xs : List Int) (b : Nat) (hx : xs.length ≤ 60000) (h0 : 0 < b) (hb : b ≤ 64) (k : Nat) (hk : 5000000 ≤ k) : shuffle_Take.f k xs b = some (takeN xs b, 0) := by
  unfold shuffle_Take.f
  rw [of_right xs.length b (by omega) h0 hb]
  show (if (0 : Int) = 0 then (if xs.length ≤ 281474976710656 then ((each.l0 (dT xs) xs.length b (((xs.length + b - 1) / b : Nat) : Int) k (List.replicate xs.length 0, 0) 0).bind fun xs => some (xs.1, (0 : Int))) else none) else some ([], 0)) = _
  have := foldT xs (by omega) (ordN xs.length b) (List.replicate xs.length 0) 0 (fun o h => by rw [List.length_replicate]; exact (mem_ordN _ b h0 o).mp h) (by rw [len_ordN _ b h0]; omega)
  rw [if_pos rfl, if_pos (Nat.le_trans hx (by decide)), each_N _ xs.length b (by omega) h0 hb _ k hk]
  show ((ordN xs.length b).foldlM (dT xs) (List.replicate xs.length 0, ((0 : Nat) : Int))).bind _ = _
  rw [this]
  rfl
theorem put_wrong (xs : List Int) (b : Int) (h : ¬ (0 ≤ (xs.length : Int) ∧ (xs.length : Int) ≤ 65536 ∧ 1 ≤ b ∧ b ≤ 64)) (k : Nat) : shuffle_Put.f k xs b = some ([], 1) := by
  unfold shuffle_Put.f
  rw [of_wrong _ b h]
  rfl
theorem take_wrong (xs : List Int) (b : Int) (h : ¬ (0 ≤ (xs.length : Int) ∧ (xs.length : Int) ≤ 65536 ∧ 1 ≤ b ∧ b ≤ 64)) (k : Nat) : shuffle_Take.f k xs b = some ([], 1) := by
  unfold shuffle_Take.f
  rw [of_wrong _ b h]
  rfl
theorem put_len (xs : List Int) (b : Nat) (h0 : 0 < b) : (putN xs b).length = xs.length := by rw [putN, List.length_map, len_ordN _ b h0]
theorem take_len (xs : List Int) (b : Nat) : (takeN xs b).length = xs.length := by rw [takeN, scat_len, List.length_replicate]
theorem put_at (xs : List Int) (b : Nat) (h0 : 0 < b) {i : Nat} (hi : i < xs.length) : (putN xs b).getD i 0 = rd xs ((ordN xs.length b).getD i 0) := by
  rw [getD_get (by rw [put_len xs b h0]; exact hi), getD_get (by rw [len_ordN _ b h0]; exact hi)]
  simp [putN]
theorem take_at (xs : List Int) (b : Nat) (h0 : 0 < b) {i : Nat} (hi : i < xs.length) : (takeN xs b).getD ((ordN xs.length b).getD i 0).toNat 0 = xs.getD i 0 := by
  have h := scat_on (fun i => rd xs i) (ordN xs.length b) (List.replicate xs.length 0) 0 i (nodup_ordN _ b) (fun o ho => by
    rw [List.length_replicate]; exact (mem_ordN _ b h0 o).mp ho) (by rw [len_ordN _ b h0]; exact hi)
  rw [show 0 + i = i by omega] at h
  exact h
theorem ext (xs ys : List Int) (h : xs.length = ys.length) (he : ∀ i, i < xs.length → xs.getD i 0 = ys.getD i 0) : xs = ys := by
  refine List.ext_getElem h (fun i h1 h2 => ?_)
  have := he i h1
  rw [getD_get h1, getD_get h2] at this
  exact this
theorem take_put (xs : List Int) (b : Nat) (h0 : 0 < b) : takeN (putN xs b) b = xs := by
  have hl := put_len xs b h0
  refine ext _ _ (by rw [take_len, hl]) ?_
  intro j hj
  rw [take_len, hl] at hj
  obtain ⟨i, hi, e⟩ := ordN_onto xs.length b h0 hj
  have h := take_at (putN xs b) b h0 (show i < (putN xs b).length by rw [hl]; exact hi)
  rw [hl, e] at h
  refine h.trans ?_
  rw [put_at xs b h0 hi, e]
  rfl
theorem put_take (xs : List Int) (b : Nat) (h0 : 0 < b) : putN (takeN xs b) b = xs := by
  have hl := take_len xs b
  refine ext _ _ (by rw [put_len _ b h0, hl]) ?_
  intro i hi
  rw [put_len _ b h0, hl] at hi
  rw [put_at (takeN xs b) b h0 (by rw [hl]; exact hi), hl]
  exact take_at xs b h0 hi

theorem loop (xs : List Int) (b : Nat) (h0 : 0 < b) (hb : b ≤ 64) (hx : xs.length ≤ 300) : ∀ (d i k : Nat), i + d = xs.length → d + 5000001 ≤ k →
    shuttlelaw33_ShufflePuts.l0 k xs b (strOfNums xs) (putN xs b) (takeN xs b) (ordN xs.length b) i = some true := by
  have hlo := len_ordN xs.length b h0
  have hlp := put_len xs b h0
  have hlt := take_len xs b
  intro d
  induction d with
  | zero =>
    intro i k hi hk
    obtain ⟨k, rfl⟩ : ∃ m, k = m + 1 := ⟨k - 1, by omega⟩
    rw [shuttlelaw33_ShufflePuts.l0, if_neg (by rw [hlo]; omega)]
    rw [take_right (putN xs b) b (by omega) h0 hb k (by omega), Option.bind_some, put_right (takeN xs b) b (by omega) h0 hb k (by omega), Option.bind_some, if_pos rfl, if_pos rfl, take_put xs b h0, put_take xs b h0, if_pos rfl]
    congr 1
    simp
  | succ d ih =>
    intro i k hi hk
    obtain ⟨k, rfl⟩ : ∃ m, k = m + 1 := ⟨k - 1, by omega⟩
    obtain ⟨g0, g1⟩ := ordN_at xs.length b h0 (show i < xs.length by omega)
    have e1 : rd (putN xs b) (i : Int) = rd xs (rd (ordN xs.length b) (i : Int)) := put_at xs b h0 (show i < xs.length by omega)
    have e2 : rd (takeN xs b) (rd (ordN xs.length b) (i : Int)) = rd xs (i : Int) := take_at xs b h0 (show i < xs.length by omega)
    rw [shuttlelaw33_ShufflePuts.l0, if_pos (by rw [hlo]; omega), if_pos (by omega), if_pos (by rw [hlp]; omega), if_pos (show 0 ≤ rd (ordN xs.length b) (i : Int) from g0), if_pos (show rd (ordN xs.length b) (i : Int) < (xs.length : Int) from g1), if_pos e1, if_pos (by rw [hlt]; exact g1), if_pos (by omega), if_pos e2, wr_id (by omega) (by omega)]
    exact ih (i + 1) k (by omega) (by omega)
theorem j0 (xs : List Int) (y : Int) (hx : xs.length ≤ 300) (k : Nat) (hk : 7000000 ≤ k) (a : List Int) (ea : Int) (c : List Int) (ec : Int) (hp : shuffle_Put.f k xs y = some (a, ea)) (ht : shuffle_Take.f k xs y = some (c, ec)) :
    shuttlelaw33_ShufflePuts.j0 k xs y (strOfNums xs) a ea c ec false = some true := by
  obtain ⟨k, rfl⟩ : ∃ m, k = m + 1 := ⟨k - 1, by omega⟩
  rw [shuttlelaw33_ShufflePuts.j0, if_neg (by simp), right_is, Option.bind_some]
  by_cases hR : 0 ≤ (xs.length : Int) ∧ (xs.length : Int) ≤ 65536 ∧ 1 ≤ y ∧ y ≤ 64
  · obtain ⟨x0, x1, y0, y1⟩ := hR
    obtain ⟨b, rfl⟩ := Int.eq_ofNat_of_zero_le (show 0 ≤ y by omega)
    rw [put_right xs b (by omega) (by omega) (by omega) _ (by omega)] at hp
    rw [take_right xs b (by omega) (by omega) (by omega) _ (by omega)] at ht
    obtain ⟨rfl, rfl⟩ := Prod.mk.inj (Option.some.inj hp)
    obtain ⟨rfl, rfl⟩ := Prod.mk.inj (Option.some.inj ht)
    rw [if_pos (decide_eq_true (by omega)), ref_order xs.length b (by omega) (by omega) (by omega) k (by omega), Option.bind_some, if_pos rfl, if_pos rfl, put_len xs b (by omega), if_pos rfl, take_len]
    obtain ⟨k, rfl⟩ : ∃ m, k = m + 1 := ⟨k - 1, by omega⟩
    rw [shuttlelaw33_ShufflePuts.j1, if_neg (by simp)]
    exact loop xs b (by omega) (by omega) hx xs.length 0 k (by omega) (by omega)
  · rw [put_wrong xs y hR] at hp
    rw [take_wrong xs y hR] at ht
    obtain ⟨rfl, rfl⟩ := Prod.mk.inj (Option.some.inj hp)
    obtain ⟨rfl, rfl⟩ := Prod.mk.inj (Option.some.inj ht)
    rw [decide_eq_false hR]
    rfl
end Puts
open Puts in
theorem ShufflePuts : shuttlelaw33_ShufflePuts.Pure := by
  intro l0 a1 _ _ _ _
  refine ⟨7000000, ?_⟩
  unfold shuttlelaw33_ShufflePuts.f
  have m0 : 0 ≤ mn (l0.length : Int) 300 := by unfold mn; split <;> omega
  have m1 : mn (l0.length : Int) 300 ≤ (l0.length : Int) := by unfold mn; split <;> omega
  have m2 : mn (l0.length : Int) 300 ≤ 300 := by unfold mn; split <;> omega
  rw [Option.bind_some, if_pos m0, if_pos m1]
  have hl : (l0.take (mn (l0.length : Int) 300).toNat).length ≤ 300 := by rw [List.length_take]; omega
  generalize l0.take (mn (l0.length : Int) 300).toNat = xs at hl ⊢
  rw [if_pos (Nat.lt_of_le_of_lt (show ([] : List Int).length + xs.length ≤ 300 by simpa using hl) (by decide)), Option.bind_some, List.nil_append]
  have hput : ∃ a ea, shuffle_Put.f 7000000 xs a1 = some (a, ea) := by
    by_cases hR : 0 ≤ (xs.length : Int) ∧ (xs.length : Int) ≤ 65536 ∧ 1 ≤ a1 ∧ a1 ≤ 64
    · obtain ⟨b, rfl⟩ := Int.eq_ofNat_of_zero_le (show 0 ≤ a1 by omega)
      exact ⟨_, _, put_right xs b (by omega) (by omega) (by omega) _ (by omega)⟩
    · exact ⟨_, _, put_wrong xs a1 hR _⟩
  have htake : ∃ a ea, shuffle_Take.f 7000000 xs a1 = some (a, ea) := by
    by_cases hR : 0 ≤ (xs.length : Int) ∧ (xs.length : Int) ≤ 65536 ∧ 1 ≤ a1 ∧ a1 ≤ 64
    · obtain ⟨b, rfl⟩ := Int.eq_ofNat_of_zero_le (show 0 ≤ a1 by omega)
      exact ⟨_, _, take_right xs b (by omega) (by omega) (by omega) _ (by omega)⟩
    · exact ⟨_, _, take_wrong xs a1 hR _⟩
  obtain ⟨a, ea, hp⟩ := hput
  obtain ⟨c, ec, ht⟩ := htake
  rw [hp, Option.bind_some, ht, Option.bind_some, shuffles_at _ (by omega), Option.bind_some, if_pos rfl]
  have : ((strOfNums xs).toList != (strOfNums xs).toList) = false := by simp
  rw [this]
  exact j0 xs a1 hl 7000000 (by omega) a ea c ec hp ht
end Go.Proofs.Ytdakfabdegiboaa.Pure
