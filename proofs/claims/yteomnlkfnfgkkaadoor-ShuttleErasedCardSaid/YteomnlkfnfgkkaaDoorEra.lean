/- Of a code of which each step keeps one stream, the way that gives most is the one that was coded. No condition beside the bits' own range. -/
import Derived.Test.YteomnlkfnfgkkaaDoorCod
namespace Go.Proofs.YteomnlkfnfgkkaaDoor.Pure
open Go.RowKit Go.Proofs.YteomnlkfnfgkkaaDoor.Q Go.Proofs.YteomnlkfnfgkkaaDoorW.PrintWords Go.Proofs.YteomnlkfnfgkkaaDoorW.PrintLast Go.Proofs.YteomnlkfnfgkkaaDoorW.PrintMore
set_option linter.unusedVariables false
theorem wr_id (x : Int) (h0 : -1000 ≤ x) (h1 : x ≤ 1000) : wrap64 x = x := by unfold wrap64; omega
theorem sg_two (o : Int) : sg o = 1 ∨ sg o = -1 := by
  unfold sg
  split
  · exact .inl rfl
  · exact .inr rfl
theorem gn_zero (n o : Int) (h0 : -900 ≤ n) (h1 : n ≤ 900) : gn n 0 o = n := by
  unfold gn
  rw [Int.zero_mul, wr_id 0 (by decide) (by decide), Int.add_zero, wr_id n (by omega) (by omega)]
theorem gn_sg (a o : Int) : gn 0 (sg a) o = sg a * sg o := by
  unfold gn
  rcases sg_two a with e | e <;> rcases sg_two o with f | f <;> rw [e, f] <;> (unfold wrap64; decide)
theorem sg_in (a o : Int) : -900 ≤ sg a * sg o ∧ sg a * sg o ≤ 900 := by
  rcases sg_two a with e | e <;> rcases sg_two o with f | f <;> rw [e, f] <;> decide
section
variable (l : List Int) (kp : Nat → Nat)
/-- The bit that is told at a step on a stream. -/
def cb (t i : Nat) : Int := ob (wd (stS l t) (inB l t)) i
/-- What is known: one stream of each step. -/
def vK (j : Nat) : Int := if j % 4 = kp (j / 4) then sg (cb l (j / 4) (j % 4)) else 0
theorem vK_at (t i : Nat) (hi : i < 4) : vK l kp (4 * t + i) = if i = kp t then sg (cb l t i) else 0 := by
  unfold vK
  rw [show (4 * t + i) % 4 = i by omega, show (4 * t + i) / 4 = t by omega]
theorem yv_is (t s b : Nat) (hk : kp t < 4) : yv (vK l kp) t s b = sg (cb l t (kp t)) * sg (ob (wd s b) (kp t)) := by
  unfold yv
  have h0 := vK_at l kp t 0 (by decide)
  rw [Nat.add_zero] at h0
  rw [h0, vK_at l kp t 1 (by decide), vK_at l kp t 2 (by decide), vK_at l kp t 3 (by decide)]
  generalize kp t = k at hk ⊢
  unfold gainV
  have hz := fun o => gn_zero 0 o (by decide) (by decide)
  rcases k with _ | _ | _ | _ | k
  · rw [if_pos rfl, if_neg (by decide), if_neg (by decide), if_neg (by decide), gn_sg]
    have h := sg_in (cb l t 0) (ob (wd s b) 0)
    rw [gn_zero _ _ h.1 h.2, gn_zero _ _ h.1 h.2, gn_zero _ _ h.1 h.2]
  · rw [if_neg (by decide), if_pos rfl, if_neg (by decide), if_neg (by decide), hz, gn_sg]
    have h := sg_in (cb l t 1) (ob (wd s b) 1)
    rw [gn_zero _ _ h.1 h.2, gn_zero _ _ h.1 h.2]
  · rw [if_neg (by decide), if_neg (by decide), if_pos rfl, if_neg (by decide), hz, hz, gn_sg]
    have h := sg_in (cb l t 2) (ob (wd s b) 2)
    rw [gn_zero _ _ h.1 h.2]
  · rw [if_neg (by decide), if_neg (by decide), if_neg (by decide), if_pos rfl, hz, hz, hz, gn_sg]
  · omega
theorem yv_two (t s b : Nat) (hk : kp t < 4) : yv (vK l kp) t s b = 1 ∨ yv (vK l kp) t s b = -1 := by
  rw [yv_is l kp t s b hk]
  rcases sg_two (cb l t (kp t)) with e | e <;> rcases sg_two (ob (wd s b) (kp t)) with f | f <;> rw [e, f] <;> decide
/-- The way that was coded gives one. -/
theorem yv_same (t : Nat) (hk : kp t < 4) : yv (vK l kp) t (stS l t) (inB l t) = 1 := by
  rw [yv_is l kp t _ _ hk]
  unfold cb
  rcases sg_two (ob (wd (stS l t) (inB l t)) (kp t)) with f | f <;> rw [f] <;> decide
theorem sg_turn {a : Int} (h0 : 0 ≤ a) (h1 : a ≤ 1) : sg (1 - a) = - sg a := by
  rcases (show a = 0 ∨ a = 1 by omega) with rfl | rfl <;> decide
/-- The other one takes one. -/
theorem yv_other (hb : ∀ x ∈ l, 0 ≤ x ∧ x ≤ 1) (t b : Nat) (hk : kp t < 4) (hb2 : b < 2) (hne : b ≠ inB l t) : yv (vK l kp) t (stS l t) b = -1 := by
  have hs := stS_lt hb t
  have hi := inB_lt hb t
  have h1 := yv_same l kp t hk
  rw [yv_is l kp t _ _ hk] at h1 ⊢
  have ht := ob_turn (stS l t) (kp t) hs hk
  have hin := ob_in (stS l t) (kp t) (by omega) hk
  have e : sg (ob (wd (stS l t) b) (kp t)) = - sg (ob (wd (stS l t) (inB l t)) (kp t)) := by
    generalize inB l t = c at hi hne
    rcases (show (b = 0 ∧ c = 1) ∨ (b = 1 ∧ c = 0) by omega) with ⟨rfl, rfl⟩ | ⟨rfl, rfl⟩
    · rw [show wd (stS l t) 1 = stS l t + 64 from by unfold wd; omega, show wd (stS l t) 0 = stS l t from by unfold wd; omega, ht, sg_turn hin.1 hin.2, Int.neg_neg]
    · rw [show wd (stS l t) 1 = stS l t + 64 from by unfold wd; omega, show wd (stS l t) 0 = stS l t from by unfold wd; omega, ht, sg_turn hin.1 hin.2]
  rw [e, Int.mul_neg, h1]
theorem NO_is : NO = -1099511627776 := rfl
theorem bstep_small (y c : Int) (hc : c ≠ NO) (h0 : -500 ≤ y + c) (h1 : y + c ≤ 500) : bstep NO y c = y + c := by
  have hn := NO_is
  rw [bstep, if_neg hc, wr_id _ (by omega) (by omega), mx2, if_pos (by omega)]
theorem bstep_gen (top y c : Int) (h0 : -500 ≤ y + c) (h1 : y + c ≤ 500) : bstep top y c = top ∨ bstep top y c = y + c := by
  unfold bstep
  split
  · exact .inl rfl
  · rw [wr_id _ (by omega) (by omega), mx2]
    split
    · exact .inr rfl
    · exact .inl rfl
theorem bstep_ge (top y c : Int) : top ≤ bstep top y c := by
  unfold bstep
  split
  · exact Int.le_refl _
  · unfold mx2
    split <;> omega
theorem bstep_ge2 (top y c : Int) (hc : c ≠ NO) (h0 : -500 ≤ y + c) (h1 : y + c ≤ 500) : y + c ≤ bstep top y c := by
  rw [bstep, if_neg hc, wr_id _ (by omega) (by omega), mx2]
  split <;> omega
theorem bstep_no' (top y c : Int) (hc : c = NO) : bstep top y c = top := by rw [bstep, if_pos hc]
/-- What a step may give: nothing, or a number within the steps that are left. -/
theorem bstep_in (k : Int) (hk : 0 ≤ k) (hk2 : k ≤ 200) (top y c : Int) (ht : top = NO ∨ (-(k + 1) ≤ top ∧ top ≤ k + 1)) (hy : y = 1 ∨ y = -1) (hc : c = NO ∨ (-k ≤ c ∧ c ≤ k)) :
    bstep top y c = NO ∨ (-(k + 1) ≤ bstep top y c ∧ bstep top y c ≤ k + 1) := by
  by_cases h : c = NO
  · rw [bstep_no' _ _ _ h]; exact ht
  · have hc2 := hc.resolve_left h
    rcases bstep_gen top y c (by omega) (by omega) with e | e
    · rw [e]; exact ht
    · rw [e]; right; omega
variable (n T : Nat)
theorem best_one (y0 c0 y1 c1 : Int) : bestP y0 c0 y1 c1 1 = bstep NO y0 c0 := by rw [bestP]
theorem best_two (y0 c0 y1 c1 : Int) : bestP y0 c0 y1 c1 2 = bstep (bstep NO y0 c0) y1 c1 := by
  rw [bestP]
  all_goals (intro h; cases h)
theorem ways_in (n t : Nat) : Q.ways n t = 1 ∨ Q.ways n t = 2 := by
  unfold Q.ways
  split
  · exact .inl rfl
  · exact .inr rfl
theorem best_in (k : Nat) (h : k ≤ 100) (y0 y1 c0 c1 : Int) (hy0 : y0 = 1 ∨ y0 = -1) (hy1 : y1 = 1 ∨ y1 = -1) (hc0 : c0 = NO ∨ (-(k : Int) ≤ c0 ∧ c0 ≤ (k : Int))) (hc1 : c1 = NO ∨ (-(k : Int) ≤ c1 ∧ c1 ≤ (k : Int))) (m : Nat) (hm : m = 1 ∨ m = 2) : bestP y0 c0 y1 c1 m = NO ∨ (-((k + 1 : Nat) : Int) ≤ bestP y0 c0 y1 c1 m ∧ bestP y0 c0 y1 c1 m ≤ ((k + 1 : Nat) : Int)) := by
  have a0 : (0 : Int) ≤ (k : Int) := Int.natCast_nonneg k
  have a1 : (k : Int) ≤ 200 := by clear hc0 hc1; omega
  have e : ((k + 1 : Nat) : Int) = (k : Int) + 1 := rfl
  rw [e]
  have h1 := bstep_in (k : Int) a0 a1 NO _ _ (.inl rfl) hy0 hc0
  have h2 := bstep_in (k : Int) a0 a1 _ _ _ h1 hy1 hc1
  rcases hm with rfl | rfl
  · rw [best_one]
    exact h1
  · rw [best_two]
    exact h2
theorem col_in (hk : ∀ t, kp t < 4) : ∀ (k s : Nat), k ≤ 100 → colK (vK l kp) n T k s = NO ∨ (-(k : Int) ≤ colK (vK l kp) n T k s ∧ colK (vK l kp) n T k s ≤ (k : Int))
  | 0, s, _ => by
    rw [colK]
    split
    · right; decide
    · exact .inl rfl
  | k + 1, s, h => by
    have hk1 : k ≤ 100 := Nat.le_of_succ_le h
    rw [colK]
    exact best_in k hk1 _ _ _ _ (yv_two l kp (T - (k + 1)) s 0 (hk _)) (yv_two l kp (T - (k + 1)) s 1 (hk _)) (col_in hk k (toS s 0) hk1) (col_in hk k (toS s 1) hk1) _ (ways_in n _)
theorem st_step (t : Nat) : stS l (t + 1) = toS (stS l t) (inB l t) := rfl
theorem six (a b c d e f g : Nat) (h : a < 64) (e0 : b = a / 2) (e1 : c = b / 2) (e2 : d = c / 2) (e3 : e = d / 2) (e4 : f = e / 2) (e5 : g = f / 2) : g = 0 := by omega
theorem st_end (hb : ∀ x ∈ l, 0 ≤ x ∧ x ≤ 1) (hn : l.length = n) : stS l (n + 6) = 0 := by
  have h := stS_lt hb n
  have e : ∀ m, n ≤ m → stS l (m + 1) = stS l m / 2 := fun m hm => by
    rw [st_step, inB_far m (by omega)]
    unfold toS wd
    rfl
  exact six (stS l n) (stS l (n + 1)) (stS l (n + 2)) (stS l (n + 3)) (stS l (n + 4)) (stS l (n + 5)) (stS l (n + 6)) h (e n (Nat.le_refl _)) (e (n + 1) (Nat.le_add_right _ _)) (e (n + 2) (Nat.le_add_right _ _)) (e (n + 3) (Nat.le_add_right _ _)) (e (n + 4) (Nat.le_add_right _ _)) (e (n + 5) (Nat.le_add_right _ _))
theorem k_no (k : Nat) : (k : Int) ≠ NO := by have hno := NO_is; omega
theorem best_lo0 (k : Nat) (h : k ≤ 100) (y1 c1 : Int) (m : Nat) (hm : m = 1 ∨ m = 2) : (k : Int) + 1 ≤ bestP 1 (k : Int) y1 c1 m := by
  have a0 : -500 ≤ 1 + (k : Int) := by omega
  have a1 : 1 + (k : Int) ≤ 500 := by omega
  have h1 := bstep_ge2 NO 1 (k : Int) (k_no k) a0 a1
  rw [Int.add_comm (k : Int) 1]
  rcases hm with rfl | rfl
  · rw [best_one]
    exact h1
  · rw [best_two]
    exact Int.le_trans h1 (bstep_ge _ _ _)
theorem best_lo1 (k : Nat) (h : k ≤ 100) (y0 c0 : Int) : (k : Int) + 1 ≤ bestP y0 c0 1 (k : Int) 2 := by
  have a0 : -500 ≤ 1 + (k : Int) := by omega
  have a1 : 1 + (k : Int) ≤ 500 := by omega
  rw [Int.add_comm (k : Int) 1, best_two]
  exact bstep_ge2 (bstep NO y0 c0) 1 (k : Int) (k_no k) a0 a1
theorem close_up (c : Int) (k : Nat) (h : k ≤ 100) (up : c = NO ∨ (-((k + 1 : Nat) : Int) ≤ c ∧ c ≤ ((k + 1 : Nat) : Int))) (lo : (k : Int) + 1 ≤ c) : c = ((k + 1 : Nat) : Int) := by
  have hno := NO_is
  omega
/-- Along the way that was coded each step gives one. -/
theorem col_true (hb : ∀ x ∈ l, 0 ≤ x ∧ x ≤ 1) (hn : l.length = n) (hT : n + 6 = T) (hT2 : T ≤ 100) (hk : ∀ t, kp t < 4) : ∀ k, k ≤ T → colK (vK l kp) n T k (stS l (T - k)) = (k : Int)
  | 0, _ => by
    rw [Nat.sub_zero, ← hT, st_end l n hb hn, colK, if_pos rfl]
    rfl
  | k + 1, h => by
    have hk0 : k ≤ T := by omega
    have hk1 : k ≤ 100 := by omega
    have hk2 : k + 1 ≤ 100 := by omega
    have ih := col_true hb hn hT hT2 hk k hk0
    obtain ⟨t, ht⟩ : ∃ t, T - (k + 1) = t := ⟨_, rfl⟩
    have htk : T - k = t + 1 := by clear ih; omega
    have hi := inB_lt hb t
    have hc : inB l t = 0 ∨ inB l t = 1 := by clear ih; omega
    have hw : inB l t = 1 → Q.ways n t = 2 := by
      clear ih
      intro e
      have htn : ¬ n ≤ t := by
        intro hle
        rw [inB_far t (by omega)] at e
        cases e
      exact if_neg htn
    rw [htk, st_step] at ih
    have hy := yv_same l kp t (hk t)
    have up := col_in l kp n T hk (k + 1) (stS l t) hk2
    rw [ht]
    refine close_up _ k hk1 up ?_
    clear up
    rw [colK, ht]
    rcases hc with e | e
    · rw [e] at ih hy
      rw [ih, hy]
      exact best_lo0 k hk1 _ _ _ (ways_in n t)
    · rw [e] at ih hy
      rw [ih, hy, hw e]
      exact best_lo1 k hk1 _ _
theorem pick_0 (k : Nat) (h : k ≤ 100) (y1 c1 : Int) : (if bestP 1 (k : Int) y1 c1 1 = ((k + 1 : Nat) : Int) then 0 else 1) = 0 := by
  have a0 : -500 ≤ 1 + (k : Int) := by omega
  have a1 : 1 + (k : Int) ≤ 500 := by omega
  have e : bestP 1 (k : Int) y1 c1 1 = ((k + 1 : Nat) : Int) := by
    rw [best_one, bstep_small 1 (k : Int) (k_no k) a0 a1, Int.add_comm (1 : Int) (k : Int)]
    rfl
  exact if_pos e
theorem pick_1 (k : Nat) (h : k ≤ 100) (c0 y1 c1 : Int) (hin : c0 = NO ∨ (-(k : Int) ≤ c0 ∧ c0 ≤ (k : Int))) : (if bestP (-1) c0 y1 c1 1 = ((k + 1 : Nat) : Int) then 0 else 1) = 1 := by
  have e : ¬ bestP (-1) c0 y1 c1 1 = ((k + 1 : Nat) : Int) := by
    rw [best_one]
    intro he
    by_cases e : c0 = NO
    · rw [bstep_no' _ _ _ e] at he
      exact k_no (k + 1) he.symm
    · have h2 := hin.resolve_left e
      have a0 : -500 ≤ -1 + c0 := by clear he; omega
      have a1 : -1 + c0 ≤ 500 := by clear he; omega
      rw [bstep_small _ _ e a0 a1] at he
      omega
  exact if_neg e
theorem pk_true (hb : ∀ x ∈ l, 0 ≤ x ∧ x ≤ 1) (hn : l.length = n) (hT : n + 6 = T) (hT2 : T ≤ 100) (hk : ∀ t, kp t < 4) (t : Nat) (ht : t < n) : pk (vK l kp) n T t (stS l t) = inB l t := by
  obtain ⟨k, hkk⟩ : ∃ k, T - (t + 1) = k := ⟨_, rfl⟩
  have hk1 : T - t = k + 1 := by omega
  have hk2 : T - k = t + 1 := by omega
  have hk3 : T - (T - t) = t := by omega
  have hk4 : T - t ≤ T := by omega
  have hk5 : k ≤ T := by omega
  have hk6 : k ≤ 100 := by omega
  have hi := inB_lt hb t
  have hd : inB l t = 0 ∨ inB l t = 1 := by omega
  have hc := col_true l kp n T hb hn hT hT2 hk (T - t) hk4
  rw [hk3] at hc
  have hy := yv_same l kp t (hk t)
  have hc2 := col_true l kp n T hb hn hT hT2 hk k hk5
  rw [hk2, st_step] at hc2
  unfold pk
  rw [hc, hkk, hk1]
  rcases hd with e | e
  · rw [e] at hc2 hy ⊢
    rw [hc2, hy]
    exact pick_0 k hk6 _ _
  · have ho := yv_other l kp hb t 0 (hk t) (by decide) (by rw [e]; decide)
    have hin := col_in l kp n T hk k (toS (stS l t) 0) hk6
    rw [e, ho]
    exact pick_1 k hk6 _ _ _ hin
theorem tr_true (hb : ∀ x ∈ l, 0 ≤ x ∧ x ≤ 1) (hn : l.length = n) (hT : n + 6 = T) (hT2 : T ≤ 100) (hk : ∀ t, kp t < 4) : ∀ t, t ≤ n → trS (vK l kp) n T t = stS l t
  | 0, _ => rfl
  | t + 1, h => by
    rw [trS, tr_true hb hn hT hT2 hk t (by omega), pk_true l kp n T hb hn hT hT2 hk t (by omega)]
    rfl
theorem out_true (hb : ∀ x ∈ l, 0 ≤ x ∧ x ≤ 1) (hn : l.length = n) (hT : n + 6 = T) (hT2 : T ≤ 100) (hk : ∀ t, kp t < 4) : ∀ t, t ≤ n → outL (vK l kp) n T t = l.take t
  | 0, _ => by rw [List.take_zero]; rfl
  | t + 1, h => by
    have hlt : t < l.length := by omega
    rw [outL, out_true hb hn hT hT2 hk t (by omega), tr_true l kp n T hb hn hT hT2 hk t (by omega), pk_true l kp n T hb hn hT hT2 hk t (by omega), ← inB_rd hb t hlt, List.take_add_one, List.getElem?_eq_getElem hlt]
    unfold rd
    rw [Int.toNat_natCast, List.getD_eq_getElem?_getD, List.getElem?_eq_getElem hlt]
    rfl
/-- The law in plain Lean: the bits and their number of steps. -/
theorem era_law (hb : ∀ x ∈ l, 0 ≤ x ∧ x ≤ 1) (hn : l.length = n) (hT : n + 6 = T) (hT2 : T ≤ 100) (hk : ∀ t, kp t < 4) : outL (vK l kp) n T n = l ∧ colK (vK l kp) n T T 0 = (T : Int) := by
  refine ⟨by rw [out_true l kp n T hb hn hT hT2 hk n (Nat.le_refl _), ← hn, List.take_length], ?_⟩
  have h := col_true l kp n T hb hn hT hT2 hk T (Nat.le_refl _)
  rw [Nat.sub_self] at h
  exact h
end
end Go.Proofs.YteomnlkfnfgkkaaDoor.Pure
