/- Polynomials over two numbers, plainly: their product, its laws, its length, and that quotient and rest are told once. Plain numbers; no condition. -/
import Derived.Lib.BitFns
namespace Go.Proofs.YtbkeogllicgbaaaDoor.Gf
open Go.Lib (bitLen)

/-- The product: b's bits, the lowest first. -/
def cl (a : Nat) (b : Nat) : Nat := if b = 0 then 0 else (if b % 2 = 1 then a else 0) ^^^ (2 * cl a (b / 2))
termination_by b
decreasing_by omega

theorem cl_zero (a : Nat) : cl a 0 = 0 := by rw [cl, if_pos rfl]
theorem cl_step (a b : Nat) : cl a b = (if b % 2 = 1 then a else 0) ^^^ (2 * cl a (b / 2)) := by
  by_cases h : b = 0
  · subst h
    rw [cl_zero]
    simp
  · rw [cl, if_neg h]
theorem two_xor (x y : Nat) : 2 * (x ^^^ y) = (2 * x) ^^^ (2 * y) := by
  have := Nat.shiftLeft_xor_distrib (a := x) (b := y) (i := 1)
  simpa [Nat.shiftLeft_eq, Nat.mul_comm] using this
theorem xor_low (x c : Nat) (hc : c < 2) : c ^^^ (2 * x) = 2 * x + c := by
  apply Nat.eq_of_testBit_eq
  intro i
  rw [Nat.testBit_xor]
  cases i with
  | zero =>
    simp only [Nat.testBit_zero]
    rcases (show c = 0 ∨ c = 1 by omega) with rfl | rfl
    · simp
    · simp [Nat.add_mod]
  | succ i =>
    rw [Nat.testBit_succ, Nat.testBit_succ, Nat.testBit_succ, show c / 2 = 0 by omega, show 2 * x / 2 = x by omega, show (2 * x + c) / 2 = x by omega]
    simp
theorem halves (b : Nat) : (b % 2) ^^^ (2 * (b / 2)) = b := by
  rw [xor_low _ _ (by omega)]
  omega
theorem cl_add_left (a a' b : Nat) : cl (a ^^^ a') b = cl a b ^^^ cl a' b := by
  induction b using Nat.strongRecOn with
  | _ b ih =>
    by_cases h : b = 0
    · subst h; simp [cl_zero]
    · rw [cl_step, cl_step a, cl_step a', ih (b / 2) (by omega), two_xor]
      split
      · ac_rfl
      · simp
theorem cl_double_left (a b : Nat) : cl (2 * a) b = 2 * cl a b := by
  induction b using Nat.strongRecOn with
  | _ b ih =>
    by_cases h : b = 0
    · subst h; simp [cl_zero]
    · rw [cl_step, cl_step a, ih (b / 2) (by omega), two_xor]
      split <;> simp
theorem cl_zero_left (b : Nat) : cl 0 b = 0 := by
  have := cl_add_left 0 0 b
  simpa using this
theorem cl_one_left (b : Nat) : cl 1 b = b := by
  induction b using Nat.strongRecOn with
  | _ b ih =>
    by_cases h : b = 0
    · subst h; exact cl_zero _
    · rw [cl_step, ih (b / 2) (by omega)]
      have e : (if b % 2 = 1 then 1 else 0) = b % 2 := by split <;> omega
      rw [e, halves]
theorem cl_comm (a b : Nat) : cl a b = cl b a := by
  induction b using Nat.strongRecOn with
  | _ b ih =>
    by_cases h : b = 0
    · subst h; rw [cl_zero, cl_zero_left]
    · rw [cl_step, ih (b / 2) (by omega)]
      have e : cl b a = cl (b % 2) a ^^^ cl (2 * (b / 2)) a := by rw [← cl_add_left, halves]
      rw [e, cl_double_left]
      congr 1
      rcases (show b % 2 = 0 ∨ b % 2 = 1 by omega) with h | h
      · rw [h, cl_zero_left]; rfl
      · rw [h, cl_one_left]; rfl
theorem cl_add (a b c : Nat) : cl a (b ^^^ c) = cl a b ^^^ cl a c := by rw [cl_comm, cl_add_left, cl_comm b, cl_comm c]
theorem cl_double (a b : Nat) : cl a (2 * b) = 2 * cl a b := by rw [cl_comm, cl_double_left, cl_comm]
theorem cl_one (a : Nat) : cl a 1 = a := by rw [cl_comm, cl_one_left]
theorem cl_pow (a k : Nat) : cl a (2 ^ k) = a * 2 ^ k := by
  induction k with
  | zero => rw [Nat.pow_zero, cl_one, Nat.mul_one]
  | succ k ih => rw [Nat.pow_succ, Nat.mul_comm (2 ^ k), cl_double, ih]; rw [Nat.mul_left_comm]
theorem cl_assoc (a b c : Nat) : cl (cl a b) c = cl a (cl b c) := by
  induction c using Nat.strongRecOn with
  | _ c ih =>
    by_cases h : c = 0
    · subst h; simp [cl_zero]
    · rw [cl_step (cl a b), cl_step b c, ih (c / 2) (by omega), cl_add, cl_double]
      congr 1
      split
      · rfl
      · rw [cl_zero]

/-! ### Lengths -/
/-- x wants n bits. -/
def Len (x n : Nat) : Prop := x < 2 ^ n ∧ (n = 0 ∨ 2 ^ (n - 1) ≤ x)
theorem Len.unique {x n m : Nat} (h : Len x n) (k : Len x m) : n = m := by
  have key : ∀ {n m : Nat}, Len x n → Len x m → n ≤ m := by
    intro n m h k
    rcases h.2 with e | e
    · omega
    · apply Nat.le_of_not_lt
      intro hlt
      have : 2 ^ m ≤ 2 ^ (n - 1) := Nat.pow_le_pow_right (by omega) (by omega)
      have := k.1
      omega
  exact Nat.le_antisymm (key h k) (key k h)
theorem Len.zero {n : Nat} (h : Len 0 n) : n = 0 := by
  rcases h.2 with e | e
  · exact e
  · have := Nat.two_pow_pos (n - 1)
    omega
theorem Len.pos {x n : Nat} (h : Len x n) (hx : x ≠ 0) : 1 ≤ n := by
  apply Nat.pos_of_ne_zero
  intro e
  subst e
  have := h.1
  simp at this
  omega
theorem Len.ex (x : Nat) : ∃ n, Len x n := by
  induction x using Nat.strongRecOn with
  | _ x ih =>
    by_cases h : x = 0
    · exact ⟨0, by subst h; exact ⟨by decide, .inl rfl⟩⟩
    · obtain ⟨n, h1, h2⟩ := ih (x / 2) (by omega)
      refine ⟨n + 1, by rw [Nat.pow_succ]; omega, .inr ?_⟩
      rcases h2 with e | e
      · subst e
        simp
        omega
      · obtain ⟨m, rfl⟩ : ∃ m, n = m + 1 := ⟨n - 1, by
          apply (Nat.sub_add_cancel _).symm
          apply Nat.pos_of_ne_zero
          intro e0
          subst e0
          simp at e h1
          omega⟩
        simp only [Nat.add_sub_cancel] at e ⊢
        rw [Nat.pow_succ]
        omega
theorem Len.half {x n : Nat} (h : Len x (n + 1)) : Len (x / 2) n := by
  refine ⟨by have := h.1; rw [Nat.pow_succ] at this; omega, ?_⟩
  cases n with
  | zero => exact .inl rfl
  | succ n =>
    refine .inr ?_
    rcases h.2 with e | e
    · cases e
    · simp only [Nat.add_sub_cancel] at e ⊢
      rw [Nat.pow_succ] at e
      omega
theorem bitLen_len (x : Nat) (hx : x < 2 ^ 64) : Len x (bitLen x) := by
  induction x using Nat.strongRecOn with
  | _ x ih =>
    by_cases h : x = 0
    · subst h; exact ⟨by decide, .inl (by decide)⟩
    · have hh := ih (x / 2) (by omega) (by omega)
      rw [Lib.bitLen_half x h hx]
      refine ⟨by have := hh.1; rw [Nat.add_comm 1, Nat.pow_succ]; omega, .inr ?_⟩
      rw [Nat.add_comm 1, Nat.add_sub_cancel]
      by_cases h2 : x / 2 = 0
      · rw [h2]
        have : bitLen 0 = 0 := by decide
        rw [this]
        simp
        omega
      · have hp := hh.pos h2
        rcases hh.2 with e | e
        · omega
        · obtain ⟨m, hm⟩ : ∃ m, bitLen (x / 2) = m + 1 := ⟨bitLen (x / 2) - 1, by omega⟩
          rw [hm] at e ⊢
          simp only [Nat.add_sub_cancel] at e
          rw [Nat.pow_succ]
          omega
theorem bitLen_zero : bitLen 0 = 0 := by decide
theorem bitLen_le64 (x : Nat) (hx : x < 2 ^ 64) : bitLen x ≤ 64 := Lib.bitLen_le x 64 (by omega) hx
theorem xor_keep (k x y : Nat) (h0 : 2 ^ k ≤ x) (h1 : x < 2 ^ (k + 1)) (hy : y < 2 ^ k) : 2 ^ k ≤ x ^^^ y ∧ x ^^^ y < 2 ^ (k + 1) := by
  have hlt : x ^^^ y < 2 ^ (k + 1) := Nat.xor_lt_two_pow h1 (by rw [Nat.pow_succ]; omega)
  refine ⟨?_, hlt⟩
  have hb : (x ^^^ y).testBit k = true := by
    rw [Nat.testBit_xor, Nat.testBit_lt_two_pow hy]
    have : x.testBit k = true := by
      rw [Nat.testBit_eq_decide_div_mod_eq]
      have : x / 2 ^ k = 1 := by
        apply Nat.div_eq_of_lt_le
        · omega
        · rw [Nat.pow_succ] at h1; omega
      rw [this]
      decide
    rw [this]
    rfl
  exact Nat.ge_two_pow_of_testBit hb
theorem xor_top (k x y : Nat) (h0 : 2 ^ k ≤ x) (h1 : x < 2 ^ (k + 1)) (g0 : 2 ^ k ≤ y) (g1 : y < 2 ^ (k + 1)) : x ^^^ y < 2 ^ k := by
  have top : ∀ z, 2 ^ k ≤ z → z < 2 ^ (k + 1) → z.testBit k = true := by
    intro z z0 z1
    rw [Nat.testBit_eq_decide_div_mod_eq]
    have : z / 2 ^ k = 1 := by
      apply Nat.div_eq_of_lt_le
      · omega
      · rw [Nat.pow_succ] at z1; omega
    rw [this]
    decide
  apply Nat.lt_pow_two_of_testBit
  intro i hi
  rw [Nat.testBit_xor]
  by_cases e : i = k
  · subst e; rw [top x h0 h1, top y g0 g1]; rfl
  · have hp : 2 ^ (k + 1) ≤ 2 ^ i := Nat.pow_le_pow_right (by omega) (by omega)
    rw [Nat.testBit_lt_two_pow (by omega), Nat.testBit_lt_two_pow (by omega)]
    rfl
/-- A product's length. -/
theorem cl_len (a la : Nat) (ha : Len a la) (h1 : 1 ≤ la) (b : Nat) : ∀ lb, Len b lb → 1 ≤ lb → Len (cl a b) (la + lb - 1) := by
  induction b using Nat.strongRecOn with
  | _ b ih =>
    intro lb hb hlb
    obtain ⟨n, rfl⟩ : ∃ n, lb = n + 1 := ⟨lb - 1, by omega⟩
    rw [cl_step]
    cases n with
    | zero =>
      have : b = 1 := by
        have e1 := hb.1
        rcases hb.2 with e | e
        · cases e
        · simp at e1 e; omega
      subst this
      have e2 : (1 : Nat) / 2 = 0 := by decide
      have e3 : (1 : Nat) % 2 = 1 := by decide
      rw [e2, cl_zero, if_pos e3]
      simpa using ha
    | succ n =>
      have hb2 : b ≠ 0 := by
        intro e
        subst e
        have := hb.zero
        omega
      have hr := ih (b / 2) (by omega) (n + 1) hb.half (by omega)
      have hp : la + (n + 1) - 1 = la + n := by omega
      have hq : la + (n + 1 + 1) - 1 = la + n + 1 := by omega
      rw [hp] at hr
      rw [hq]
      have lo : 2 ^ (la + n) ≤ 2 * cl a (b / 2) := by
        rcases hr.2 with e | e
        · omega
        · have : la + n = (la + n - 1) + 1 := by omega
          rw [this, Nat.pow_succ]
          omega
      have hi : 2 * cl a (b / 2) < 2 ^ (la + n + 1) := by have := hr.1; rw [Nat.pow_succ]; omega
      have hx : (if b % 2 = 1 then a else 0) < 2 ^ (la + n) := by
        have h2 : 2 ^ la ≤ 2 ^ (la + n) := Nat.pow_le_pow_right (by omega) (by omega)
        have := ha.1
        split <;> omega
      have := xor_keep (la + n) _ _ lo hi hx
      rw [Nat.xor_comm]
      exact ⟨this.2, .inr (by simpa using this.1)⟩
theorem cl_ne_zero (a b : Nat) (ha : a ≠ 0) (hb : b ≠ 0) : cl a b ≠ 0 := by
  obtain ⟨la, h1⟩ := Len.ex a
  obtain ⟨lb, h2⟩ := Len.ex b
  have p1 := h1.pos ha
  have p2 := h2.pos hb
  have := cl_len a la h1 p1 b lb h2 p2
  intro e
  rw [e] at this
  have := this.zero
  omega
theorem xor_eq_zero {x y : Nat} (h : x ^^^ y = 0) : x = y := by
  have : x ^^^ (x ^^^ y) = x := by rw [h, Nat.xor_zero]
  rw [← Nat.xor_assoc, Nat.xor_self, Nat.zero_xor] at this
  exact this.symm
/-- Quotient and rest are told once. -/
theorem rest_once (b d q q' r r' : Nat) (hb : 2 ^ d ≤ b) (hr : r < 2 ^ d) (hr' : r' < 2 ^ d) (h : cl q b ^^^ r = cl q' b ^^^ r') : r = r' ∧ q = q' := by
  have hx : cl (q ^^^ q') b = r ^^^ r' := by
    rw [cl_add_left]
    have : cl q b = cl q' b ^^^ r' ^^^ r := by rw [← h, Nat.xor_assoc, Nat.xor_self, Nat.xor_zero]
    rw [this]
    calc cl q' b ^^^ r' ^^^ r ^^^ cl q' b = (cl q' b ^^^ cl q' b) ^^^ (r ^^^ r') := by ac_rfl
      _ = r ^^^ r' := by rw [Nat.xor_self, Nat.zero_xor]
  have hlt : r ^^^ r' < 2 ^ d := Nat.xor_lt_two_pow hr hr'
  have hq : q ^^^ q' = 0 := by
    apply Classical.byContradiction
    intro hne
    obtain ⟨lq, h1⟩ := Len.ex (q ^^^ q')
    obtain ⟨lb, h2⟩ := Len.ex b
    have p1 := h1.pos hne
    have hp := Nat.two_pow_pos d
    have p2 := h2.pos (by omega)
    have h3 := cl_len _ lq h1 p1 b lb h2 p2
    have hd : d < lb := by
      apply Nat.lt_of_not_le
      intro hle
      have : 2 ^ lb ≤ 2 ^ d := Nat.pow_le_pow_right (by omega) hle
      have := h2.1
      omega
    rcases h3.2 with e | e
    · omega
    · have : 2 ^ d ≤ 2 ^ (lq + lb - 1 - 1) := Nat.pow_le_pow_right (by omega) (by omega)
      rw [hx] at e
      omega
  refine ⟨?_, xor_eq_zero hq⟩
  rw [hq, cl_zero_left] at hx
  exact xor_eq_zero hx.symm
end Go.Proofs.YtbkeogllicgbaaaDoor.Gf
