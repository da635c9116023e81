/- The order of places in plain Lean: each place once, column by column; what the three functions that are handed to each make of it. Conditions: the places are at most 65536, the rows at most 64. -/
import Derived.Test.YtdakfabdegiboaaQ1
namespace Go.Proofs.Ytdakfabdegiboaa.Pure
open Go.RowKit Go.Proofs.Ytdakfabdegiboaa.Q Go.Proofs.YtdakfabdegiboaaW.PrintWords Go.Proofs.YtdakfabdegiboaaW.PrintLast

theorem wf_i64 {n : Int} (h : (Lit.int .i64 n).wf = true) : -9223372036854775808 ≤ n ∧ n ≤ 9223372036854775807 := by
  simp [Lit.wf, IntKind.min, IntKind.max, IntKind.signed, IntKind.bits] at h
  exact h
theorem wr_id {n : Int} (h0 : -9223372036854775808 ≤ n) (h1 : n ≤ 9223372036854775807) : wrap64 n = n := by unfold wrap64; omega

/-- The places of column c from row r on. -/
def colF (n h c : Int) : Int → Nat → List Int
  | _, 0 => []
  | r, m + 1 => (if r * h + c < n then [r * h + c] else []) ++ colF n h c (r + 1) m
/-- The places from column c on. -/
def ordF (n h : Int) (b : Nat) : Int → Nat → List Int
  | _, 0 => []
  | c, m + 1 => colF n h c 0 b ++ ordF n h b (c + 1) m

theorem prod_le {r h : Int} (h0 : 0 ≤ r) (h1 : r ≤ 64) (h2 : 0 ≤ h) (h3 : h ≤ 70000) : 0 ≤ r * h ∧ r * h ≤ 4480000 := by
  refine ⟨Int.mul_nonneg h0 h2, ?_⟩
  have := Int.mul_le_mul h1 h3 h2 (show (0:Int) ≤ 64 by omega)
  omega

theorem each_col {σ : Type} (d : σ → Int → Option σ) (n h c : Int) (b : Nat) (hb : b ≤ 64) (h2 : 0 ≤ h) (h3 : h ≤ 70000) (c0 : 0 ≤ c) (c1 : c ≤ 70000) :
    ∀ (m k : Nat) (s : σ) (r : Int), 0 ≤ r → r + m = b → each.l1 d n b h (k + m + 1) s c r = ((colF n h c r m).foldlM d s).bind fun s2 => each.l0 d n b h k s2 (c + 1) := by
  intro m
  induction m with
  | zero =>
    intro k s r hr hm
    show each.l1 d n b h (k + 1) s c r = _
    rw [each.l1, if_neg (by omega), wr_id (by omega) (by omega)]
    rfl
  | succ m ih =>
    intro k s r hr hm
    show each.l1 d n b h ((k + m + 1) + 1) s c r = _
    obtain ⟨p0, p1⟩ := prod_le hr (show r ≤ 64 by omega) h2 h3
    rw [each.l1, if_pos (by omega), wr_id (n := r * h) (by omega) (by omega), wr_id (n := r * h + c) (by omega) (by omega), wr_id (n := r + 1) (by omega) (by omega)]
    by_cases hlt : r * h + c < n
    · rw [if_pos hlt, colF, if_pos hlt]
      show _ = ((([r * h + c] ++ colF n h c (r + 1) m).foldlM d s)).bind _
      rw [List.singleton_append, List.foldlM_cons]
      show _ = ((d s (r * h + c)).bind fun s2 => (colF n h c (r + 1) m).foldlM d s2).bind _
      cases e : d s (r * h + c) with
      | none => rfl
      | some s2 => exact ih k s2 (r + 1) (by omega) (by omega)
    · rw [if_neg hlt, colF, if_neg hlt]
      exact ih k s (r + 1) (by omega) (by omega)

theorem each_ord {σ : Type} (d : σ → Int → Option σ) (n h : Int) (b : Nat) (hb : b ≤ 64) (h2 : 0 ≤ h) (h3 : h ≤ 70000) :
    ∀ (m k : Nat) (s : σ) (c : Int), 0 ≤ c → c + m = h → each.l0 d n b h (k + m * (b + 2) + 1) s c = (ordF n h b c m).foldlM d s := by
  intro m
  induction m with
  | zero =>
    intro k s c hc hm
    rw [each.l0, if_neg (by omega)]
    rfl
  | succ m ih =>
    intro k s c hc hm
    rw [each.l0, if_pos (by omega)]
    rw [show k + (m + 1) * (b + 2) = (k + m * (b + 2) + 1) + b + 1 by rw [Nat.add_mul]; omega]
    rw [each_col d n h c b hb h2 h3 hc (by omega) b _ s 0 (by omega) (by omega), ordF, List.foldlM_append]
    show _ = ((colF n h c 0 b).foldlM d s).bind fun s2 => (ordF n h b (c + 1) m).foldlM d s2
    congr 1
    funext s2
    exact ih k s2 (c + 1) (by omega) (by omega)

theorem mem_col (n h c : Int) : ∀ (m : Nat) (r x : Int), x ∈ colF n h c r m ↔ ∃ j : Int, r ≤ j ∧ j < r + m ∧ x = j * h + c ∧ x < n := by
  intro m
  induction m with
  | zero => intro r x; simp only [colF, List.not_mem_nil, false_iff]; rintro ⟨j, h0, h1, _⟩; omega
  | succ m ih =>
    intro r x
    rw [colF, List.mem_append, ih]
    constructor
    · rintro (hx | ⟨j, h0, h1, h2, h3⟩)
      · by_cases hlt : r * h + c < n
        · rw [if_pos hlt, List.mem_singleton] at hx
          exact ⟨r, by omega, by omega, hx, by omega⟩
        · rw [if_neg hlt] at hx; cases hx
      · exact ⟨j, by omega, by omega, h2, h3⟩
    · rintro ⟨j, h0, h1, h2, h3⟩
      by_cases e : j = r
      · subst e
        left
        rw [if_pos (by omega), List.mem_singleton]; exact h2
      · right; exact ⟨j, by omega, by omega, h2, h3⟩

theorem mem_ord (n h : Int) (b : Nat) : ∀ (m : Nat) (c x : Int), x ∈ ordF n h b c m ↔ ∃ i j : Int, c ≤ i ∧ i < c + m ∧ 0 ≤ j ∧ j < b ∧ x = j * h + i ∧ x < n := by
  intro m
  induction m with
  | zero => intro c x; simp only [ordF, List.not_mem_nil, false_iff]; rintro ⟨i, j, h0, h1, _⟩; omega
  | succ m ih =>
    intro c x
    rw [ordF, List.mem_append, ih, mem_col]
    constructor
    · rintro (⟨j, h0, h1, h2, h3⟩ | ⟨i, j, h0, h1, h2⟩)
      · exact ⟨c, j, by omega, by omega, by omega, by omega, h2, h3⟩
      · exact ⟨i, j, by omega, by omega, h2⟩
    · rintro ⟨i, j, h0, h1, h2, h3, h4⟩
      by_cases e : i = c
      · subst e; left; exact ⟨j, by omega, by omega, h4⟩
      · right; exact ⟨i, j, by omega, by omega, h2, h3, h4⟩

theorem split_eq {h i i' j j' : Int} (h0 : 0 ≤ i) (h1 : i < h) (h2 : 0 ≤ i') (h3 : i' < h) (e : j * h + i = j' * h + i') : i = i' ∧ j = j' := by
  have e1 := congrArg (· % h) e
  simp only [Int.mul_add_emod_self_right] at e1
  rw [Int.emod_eq_of_lt h0 h1, Int.emod_eq_of_lt h2 h3] at e1
  refine ⟨e1, ?_⟩
  subst e1
  have e2 : j * h = j' * h := by omega
  exact Int.eq_of_mul_eq_mul_right (by omega) e2

theorem nodup_col (n h c : Int) (c0 : 0 ≤ c) (c1 : c < h) : ∀ (m : Nat) (r : Int), (colF n h c r m).Nodup := by
  intro m
  induction m with
  | zero => intro r; exact List.Pairwise.nil
  | succ m ih =>
    intro r
    rw [colF]
    by_cases hlt : r * h + c < n
    · rw [if_pos hlt, List.singleton_append, List.nodup_cons]
      refine ⟨?_, ih _⟩
      rw [mem_col]
      rintro ⟨j, h0, h1, h2, h3⟩
      have := (split_eq c0 c1 c0 c1 h2).2
      omega
    · rw [if_neg hlt]; exact ih _

theorem nodup_ord (n h : Int) (b : Nat) : ∀ (m : Nat) (c : Int), 0 ≤ c → c + m ≤ h → (ordF n h b c m).Nodup := by
  intro m
  induction m with
  | zero => intro c _ _; exact List.Pairwise.nil
  | succ m ih =>
    intro c c0 c1
    rw [ordF, List.nodup_append]
    refine ⟨nodup_col n h c c0 (by omega) b 0, ih _ (by omega) (by omega), ?_⟩
    intro x hx y hy e
    subst e
    rw [mem_col] at hx
    rw [mem_ord] at hy
    obtain ⟨j, h0, h1, h2, h3⟩ := hx
    obtain ⟨i, j', g0, g1, g2, g3, g4, g5⟩ := hy
    have := (split_eq c0 (by omega) (by omega) (by omega) (h2.symm.trans g4)).1
    omega

/-- The order of n places in b rows. -/
def ordN (n : Nat) (b : Nat) : List Int := ordF n ((n + b - 1) / b : Nat) b 0 ((n + b - 1) / b)

theorem mem_ordN (n b : Nat) (hb : 0 < b) (x : Int) : x ∈ ordN n b ↔ 0 ≤ x ∧ x < n := by
  unfold ordN
  rw [mem_ord]
  constructor
  · rintro ⟨i, j, h0, h1, h2, h3, h4, h5⟩
    have := Int.mul_nonneg h2 (show (0:Int) ≤ ((n + b - 1) / b : Nat) by omega)
    omega
  · rintro ⟨h0, h1⟩
    obtain ⟨y, rfl⟩ := Int.eq_ofNat_of_zero_le h0
    have hy : y < n := by omega
    generalize eh : (n + b - 1) / b = h
    have hnb : n ≤ b * h := by
      have := Nat.div_add_mod (n + b - 1) b
      rw [eh] at this
      have := Nat.mod_lt (n + b - 1) hb
      omega
    have hpos : 0 < h := by
      rcases Nat.eq_zero_or_pos h with e | e
      · rw [e] at hnb; omega
      · exact e
    have d1 := Nat.div_add_mod y h
    have d2 := Nat.mod_lt y hpos
    have d3 : y / h < b := (Nat.div_lt_iff_lt_mul hpos).mpr (by omega)
    generalize y / h = q at d1 d3
    generalize y % h = t at d1 d2
    refine ⟨(t : Int), (q : Int), by omega, by omega, by omega, by omega, ?_, by omega⟩
    have : (q : Int) * (h : Int) = ((h * q : Nat) : Int) := by rw [Nat.mul_comm, Int.natCast_mul]
    rw [this]
    omega

theorem nodup_ordN (n b : Nat) : (ordN n b).Nodup := by
  unfold ordN
  generalize (n + b - 1) / b = h
  cases h with
  | succ h => exact nodup_ord _ _ b _ 0 (by omega) (by omega)
  | zero => exact List.Pairwise.nil

theorem len_ordN (n b : Nat) (hb : 0 < b) : (ordN n b).length = n := by
  have hN : ((List.range n).map (fun i : Nat => (i : Int))).Nodup := by
    rw [List.Nodup, List.pairwise_map]
    exact List.nodup_range.imp (fun h e => h (by omega))
  have hp := (List.perm_ext_iff_of_nodup (nodup_ordN n b) hN).mpr (fun x => by
    rw [mem_ordN n b hb, List.mem_map]
    constructor
    · rintro ⟨h0, h1⟩; exact ⟨x.toNat, List.mem_range.mpr (by omega), by omega⟩
    · rintro ⟨i, hi, rfl⟩; have := List.mem_range.mp hi; omega)
  rw [hp.length_eq, List.length_map, List.length_range]

theorem getD_get {l : List Int} {i : Nat} (h : i < l.length) : l.getD i 0 = l[i] := by
  rw [List.getD_eq_getElem?_getD, List.getElem?_eq_getElem h]; rfl
theorem ordN_at (n b : Nat) (hb : 0 < b) {i : Nat} (hi : i < n) : 0 ≤ (ordN n b).getD i 0 ∧ (ordN n b).getD i 0 < n := by
  have : (ordN n b).getD i 0 ∈ ordN n b := by
    rw [getD_get (by rw [len_ordN n b hb]; exact hi)]
    exact List.getElem_mem _
  exact (mem_ordN n b hb _).mp this
theorem ordN_inj (n b : Nat) (hb : 0 < b) {i j : Nat} (hi : i < n) (hj : j < n) (e : (ordN n b).getD i 0 = (ordN n b).getD j 0) : i = j := by
  rw [getD_get (by rw [len_ordN n b hb]; exact hi), getD_get (by rw [len_ordN n b hb]; exact hj)] at e
  exact (List.getElem_inj (nodup_ordN n b)).mp e
theorem ordN_onto (n b : Nat) (hb : 0 < b) {j : Nat} (hj : j < n) : ∃ i, i < n ∧ (ordN n b).getD i 0 = j := by
  have : (j : Int) ∈ ordN n b := (mem_ordN n b hb _).mpr (by omega)
  obtain ⟨i, hi, e⟩ := List.getElem_of_mem this
  refine ⟨i, by rw [len_ordN n b hb] at hi; exact hi, ?_⟩
  rw [getD_get hi, e]

theorem foldO : ∀ (l s : List Int), s.length + l.length ≤ 100000 → l.foldlM dO s = some (s ++ l) := by
  intro l
  induction l with
  | nil => intro s _; simp
  | cons x l ih =>
    intro s hs
    rw [List.length_cons] at hs
    rw [List.foldlM_cons]
    have : dO s x = some (s ++ [x]) := by unfold dO; rw [if_pos (by omega)]
    rw [this]
    show l.foldlM dO (s ++ [x]) = _
    rw [ih _ (by rw [List.length_append, List.length_singleton]; omega), List.append_assoc]; rfl

theorem of_right (n b : Nat) (hn : n ≤ 65536) (h0 : 0 < b) (hb : b ≤ 64) : shuffle_of.f n b = some ((n : Int), (b : Int), (((n + b - 1) / b : Nat) : Int), 0) := by
  unfold shuffle_of.f
  rw [if_neg (by omega), if_neg (by omega), if_neg (by omega), if_neg (by omega), if_neg (by omega)]
  rw [wr_id (n := (n : Int) + b) (by omega) (by omega), wr_id (n := (n : Int) + b - 1) (by omega) (by omega)]
  have e : Int.tdiv ((n : Int) + b - 1) b = (((n + b - 1) / b : Nat) : Int) := by
    rw [show ((n : Int) + b - 1) = ((n + b - 1 : Nat) : Int) by omega]
    exact (Int.ofNat_tdiv _ _).symm
  rw [e]
  have : (n + b - 1) / b ≤ n + b - 1 := Nat.div_le_self _ _
  generalize (n + b - 1) / b = h at *
  rw [wr_id (by omega) (by omega)]
theorem of_wrong (a b : Int) (h : ¬ (0 ≤ a ∧ a ≤ 65536 ∧ 1 ≤ b ∧ b ≤ 64)) : shuffle_of.f a b = some (0, 0, 0, 1) := by
  unfold shuffle_of.f
  split
  · rfl
  split
  · rfl
  split
  · rfl
  split
  · rfl
  omega

theorem each_N {σ : Type} (d : σ → Int → Option σ) (n b : Nat) (hn : n ≤ 65536) (h0 : 0 < b) (hb : b ≤ 64) (s : σ) (k : Nat) (hk : 5000000 ≤ k) :
    each.l0 d n b (((n + b - 1) / b : Nat) : Int) k s 0 = (ordN n b).foldlM d s := by
  have hle : (n + b - 1) / b ≤ n + b - 1 := Nat.div_le_self _ _
  have hm : (n + b - 1) / b * (b + 2) ≤ 65600 * 66 := Nat.mul_le_mul (by omega) (by omega)
  unfold ordN
  generalize (n + b - 1) / b = h at *
  rw [← each_ord d n h b hb (by omega) (by omega) h (k - 1 - h * (b + 2)) s 0 (by omega) (by omega)]
  congr 1
  omega

theorem order_right (n b : Nat) (hn : n ≤ 65536) (h0 : 0 < b) (hb : b ≤ 64) (k : Nat) (hk : 5000000 ≤ k) : shuffle_Order.f k n b = some (ordN n b, 0) := by
  unfold shuffle_Order.f
  rw [of_right n b hn h0 hb]
  show (if (0 : Int) = 0 then ((each.l0 dO n b (((n + b - 1) / b : Nat) : Int) k [] 0).bind fun xs => some (xs, (0 : Int))) else some ([], 0)) = _
  rw [if_pos rfl, each_N dO n b hn h0 hb [] k hk, foldO _ _ (by rw [len_ordN n b h0]; simp; omega)]
  rfl
theorem order_wrong (a b : Int) (h : ¬ (0 ≤ a ∧ a ≤ 65536 ∧ 1 ≤ b ∧ b ≤ 64)) (k : Nat) : shuffle_Order.f k a b = some ([], 1) := by
  unfold shuffle_Order.f
  rw [of_wrong a b h]
  rfl

theorem shuffles_true : shuttlelaw33_shuffles.f 100 = some true := by decide +kernel
theorem shuffles_at (k : Nat) (hk : 100 ≤ k) : shuttlelaw33_shuffles.f k = some true := at_rounds (g := fun k => shuttlelaw33_shuffles.f k) (fun k => shuttlelaw33_shuffles.mono k) hk shuffles_true

/-- The places written in the order: row o holds v i behind, for the i-th place o. -/
def scat (v : Nat → Int) : List Int → List Int → Nat → List Int
  | acc, [], _ => acc
  | acc, o :: os, i => scat v (acc.set o.toNat (v i)) os (i + 1)
theorem scat_len (v : Nat → Int) : ∀ (os acc : List Int) (i : Nat), (scat v acc os i).length = acc.length := by
  intro os
  induction os with
  | nil => intro acc i; rfl
  | cons o os ih => intro acc i; rw [scat, ih, List.length_set]
theorem scat_off (v : Nat → Int) : ∀ (os acc : List Int) (i : Nat) (t : Int), (∀ o ∈ os, 0 ≤ o) → 0 ≤ t → t ∉ os → (scat v acc os i).getD t.toNat 0 = acc.getD t.toNat 0 := by
  intro os
  induction os with
  | nil => intro acc i t _ _ _; rfl
  | cons o os ih =>
    intro acc i t hp ht hn
    rw [List.mem_cons, not_or] at hn
    have h0 := hp o (List.mem_cons_self)
    rw [scat, ih _ _ _ (fun x hx => hp x (List.mem_cons_of_mem _ hx)) ht hn.2]
    rw [List.getD_eq_getElem?_getD, List.getD_eq_getElem?_getD, List.getElem?_set, if_neg (by omega)]
theorem scat_on (v : Nat → Int) : ∀ (os acc : List Int) (i j : Nat), os.Nodup → (∀ o ∈ os, 0 ≤ o ∧ o < acc.length) → j < os.length → (scat v acc os i).getD (os.getD j 0).toNat 0 = v (i + j) := by
  intro os
  induction os with
  | nil => intro acc i j _ _ hj; simp at hj
  | cons o os ih =>
    intro acc i j hnd hp hj
    rw [List.nodup_cons] at hnd
    have h0 := hp o (List.mem_cons_self)
    cases j with
    | zero =>
      rw [scat]
      show (scat v _ os (i + 1)).getD o.toNat 0 = v i
      rw [scat_off v os _ _ o (fun x hx => (hp x (List.mem_cons_of_mem _ hx)).1) h0.1 hnd.1]
      rw [List.getD_eq_getElem?_getD, List.getElem?_set, if_pos rfl, if_pos (by omega)]
      rfl
    | succ j =>
      rw [scat, List.getD_cons_succ, ih _ _ _ hnd.2 (fun x hx => by rw [List.length_set]; exact hp x (List.mem_cons_of_mem _ hx)) (by simpa using hj)]
      congr 1
      omega
end Go.Proofs.Ytdakfabdegiboaa.Pure
