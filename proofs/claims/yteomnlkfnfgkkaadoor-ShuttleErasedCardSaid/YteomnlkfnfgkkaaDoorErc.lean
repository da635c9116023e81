/- What the list holds of which all bits of three streams are unknown, and the contracts of the callees of ShuttleErased in the form in which its walk takes them. Condition: the taps lie as their initialiser lays them. -/
import Derived.Test.YteomnlkfnfgkkaaDoorEra
import Derived.Test.YteomnlkfnfgkkaaDoorLnk
import Derived.Test.YteomnlkfnfgkkaaDoorPth
import Derived.Test.YteomnlkfnfgkkaaDoorStands
namespace Go.Proofs.YteomnlkfnfgkkaaDoor.Pure
open Go.RowKit Go.Proofs.YteomnlkfnfgkkaaDoor.Q Go.Proofs.YteomnlkfnfgkkaaDoorW.PrintWords Go.Proofs.YteomnlkfnfgkkaaDoorW.PrintLast Go.Proofs.YteomnlkfnfgkkaaDoorW.PrintMore
set_option linter.unusedVariables false
/-- Which stream is kept at a step. -/
def kpL (l1 : List Int) (t : Nat) : Nat := if l1.length = 0 then 0 else (rd l1 ((t % l1.length : Nat) : Int) % 4).toNat
theorem kpL_lt (l1 : List Int) (t : Nat) : kpL l1 t < 4 := by unfold kpL; split <;> omega
theorem kpL_none {l1 : List Int} (h : l1.length = 0) (t : Nat) : kpL l1 t = 0 := by unfold kpL; rw [if_pos h]
theorem kpL_some {l1 : List Int} (h : 0 < l1.length) (t : Nat) : ((kpL l1 t : Nat) : Int) = rd l1 ((t % l1.length : Nat) : Int) % 4 := by unfold kpL; rw [if_neg (by omega)]; omega
/-- The list behind so many rounds: what isn't kept is unknown. -/
def xS (s : List Int) (kp : Nat → Nat) : Nat → List Int
  | 0 => s
  | i + 1 => if i % 4 = kp (i / 4) then xS s kp i else (xS s kp i).set i 0
theorem xS_len (s : List Int) (kp : Nat → Nat) : ∀ i, (xS s kp i).length = s.length
  | 0 => rfl
  | i + 1 => by
    rw [xS]
    split
    · exact xS_len s kp i
    · rw [List.length_set]; exact xS_len s kp i
theorem rd_nat (xs : List Int) (j : Nat) : rd xs (j : Int) = xs.getD j 0 := by unfold rd; rw [Int.toNat_natCast]
theorem xS_rd (s : List Int) (kp : Nat → Nat) (j : Nat) (hj : j < s.length) : ∀ i, rd (xS s kp i) (j : Int) = if j < i ∧ ¬ j % 4 = kp (j / 4) then 0 else rd s (j : Int)
  | 0 => by rw [if_neg (by omega)]; rfl
  | i + 1 => by
    have ih := xS_rd s kp j hj i
    rw [xS]
    split
    · rename_i h
      rw [ih]
      by_cases e : j = i
      · subst e
        rw [if_neg (by omega), if_neg (by rintro ⟨_, g⟩; exact g h)]
      · by_cases g : j < i ∧ ¬ j % 4 = kp (j / 4)
        · rw [if_pos g, if_pos ⟨by omega, g.2⟩]
        · rw [if_neg g, if_neg (by rintro ⟨g1, g2⟩; exact g ⟨by omega, g2⟩)]
    · rename_i h
      by_cases e : j = i
      · subst e
        rw [if_pos ⟨by omega, h⟩, rd_nat, List.getD_eq_getElem?_getD, List.getElem?_set_self (by rw [xS_len]; exact hj)]
        rfl
      · rw [rd_nat, List.getD_eq_getElem?_getD, List.getElem?_set_ne (by omega), ← List.getD_eq_getElem?_getD, ← rd_nat, ih]
        by_cases g : j < i ∧ ¬ j % 4 = kp (j / 4)
        · rw [if_pos g, if_pos ⟨by omega, g.2⟩]
        · rw [if_neg g, if_neg (by rintro ⟨g1, g2⟩; exact g ⟨by omega, g2⟩)]
theorem four_rd (x : Nat) : ∀ r, r < 4 → (fourL x).getD r 0 = ob x r
  | 0, _ => by rw [fourL, List.getD_cons_zero]
  | 1, _ => by rw [fourL, List.getD_cons_succ, List.getD_cons_zero]
  | 2, _ => by rw [fourL, List.getD_cons_succ, List.getD_cons_succ, List.getD_cons_zero]
  | 3, _ => by rw [fourL, List.getD_cons_succ, List.getD_cons_succ, List.getD_cons_succ, List.getD_cons_zero]
  | r + 4, h => by omega
theorem code_rd (l : List Int) (j T : Nat) : j < 4 * T → rd (codeL l T) (j : Int) = cb l (j / 4) (j % 4) := by
  induction T with
  | zero => intro h; omega
  | succ T ih =>
    intro h
    rw [codeL]
    rcases Nat.lt_or_ge j (4 * T) with g | g
    · rw [← ih g, rd_nat, rd_nat, List.getD_eq_getElem?_getD, List.getElem?_append_left (by rw [codeL_len]; exact g), ← List.getD_eq_getElem?_getD]
    · obtain ⟨r, hr⟩ : ∃ r, j = 4 * T + r := ⟨j - 4 * T, by omega⟩
      have hr4 : r < 4 := by omega
      have e1 : j - 4 * T = r := by omega
      have e2 : j / 4 = T := by omega
      have e3 : j % 4 = r := by omega
      rw [rd_nat, List.getD_eq_getElem?_getD, List.getElem?_append_right (by rw [codeL_len]; exact g), codeL_len, e1, e2, e3, ← List.getD_eq_getElem?_getD, four_rd _ r hr4, cb]
theorem map_rd (xs : List Int) (j : Nat) (h : j < xs.length) : rd (xs.map sg) (j : Int) = sg (rd xs (j : Int)) := by
  rw [rd_at _ j (by rw [List.length_map]; exact h), rd_at _ j h, List.getElem_map]
theorem xN_is (l : List Int) (kp : Nat → Nat) (T N j : Nat) (hN : 4 * T = N) (hj : j < N) : rd (xS ((codeL l T).map sg) kp N) (j : Int) = vK l kp j := by
  have h1 : j < (codeL l T).length := by rw [codeL_len]; omega
  rw [xS_rd _ _ _ (by rw [List.length_map]; exact h1), map_rd _ _ h1, code_rd l j T (by rw [hN]; exact hj)]
  unfold vK
  by_cases g : j % 4 = kp (j / 4)
  · rw [if_pos g, if_neg (by rintro ⟨_, g2⟩; exact g2 g)]
  · rw [if_neg g, if_pos ⟨hj, g⟩]
theorem vK_in (l : List Int) (kp : Nat → Nat) (j : Nat) : -31 ≤ vK l kp j ∧ vK l kp j ≤ 31 := by
  unfold vK
  split
  · rcases sg_two (cb l (j / 4) (j % 4)) with e | e <;> rw [e] <;> decide
  · decide
end Go.Proofs.YteomnlkfnfgkkaaDoor.Pure
namespace Go.Proofs.YteomnlkfnfgkkaaDoor.Q
open Go.RowKit Go.Proofs.YteomnlkfnfgkkaaDoorW.PrintWords Go.Proofs.YteomnlkfnfgkkaaDoorW.PrintLast Go.Proofs.YteomnlkfnfgkkaaDoorW.PrintMore
open Go.Proofs.YteomnlkfnfgkkaaDoor.Pure
set_option linter.unusedVariables false
theorem cut_c (A : Option Addr) (c : Nat) (l0 x : List Int) (W : World) (hr : Kd.C (Kd.int .u8) W A l0.length l0) (hc : l0.length ≤ c) (hx : l0.take 8 = x) :
    Calls Tryd.prog 5 #[.slice A l0.length c, .int .i64 8] W fun e w' => ∃ A' c', e = .returned (.slice A' x.length c') ∧ Kd.R (Kd.int .u8) 5 w' W.heap.size (fun _ => True) (.slice A' x.length c') x ∧ Below W.heap.size W w' := by
  refine (shuttletop_cut.calls A c l0 8 x W hr hc (by rw [cut_f, hx])).mono ?_
  rintro e w' ⟨v, rfl, h, hb⟩
  obtain ⟨A', c', rfl⟩ := Kd.R_slice h
  exact ⟨A', c', rfl, h, hb⟩
theorem of_c (A : Option Addr) (c n : Nat) (x l : List Int) (W : World) {base : Nat} {ok : Nat → Prop} (hr : Kd.R (Kd.int .u8) 5 W base ok (.slice A x.length c) x) (hl : bits_Of.f 500 x = some l) (hn : l.length = n) :
    Calls Tryd.prog 4 #[.slice A x.length c] W fun e w' => ∃ A' c', e = .returned (.slice A' n c') ∧ Kd.R (Kd.int .u8) 5 w' W.heap.size (fun _ => True) (.slice A' n c') l ∧ Below W.heap.size W w' := by
  subst hn
  have h := Kd.R_reads' hr
  refine (bits_Of.calls 500 A c x l W h.2.2 h.2.1 hl).mono ?_
  rintro e w' ⟨v, rfl, h, hb⟩
  obtain ⟨A', c', rfl⟩ := Kd.R_slice h
  exact ⟨A', c', rfl, h, hb⟩
/-- What the walk knows of the bits. -/
structure Lk (l : List Int) (n T N : Nat) : Prop where
  len : l.length = n
  top : n ≤ 64
  steps : n + 6 = T
  cells : 4 * T = N
  bits : ∀ x ∈ l, 0 ≤ x ∧ x ≤ 1
theorem code_c (A : Option Addr) (c n T N : Nat) (l : List Int) (W : World) {base : Nat} {ok : Nat → Prop} (hT : Aside0 (TapOk W)) (hr : Kd.R (Kd.int .u8) 5 W base ok (.slice A n c) l) (k : Lk l n T N) :
    Calls Tryd.prog 6 #[.slice A n c] W fun e w' => ∃ A' c', e = .returned (.tuple #[.slice A' N c', .int .i64 0]) ∧ Kd.R (Kd.int .u8) 5 w' W.heap.size (fun _ => True) (.slice A' N c') (codeL l T) ∧ Below W.heap.size W w' := by
  have h := Kd.R_reads' hr
  obtain ⟨rfl, ht, rfl, rfl, hb⟩ := k
  refine (code_calls W A c l hT h.2.2 (by omega) hb).mono ?_
  rintro e w' ⟨v, rfl, h, hb⟩
  obtain ⟨A', c', rfl⟩ := Kd.R_slice h
  rw [codeL_len] at h ⊢
  exact ⟨A', c', rfl, h, hb⟩
theorem path_c (A : Option Addr) (c n T N : Nat) (l : List Int) (W : World) {base : Nat} {ok : Nat → Prop} (hT : Aside0 (TapOk W)) (hr : Kd.R (Kd.int .u8) 5 W base ok (.slice A n c) l) (k : Lk l n T N) :
    Calls Tryd.prog 7 #[.slice A n c] W fun e w' => ∃ A' c', e = .returned (.tuple #[.slice A' T c', .int .i64 0]) ∧ Below W.heap.size W w' := by
  have h := Kd.R_reads' hr
  obtain ⟨rfl, ht, rfl, rfl, hb⟩ := k
  exact path_calls W A c l hT h.2.2 (by omega) hb
theorem all_c (A : Option Addr) (c n T N : Nat) (l : List Int) (W : World) {base : Nat} {ok : Nat → Prop} (hr : Kd.R (Kd.int .u8) 5 W base ok (.slice A N c) (codeL l T)) (k : Lk l n T N) :
    Calls Tryd.prog 9 #[.slice A N c] W fun e w' => ∃ g c', e = .returned (.slice (some ⟨g, 0, none⟩) N c') ∧ W.heap.size ≤ g ∧ Kd.R (Kd.int .i64) 3 w' W.heap.size (fun _ => True) (.slice (some ⟨g, 0, none⟩) N c') ((codeL l T).map sg) ∧ Below W.heap.size W w' := by
  have h := Kd.R_reads' hr
  obtain ⟨rfl, ht, rfl, rfl, hb⟩ := k
  have hl := codeL_len l (l.length + 6)
  rw [← hl] at h ⊢
  refine (soft_All.calls 1001 A c (codeL l (l.length + 6)) _ W h.2.2 h.2.1 (all_f _ (by omega))).mono ?_
  rintro e w' ⟨v, rfl, h, hb⟩
  obtain ⟨g, c', rfl, hg, _, _⟩ := Kd.R_form h (by rw [List.length_map]; omega)
  rw [List.length_map] at h ⊢
  exact ⟨g, c', rfl, hg, h, hb⟩
theorem dec_c (g c n T N : Nat) (l : List Int) (kp : Nat → Nat) (W : World) {base : Nat} {ok : Nat → Prop} (hT : Aside0 (TapOk W)) (hr : Kd.R (Kd.int .i64) 3 W base ok (.slice (some ⟨g, 0, none⟩) N c) (xS ((codeL l T).map sg) kp N)) (k : Lk l n T N) (hk : ∀ t, kp t < 4) :
    Calls Tryd.prog 10 #[.slice (some ⟨g, 0, none⟩) N c] W fun e w' => ∃ A' c', e = .returned (.tuple #[.slice A' n c', .int .i64 (T : Int), .int .i64 0]) ∧ Kd.R (Kd.int .u8) 5 w' W.heap.size (fun _ => True) (.slice A' n c') l ∧ Below W.heap.size W w' := by
  have h := Kd.R_reads' hr
  have hE := era_law l kp n T k.bits k.len k.steps (by have := k.top; have := k.steps; omega) hk
  have hD := decode_calls W g 0 c n T N (vK l kp) hT ⟨k.steps, by have := k.top; have := k.steps; omega, k.cells, h.2.1⟩ (fun j hj => by
    have h1 := (Kd.R_celln (0 : Int) hr (j : Int) (Int.natCast_nonneg j) (by omega)).1
    rw [Int.toNat_natCast] at h1
    rw [Nat.zero_add]
    refine h1.trans ?_
    exact congrArg (fun z => some (Value.int .i64 z)) (xN_is l kp T N j k.cells hj)) (fun j hj => vK_in l kp j)
  rw [hE.1, hE.2] at hD
  refine hD.mono ?_
  rintro e w' ⟨v, rfl, h, hb⟩
  obtain ⟨A', c', rfl⟩ := Kd.R_slice h
  rw [k.len] at h ⊢
  exact ⟨A', c', rfl, h, hb⟩
end Go.Proofs.YteomnlkfnfgkkaaDoor.Q
