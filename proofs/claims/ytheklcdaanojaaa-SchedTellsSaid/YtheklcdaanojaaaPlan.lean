/- The walks of a plan's functions: New makes it, Next tells the versions of a try and counts, Tries and Sent tell the counts. Conditions: a burst of 1 to 4, small counts. -/
import Derived.Test.YtheklcdaanojaaaPSchedTellsx0
import Derived.Test.YtheklcdaanojaaaPSchedTellsx1
import Derived.Deep.RegionLaw
namespace Go.Proofs.Ytheklcdaanojaaa.Mine
open Go.RowKit Go.Proofs.Ytheklcdaanojaaa.PSchedTells Go.Proofs.YtheklcdaanojaaaW.PrintWords Go.Proofs.YtheklcdaanojaaaW.PrintLast Go.Proofs.YtheklcdaanojaaaW.PrintMore
attribute [local go_sem] max2_int min2_int max_two min_two max_three min_three max_four min_four   -- for this text's walks alone
set_option linter.unusedVariables false
set_option linter.unusedSimpArgs false
/-- A plan's block. -/
def plan (b t s : Int) : Obj := .cells #[.int .i64 b, .int .i64 t, .int .i64 s] 48 (0, 0)
/-- The versions of a try: so many from the s-th on, going round. -/
def vers (s : Int) (m : Nat) : List Int := List.map (fun i : Nat => Int.tmod (s + (i : Int)) 4) (List.range m)
theorem vers_succ (s : Int) (m : Nat) : vers s (m + 1) = vers s m ++ [Int.tmod (s + (m : Int)) 4] := by simp [vers, List.range_succ]
theorem vers_len (s : Int) (m : Nat) : (vers s m).length = m := by simp [vers]
/-- All blocks but one stay. -/
def KeepT (w w' : World) (g : Nat) : Prop := ∀ k o, w.heap[k]? = some o → k ≠ g → w'.heap[k]? = some o
theorem keepR {w w' : World} {g base : Nat} {b t s : Int} {v : Value} {xs : List Int} (h : Kd.R (Kd.int .i64) 3 w base (fun _ => True) v xs) (hb : w.heap[g]? = some (plan b t s)) (hk : KeepT w w' g) : Kd.R (Kd.int .i64) 3 w' base (fun _ => True) v xs :=
  Kd.R_mono (Kd.R_step (Kd.R_types h hb (by decide)) (fun k ho hlt => by
    have e : w.heap[k]? = some w.heap[k] := Array.getElem?_eq_getElem hlt
    rw [e]
    exact hk k _ e ho.2)) (fun _ _ => trivial)
set_option maxHeartbeats 8000000 in
set_option maxRecDepth 100000 in
theorem new_calls (b : Int) (h1 : 1 ≤ b) (h4 : b ≤ 4) (w : World) :
    Calls Try.prog 14 #[.int .i64 b] w fun e w' => ∃ g, e = .returned (.tuple #[.pointer (some ⟨g, 0, none⟩), .int .i64 0]) ∧ w.heap.size ≤ g ∧ w'.heap[g]? = some (plan b 0 0) ∧ Below w.heap.size w w' := by
  have HB := Aside0.mk (Below.refl w.heap.size w)
  have d1 : decide (b < 1) = false := decide_eq_false (by omega)
  have d2 : decide (4 < b) = false := decide_eq_false (by omega)
  clear h1 h4
  go_enter Try.func14, Try.ntmps14
  go_wp2_with (first | ((with_reducible refine gate_dst (N := 12) rfl ?_); refine box_event ?hg (N := 12) ?hd (cs := #[.int .i64 b, .int .i64 0, .int .i64 0]) (t := 48) ?hr ?_; (case hd => rfl); (case hg => rfl); (case hr => first | (go_simp; done) | (go_simp; rfl)); intro g hg w4 hbox hb; have n0_ := Aside0.mk (below_step HB.out hb); have BK := Aside0.mk hbox; have GE := Aside0.mk ((by rw [hg]; exact (below_size HB.out)) : w.heap.size ≤ g); clear HB; have HB := n0_; clear n0_; clear hb hbox hg))
  go_ret2
  exact ⟨g, rfl, GE.out, BK.out, HB.out⟩
set_option maxHeartbeats 8000000 in
set_option maxRecDepth 100000 in
theorem next_calls (w0 w : World) (g : Nat) (b t s : Int) (n : Nat) (hbk : w.heap[g]? = some (plan b t s)) (hb0 : Below w0.heap.size w0 w) (hle : w0.heap.size ≤ g) (b1 : 1 ≤ b) (b4 : b ≤ 4) (t0 : 0 ≤ t) (t1 : t ≤ 1000) (s0 : 0 ≤ s) (s1 : s ≤ 1000) (hn : (n : Int) = if t = 0 then b else 1) :
    Calls Try.prog 17 #[.pointer (some ⟨g, 0, none⟩)] w fun e w' => ∃ v, e = .returned v ∧ Kd.R (Kd.int .i64) 3 w' w0.heap.size (fun k => w.heap.size ≤ k) v (vers s n) ∧ w'.heap[g]? = some (plan b (t + 1) (s + n)) ∧ KeepT w w' g ∧ Below w0.heap.size w0 w' := by
  have n4 : n ≤ 4 := by split at hn <;> omega
  have BK := Aside0.mk hbk
  have HB := Aside0.mk hb0
  have GE := Aside0.mk hle
  have S0 := Aside0.mk s0
  have S1 := Aside0.mk s1
  have N4 := Aside0.mk n4
  have T1 : Aside0 (wrap64 (t + 1) = t + 1) := ⟨by unfold wrap64; omega⟩
  clear hbk hb0 hle s0 s1 n4
  have hcz0 : w.cell? ⟨g, 0, none⟩ = some (.int .i64 b) := (blk_cell BK.out 0).trans rfl
  have hcz1 : w.cell? ⟨g, 1, none⟩ = some (.int .i64 t) := (blk_cell BK.out 1).trans rfl
  have hfz1 := blk_frozen BK.out 1
  have hnn : ∃ nn : Int, (n : Int) = nn ∧ nn = if t = 0 then b else 1 := ⟨_, rfl, hn⟩
  obtain ⟨nn, e1, e2⟩ := hnn
  have EN := Aside0.mk e1
  clear e1 hn b1 b4 t0 t1
  by_cases c : t = 0
  · have c1 : (t == 0) = true := beq_iff_eq.mpr c
    rw [if_pos c] at e2
    subst e2
    clear c
    go_enter Try.func17, Try.ntmps17
    go_wp2
    have n0_ := Aside0.mk (blk_put (cs' := #[.int .i64 nn, .int .i64 (t + 1), .int .i64 s]) BK.out 1 (.int .i64 (wrap64 (t + 1))) (by rw [T1.out]; rfl))
    have n1_ := Aside0.mk (HB.out.setCell (p := ⟨g, 1, none⟩) GE.out (.int .i64 (wrap64 (t + 1))))
    have n2_ : Aside0 (KeepT w (w.setCell ⟨g, 1, none⟩ (.int .i64 (wrap64 (t + 1)))) g) := ⟨fun k o h hne => (Below.heap_setCell w ⟨g, 1, none⟩ _ k hne).trans h⟩
    clear BK HB hcz0 hcz1 hfz1
    have BK := n0_
    have HB := n1_
    have KT := n2_
    clear n0_ n1_ n2_
    have SZ : Aside0 (w.heap.size ≤ (w.setCell ⟨g, 1, none⟩ (.int .i64 (wrap64 (t + 1)))).heap.size) := ⟨by simp [World.setCell]⟩
    generalize w.setCell ⟨g, 1, none⟩ (.int .i64 (wrap64 (t + 1))) = wz at BK HB KT SZ ⊢
    go_loopg [4, 24] (n + 1) (fun kq v4 v24 w' => ∃ (i : Nat) (x : Int), v24 = .int .i64 x ∧ Aside0 (x = i ∧ i + kq = n + 1 ∧ i ≤ n) ∧ Aside0 (Kd.R (Kd.int .i64) 3 w' w0.heap.size (fun k => w.heap.size ≤ k) v4 (vers s i)) ∧ Aside0 (w.heap.size ≤ w'.heap.size) ∧ Aside0 (w'.heap[g]? = some (.cells #[.int .i64 nn, .int .i64 (t + 1), .int .i64 (s + x)] 48 (0, 0))) ∧ Aside0 (KeepT w w' g) ∧ Aside0 (Below w0.heap.size w0 w'))
    case atStart => exact ⟨0, 0, rfl, ⟨by omega⟩, ⟨Kd.R_nil _ _ _ _ _⟩, SZ, ⟨by rw [Int.add_zero]; exact BK.out⟩, KT, HB⟩
    case round =>
      clear BK HB KT SZ
      obtain ⟨i, x, rfl, HI, HO, SZ, BK, KT, HB⟩ := hrel
      cases gk with
      | zero => exact absurd HI.out (by omega)
      | succ k1 =>
        by_cases cl : x < nn
        · have c5 : decide (x < nn) = true := decide_eq_true cl
          have CL := Aside0.mk cl
          clear cl
          have hcz2 : wr.cell? ⟨g, 2, none⟩ = some (.int .i64 (s + x)) := (blk_cell BK.out 2).trans rfl
          have W1 : Aside0 (wrap64 (s + x + 1) = s + x + 1) := ⟨by have := S0.out; have := S1.out; have := HI.out; have := N4.out; unfold wrap64; omega⟩
          have W2 : Aside0 (wrap64 (x + 1) = x + 1) := ⟨by have := HI.out; have := N4.out; unfold wrap64; omega⟩
          have LM := Aside0.mk (show (vers s i).length < 10 by rw [vers_len]; have := HI.out; have := N4.out; omega)
          go_wp2_with (first | ((with_reducible refine gate_builtin (b := .append) (xs := #[.tmp 26, .tmp 32]) rfl ?_); at_builtin; refine Kd.R_append (Kd.int .i64) (w0 := w0) w0.heap.size rfl (.tmp 26) (.tmp 32) 35 3 (.int .i64 0) 8 rfl Try.underlying35 info3 rfl (by decide) (by omega) u4 (vers s i) (Int.tmod (s + x) 4) [.int .i64 (Int.tmod (s + x) 4)] (fun k => w.heap.size ≤ k) (fun _ => False) rfl rfl ?aP (fun _ hk => hk.elim) ?aF ?aO ?aB ?aS ?aL ?_; (case aP => exact rfl); (case aB => exact (by repeat (first | (with_reducible first | exact HB.out | apply below_alloc | apply pw_below_drewN | apply below_drew1 | refine below_set ?_ GE.out) | exact HB.out))); (case aF => exact (fun k_ hk => Nat.le_trans SZ.out hk)); (case aO => exact (by (with_reducible repeat (first | apply Kd.R_alloc | apply Kd.R_drewN | apply Kd.R_drew)); exact HO.out)); (case aS => exact (below_size HB.out)); (case aL => have := LM.out; omega); intro v123 w10 ho hb hg hat; have n0_ := Aside0.mk (hb); have n1_ := Aside0.mk (ho); have n2_ := Aside0.mk (blk_grown (g := g) (o := .cells #[.int .i64 nn, .int .i64 (t + 1), .int .i64 (s + x)] 48 (0, 0)) (by (with_reducible repeat (first | refine blk_drewN ?_ _ | refine blk_drew ?_ | refine blk_alloc ?_ _)); exact BK.out) hg (Kd.R_ne HO.out BK.out (by decide))); have n3_ : Aside0 (KeepT w w10 g) := ⟨fun k_ o_ h hne => blk_grown (g := k_) (o := o_) (by (with_reducible repeat (first | refine blk_drewN ?_ _ | refine blk_drew ?_ | refine blk_alloc ?_ _)); exact KT.out k_ o_ h hne) hg (fun e => by have h1_ := HO.out.1 k_ e.symm; have h2_ := blk_lt h; omega)⟩; have n4_ : Aside0 (w.heap.size ≤ w10.heap.size) := ⟨Nat.le_trans (by have := SZ.out; first | omega | (simp only [World.alloc, Array.size_push]; omega)) hg.size⟩; clear HB HO BK KT SZ; have HB := n0_; have HO := n1_; have BK := n2_; have KT := n3_; have SZ := n4_; clear n0_ n1_ n2_ n3_ n4_; clear ho hb hg hat; have hcy2 : w10.cell? ⟨g, 2, none⟩ = some (.int .i64 (s + x)) := (blk_cell BK.out 2).trans rfl; have hfy2 := blk_frozen BK.out 2))
          go_roundg k1
          case measure => omega
          case rel => exact ⟨i + 1, wrap64 (x + 1), rfl, ⟨by have := HI.out; have := CL.out; have := EN.out; rw [W2.out]; omega⟩, ⟨by rw [vers_succ, ← HI.out.1]; exact Kd.R_mono (Kd.R_far (p := ⟨g, 2, none⟩) (Kd.R_types HO.out BK.out (by decide)) (fun _ hk => hk.2) _) (fun _ h_ => h_.1)⟩, ⟨by have := SZ.out; simpa [World.setCell] using this⟩, ⟨blk_put BK.out 2 _ (by rw [W1.out, W2.out, Int.add_assoc]; rfl)⟩, ⟨fun k_ o_ h hne => (Below.heap_setCell _ ⟨g, 2, none⟩ _ k_ hne).trans (KT.out k_ o_ h hne)⟩, ⟨below_set HB.out GE.out⟩⟩
        · have c5 : decide (x < nn) = false := decide_eq_false cl
          have CL := Aside0.mk cl
          clear cl
          go_wp2
          go_ret
          have ei : i = n := by have := HI.out; have := CL.out; have := EN.out; omega
          subst ei
          exact ⟨_, rfl, HO.out, by rw [← HI.out.1]; exact BK.out, KT.out, HB.out⟩
  · have c1 : (t == 0) = false := beq_eq_false_iff_ne.mpr c
    rw [if_neg c] at e2
    subst e2
    clear c
    go_enter Try.func17, Try.ntmps17
    go_wp2
    have n0_ := Aside0.mk (blk_put (cs' := #[.int .i64 b, .int .i64 (t + 1), .int .i64 s]) BK.out 1 (.int .i64 (wrap64 (t + 1))) (by rw [T1.out]; rfl))
    have n1_ := Aside0.mk (HB.out.setCell (p := ⟨g, 1, none⟩) GE.out (.int .i64 (wrap64 (t + 1))))
    have n2_ : Aside0 (KeepT w (w.setCell ⟨g, 1, none⟩ (.int .i64 (wrap64 (t + 1)))) g) := ⟨fun k o h hne => (Below.heap_setCell w ⟨g, 1, none⟩ _ k hne).trans h⟩
    clear BK HB hcz0 hcz1 hfz1
    have BK := n0_
    have HB := n1_
    have KT := n2_
    clear n0_ n1_ n2_
    have SZ : Aside0 (w.heap.size ≤ (w.setCell ⟨g, 1, none⟩ (.int .i64 (wrap64 (t + 1)))).heap.size) := ⟨by simp [World.setCell]⟩
    generalize w.setCell ⟨g, 1, none⟩ (.int .i64 (wrap64 (t + 1))) = wz at BK HB KT SZ ⊢
    go_loopg [4, 24] (n + 1) (fun kq v4 v24 w' => ∃ (i : Nat) (x : Int), v24 = .int .i64 x ∧ Aside0 (x = i ∧ i + kq = n + 1 ∧ i ≤ n) ∧ Aside0 (Kd.R (Kd.int .i64) 3 w' w0.heap.size (fun k => w.heap.size ≤ k) v4 (vers s i)) ∧ Aside0 (w.heap.size ≤ w'.heap.size) ∧ Aside0 (w'.heap[g]? = some (.cells #[.int .i64 b, .int .i64 (t + 1), .int .i64 (s + x)] 48 (0, 0))) ∧ Aside0 (KeepT w w' g) ∧ Aside0 (Below w0.heap.size w0 w'))
    case atStart => exact ⟨0, 0, rfl, ⟨by omega⟩, ⟨Kd.R_nil _ _ _ _ _⟩, SZ, ⟨by rw [Int.add_zero]; exact BK.out⟩, KT, HB⟩
    case round =>
      clear BK HB KT SZ
      obtain ⟨i, x, rfl, HI, HO, SZ, BK, KT, HB⟩ := hrel
      cases gk with
      | zero => exact absurd HI.out (by omega)
      | succ k1 =>
        by_cases cl : x < 1
        · have c5 : decide (x < 1) = true := decide_eq_true cl
          have CL := Aside0.mk cl
          clear cl
          have hcz2 : wr.cell? ⟨g, 2, none⟩ = some (.int .i64 (s + x)) := (blk_cell BK.out 2).trans rfl
          have W1 : Aside0 (wrap64 (s + x + 1) = s + x + 1) := ⟨by have := S0.out; have := S1.out; have := HI.out; have := N4.out; unfold wrap64; omega⟩
          have W2 : Aside0 (wrap64 (x + 1) = x + 1) := ⟨by have := HI.out; have := N4.out; unfold wrap64; omega⟩
          have LM := Aside0.mk (show (vers s i).length < 10 by rw [vers_len]; have := HI.out; have := N4.out; omega)
          go_wp2_with (first | ((with_reducible refine gate_builtin (b := .append) (xs := #[.tmp 26, .tmp 32]) rfl ?_); at_builtin; refine Kd.R_append (Kd.int .i64) (w0 := w0) w0.heap.size rfl (.tmp 26) (.tmp 32) 35 3 (.int .i64 0) 8 rfl Try.underlying35 info3 rfl (by decide) (by omega) u4 (vers s i) (Int.tmod (s + x) 4) [.int .i64 (Int.tmod (s + x) 4)] (fun k => w.heap.size ≤ k) (fun _ => False) rfl rfl ?aP (fun _ hk => hk.elim) ?aF ?aO ?aB ?aS ?aL ?_; (case aP => exact rfl); (case aB => exact (by repeat (first | (with_reducible first | exact HB.out | apply below_alloc | apply pw_below_drewN | apply below_drew1 | refine below_set ?_ GE.out) | exact HB.out))); (case aF => exact (fun k_ hk => Nat.le_trans SZ.out hk)); (case aO => exact (by (with_reducible repeat (first | apply Kd.R_alloc | apply Kd.R_drewN | apply Kd.R_drew)); exact HO.out)); (case aS => exact (below_size HB.out)); (case aL => have := LM.out; omega); intro v123 w10 ho hb hg hat; have n0_ := Aside0.mk (hb); have n1_ := Aside0.mk (ho); have n2_ := Aside0.mk (blk_grown (g := g) (o := .cells #[.int .i64 b, .int .i64 (t + 1), .int .i64 (s + x)] 48 (0, 0)) (by (with_reducible repeat (first | refine blk_drewN ?_ _ | refine blk_drew ?_ | refine blk_alloc ?_ _)); exact BK.out) hg (Kd.R_ne HO.out BK.out (by decide))); have n3_ : Aside0 (KeepT w w10 g) := ⟨fun k_ o_ h hne => blk_grown (g := k_) (o := o_) (by (with_reducible repeat (first | refine blk_drewN ?_ _ | refine blk_drew ?_ | refine blk_alloc ?_ _)); exact KT.out k_ o_ h hne) hg (fun e => by have h1_ := HO.out.1 k_ e.symm; have h2_ := blk_lt h; omega)⟩; have n4_ : Aside0 (w.heap.size ≤ w10.heap.size) := ⟨Nat.le_trans (by have := SZ.out; first | omega | (simp only [World.alloc, Array.size_push]; omega)) hg.size⟩; clear HB HO BK KT SZ; have HB := n0_; have HO := n1_; have BK := n2_; have KT := n3_; have SZ := n4_; clear n0_ n1_ n2_ n3_ n4_; clear ho hb hg hat; have hcy2 : w10.cell? ⟨g, 2, none⟩ = some (.int .i64 (s + x)) := (blk_cell BK.out 2).trans rfl; have hfy2 := blk_frozen BK.out 2))
          go_roundg k1
          case measure => omega
          case rel => exact ⟨i + 1, wrap64 (x + 1), rfl, ⟨by have := HI.out; have := CL.out; have := EN.out; rw [W2.out]; omega⟩, ⟨by rw [vers_succ, ← HI.out.1]; exact Kd.R_mono (Kd.R_far (p := ⟨g, 2, none⟩) (Kd.R_types HO.out BK.out (by decide)) (fun _ hk => hk.2) _) (fun _ h_ => h_.1)⟩, ⟨by have := SZ.out; simpa [World.setCell] using this⟩, ⟨blk_put BK.out 2 _ (by rw [W1.out, W2.out, Int.add_assoc]; rfl)⟩, ⟨fun k_ o_ h hne => (Below.heap_setCell _ ⟨g, 2, none⟩ _ k_ hne).trans (KT.out k_ o_ h hne)⟩, ⟨below_set HB.out GE.out⟩⟩
        · have c5 : decide (x < 1) = false := decide_eq_false cl
          have CL := Aside0.mk cl
          clear cl
          go_wp2
          go_ret
          have ei : i = n := by have := HI.out; have := CL.out; have := EN.out; omega
          subst ei
          exact ⟨_, rfl, HO.out, by rw [← HI.out.1]; exact BK.out, KT.out, HB.out⟩
set_option maxHeartbeats 8000000 in
set_option maxRecDepth 100000 in
theorem tries_calls (w : World) (g : Nat) (b t s : Int) (hbk : w.heap[g]? = some (plan b t s)) :
    Calls Try.prog 18 #[.pointer (some ⟨g, 0, none⟩)] w fun e w' => e = .returned (.int .i64 t) ∧ Below w.heap.size w w' := by
  have HB := Aside0.mk (Below.refl w.heap.size w)
  have hcz1 : w.cell? ⟨g, 1, none⟩ = some (.int .i64 t) := (blk_cell hbk 1).trans rfl
  go_enter Try.func18, Try.ntmps18
  go_wp2
  go_ret
  exact ⟨rfl, HB.out⟩
set_option maxHeartbeats 8000000 in
set_option maxRecDepth 100000 in
theorem sent_calls (w : World) (g : Nat) (b t s : Int) (hbk : w.heap[g]? = some (plan b t s)) :
    Calls Try.prog 19 #[.pointer (some ⟨g, 0, none⟩)] w fun e w' => e = .returned (.int .i64 s) ∧ Below w.heap.size w w' := by
  have HB := Aside0.mk (Below.refl w.heap.size w)
  have hcz2 : w.cell? ⟨g, 2, none⟩ = some (.int .i64 s) := (blk_cell hbk 2).trans rfl
  go_enter Try.func19, Try.ntmps19
  go_wp2
  go_ret
  exact ⟨rfl, HB.out⟩
set_option maxHeartbeats 8000000 in
set_option maxRecDepth 100000 in
theorem plans_calls (w : World) : Calls Try.prog 15 #[] w fun e w' => e = .returned (.bool true) ∧ Below w.heap.size w w' := by
  have HB := Aside0.mk (Below.refl w.heap.size w)
  go_enter Try.func15, Try.ntmps15
  go_upto_region 3 with (first | ((with_reducible refine gate_callee (f := 14) rfl ?_); refine goesL_ (some 6) rfl rfl Try.func14 (by kernel_rfl) rfl #[.int .i64 2] rfl (by (try simp only [List.map_toArray, List.map_cons, List.map_nil]); first | done | rfl) ?_; (with_reducible refine (new_calls 2 (by decide) (by decide) _).mono ?_); rintro e w1 ⟨g, rfl, hge, hbk, hb⟩; refine ⟨_, rfl, ?_⟩; have BK := Aside0.mk hbk; have GE : Aside0 (w.heap.size ≤ g) := ⟨Nat.le_trans (below_size HB.out) hge⟩; have n0_ := Aside0.mk (below_step HB.out hb); clear HB hb hbk hge; have HB := n0_; clear n0_) | ((with_reducible refine gate_callee (f := 17) rfl ?_); refine goesL_ (some 10) rfl rfl Try.func17 (by kernel_rfl) rfl #[.pointer (some ⟨g, 0, none⟩)] rfl (by (try simp only [List.map_toArray, List.map_cons, List.map_nil]); first | done | rfl) ?_; (with_reducible refine (next_calls w _ g 2 0 0 2 BK.out HB.out GE.out (by decide) (by decide) (by decide) (by decide) (by decide) (by decide) rfl).mono ?_); rintro e w2 ⟨v1, rfl, hr, hbk, hk, hb⟩; refine ⟨_, rfl, ?_⟩; have HO1 : Aside0 (Kd.R (Kd.int .i64) 3 w2 w.heap.size (fun _ => True) v1 [0, 1]) := ⟨Kd.R_mono hr (fun _ _ => trivial)⟩; clear BK HB; have BK : Aside0 (w2.heap[g]? = some (plan 2 1 2)) := ⟨hbk⟩; have HB := Aside0.mk hb; clear hr hbk hk hb) | ((with_reducible refine gate_callee (f := 17) rfl ?_); refine goesL_ (some 12) rfl rfl Try.func17 (by kernel_rfl) rfl #[.pointer (some ⟨g, 0, none⟩)] rfl (by (try simp only [List.map_toArray, List.map_cons, List.map_nil]); first | done | rfl) ?_; (with_reducible refine (next_calls w _ g 2 1 2 1 BK.out HB.out GE.out (by decide) (by decide) (by decide) (by decide) (by decide) (by decide) rfl).mono ?_); rintro e w3 ⟨v2, rfl, hr, hbk, hk, hb⟩; refine ⟨_, rfl, ?_⟩; have HO2 : Aside0 (Kd.R (Kd.int .i64) 3 w3 w.heap.size (fun _ => True) v2 [2]) := ⟨Kd.R_mono hr (fun _ _ => trivial)⟩; have n0_ := Aside0.mk (keepR HO1.out BK.out hk); clear HO1 BK HB; have HO1 := n0_; clear n0_; have BK : Aside0 (w3.heap[g]? = some (plan 2 2 3)) := ⟨hbk⟩; have HB := Aside0.mk hb; clear hr hbk hk hb))
  obtain ⟨g1, c1, e1, _, _, _⟩ := Kd.R_form HO1.out (by decide)
  subst e1
  obtain ⟨g2, c2, e2, _, _, _⟩ := Kd.R_form HO2.out (by decide)
  subst e2
  obtain ⟨ad1, e1, hx1⟩ := Kd.at_int (Kd.R_reads' HO1.out).2.2 1 (by decide) (by decide)
  cases e1
  obtain ⟨ad2, e2, hx2⟩ := Kd.at_int (Kd.R_reads' HO2.out).2.2 0 (by decide) (by decide)
  cases e2
  replace hx1 : w3.cell? ⟨g1, 1, none⟩ = some (.int .i64 1) := hx1
  replace hx2 : w3.cell? ⟨g2, 0, none⟩ = some (.int .i64 2) := hx2
  go_wp2_with (first | (go_at_call 18; (with_reducible refine (tries_calls _ g 2 2 3 BK.out).mono ?_); rintro e w4 ⟨rfl, hb⟩; have n0_ := Aside0.mk (blk_below BK.out hb); have n1_ := Aside0.mk (below_step HB.out hb); clear BK HB hb; have BK := n0_; have HB := n1_; clear n0_ n1_) | (go_at_call 19; (with_reducible refine (sent_calls _ g 2 2 3 BK.out).mono ?_); rintro e w4 ⟨rfl, hb⟩; have n0_ := Aside0.mk (blk_below BK.out hb); have n1_ := Aside0.mk (below_step HB.out hb); clear BK HB hb; have BK := n0_; have HB := n1_; clear n0_ n1_))
  go_ret
  exact ⟨rfl, HB.out⟩
end Go.Proofs.Ytheklcdaanojaaa.Mine
