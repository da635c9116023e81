/- The walk of the law of Of: up to twenty numbers are laid beside a base, and which of the 32 behind it came; the law answers true. Conditions: the arguments lie in their types' ranges. -/
import Derived.Test.YtkafpcboflmdoaaPureAckmapGrows
import Derived.Test.YtkafpcboflmdoaaPAckmapOfx2
import Derived.Deep.RegionLaw
namespace Go.Proofs.Ytkafpcboflmdoaa.Mine
open Go.RowKit Go.Proofs.Ytkafpcboflmdoaa.PAckmapGrows Go.Proofs.YtkafpcboflmdoaaW.PrintWords Go.Proofs.YtkafpcboflmdoaaW.PrintLast Go.Proofs.YtkafpcboflmdoaaW.PrintMore
attribute [local go_sem] max2_int min2_int max_two min_two max_three min_three max_four min_four   -- for this text's walks alone
set_option linter.unusedVariables false
set_option linter.unusedSimpArgs false
open Go.Proofs.Ytkafpcboflmdoaa.Pure.AckmapGrows
/-- The numbers that have come; whether one is too far; whether one is the base's own; which of the 32. -/
def xsOf (a0 : Int) (ns : List Int) : List Int := ns.map (fun n => (a0 + n) % 65536)
def farOf (ns : List Int) : Bool := ns.any (fun n => decide (32 < n))
def ownOf (ns : List Int) : Bool := ns.any (fun n => n == 0)
def put1 (bs : List Bool) (n : Int) : List Bool := if 1 ≤ n ∧ n ≤ 32 then bs.set n.toNat true else bs
def arrOf (ns : List Int) : List Bool := ns.foldl put1 (List.replicate 33 false)
def blkOf (bs : List Bool) : Array Value := (bs.map Value.bool).toArray
theorem xs_snoc (a0 n : Int) (ns : List Int) : xsOf a0 (ns ++ [n]) = xsOf a0 ns ++ [(a0 + n) % 65536] := by simp [xsOf]
theorem far_snoc (n : Int) (ns : List Int) : farOf (ns ++ [n]) = (farOf ns || decide (32 < n)) := by simp [farOf]
theorem own_snoc (n : Int) (ns : List Int) : ownOf (ns ++ [n]) = (ownOf ns || (n == 0)) := by simp [ownOf]
theorem arr_snoc (n : Int) (ns : List Int) : arrOf (ns ++ [n]) = put1 (arrOf ns) n := by simp [arrOf]
theorem put1_len (bs : List Bool) (n : Int) : (put1 bs n).length = bs.length := by unfold put1; split <;> simp
theorem fold_len : ∀ (ns : List Int) (bs : List Bool), (ns.foldl put1 bs).length = bs.length := by
  intro ns
  induction ns with
  | nil => intro bs; rfl
  | cons n ns ih => intro bs; rw [List.foldl_cons, ih, put1_len]
theorem arr_len (ns : List Int) : (arrOf ns).length = 33 := by rw [arrOf, fold_len, List.length_replicate]
theorem blk_get (bs : List Bool) (i : Nat) (h : i < bs.length) : (blkOf bs)[i]? = some (.bool (bs.getD i false)) := by
  simp [blkOf, h]
theorem blk_upd (bs : List Bool) (i : Nat) (b : Bool) : (blkOf bs).setIfInBounds i (.bool b) = blkOf (bs.set i b) := by
  simp [blkOf, List.map_set]
theorem tmod_in (x k : Int) (h0 : -k < x) (h1 : x < k) : Int.tmod x k = x := by
  by_cases h : 0 ≤ x
  · rw [Int.tmod_eq_emod_of_nonneg h, Int.emod_eq_of_lt h h1]
  · have e : x = -(-x) := by omega
    rw [e, Int.neg_tmod, Int.tmod_eq_emod_of_nonneg (by omega), Int.emod_eq_of_lt (by omega) (by omega)]
theorem plus6 (a0 n : Int) (h0 : 0 ≤ a0) (h1 : a0 ≤ 65535) (n0 : -39 ≤ n) (n1 : n ≤ 39) : Go.Proofs.Ytkafpcboflmdoaa.PAckmapOf.shuttleref14_Plus.f a0 n = some ((a0 + n) % 65536) := by
  unfold Go.Proofs.Ytkafpcboflmdoaa.PAckmapOf.shuttleref14_Plus.f
  have e2 : wrap64 (a0 + n) = a0 + n := by unfold wrap64; omega
  rw [tmod_in n 65536 (by omega) (by omega), e2]
  have e : -65536 < Int.tmod (a0 + n) 65536 ∧ Int.tmod (a0 + n) 65536 < 65536 ∧ Int.tmod (a0 + n) 65536 % 65536 = (a0 + n) % 65536 := by
    by_cases h : 0 ≤ a0 + n
    · rw [Int.tmod_eq_emod_of_nonneg h]; omega
    · rw [tmod_in (a0 + n) 65536 (by omega) (by omega)]; omega
  obtain ⟨e3, e4, e5⟩ := e
  generalize Int.tmod (a0 + n) 65536 = x at *
  have e6 : wrap64 (x + 65536) = x + 65536 := by unfold wrap64; omega
  rw [e6, Int.tmod_eq_emod_of_nonneg (by omega)]
  congr 1
  omega
theorem rem40 (c : Int) : -39 ≤ Int.tmod c 40 ∧ Int.tmod c 40 ≤ 39 := by
  have h1 := Int.tmod_lt_of_pos c (show (0 : Int) < 40 by omega)
  have h2 := Int.tmod_lt_of_pos (-c) (show (0 : Int) < 40 by omega)
  rw [Int.neg_tmod] at h2
  omega
theorem has_lo (a0 n : Int) (m : Nat) (h0 : 0 ≤ a0) (h1 : a0 ≤ 65535) (n0 : 0 ≤ n) (n1 : n ≤ 32) : hasP a0 m ((a0 + wrap64 (-1 - n)) % 65536) = true := by
  have e : wrap64 (-1 - n) = -1 - n := by unfold wrap64; omega
  unfold hasP
  rw [e, decide_eq_true (show 1 ≤ (a0 - (a0 + (-1 - n)) % 65536) % 65536 ∧ (a0 - (a0 + (-1 - n)) % 65536) % 65536 < 32768 by omega)]
  rfl
theorem has_hi (a0 n : Int) (m : Nat) (h0 : 0 ≤ a0) (h1 : a0 ≤ 65535) (n0 : 0 ≤ n) (n1 : n ≤ 32) : hasP a0 m ((a0 + wrap64 (33 + n)) % 65536) = false := by
  have e : wrap64 (33 + n) = 33 + n := by unfold wrap64; omega
  unfold hasP
  rw [e, decide_eq_false (show ¬ (1 ≤ (a0 - (a0 + (33 + n)) % 65536) % 65536 ∧ (a0 - (a0 + (33 + n)) % 65536) % 65536 < 32768) by omega), decide_eq_false (show ¬ (1 ≤ ((a0 + (33 + n)) % 65536 - a0) % 65536 ∧ ((a0 + (33 + n)) % 65536 - a0) % 65536 ≤ 32) by omega)]
  rfl
def mOf (ns : List Int) (m : Nat) : Nat := ns.foldl (fun m n => if 1 ≤ n ∧ n ≤ 32 then m ||| 2 ^ (n - 1).toNat else m) m
theorem xs_cons (a0 n : Int) (ns : List Int) : xsOf a0 (n :: ns) = (a0 + n) % 65536 :: xsOf a0 ns := rfl
theorem far_cons (n : Int) (ns : List Int) : farOf (n :: ns) = (decide (32 < n) || farOf ns) := rfl
theorem own_cons (n : Int) (ns : List Int) : ownOf (n :: ns) = ((n == 0) || ownOf ns) := rfl
theorem bad (a0 : Int) (h0 : 0 ≤ a0) (h1 : a0 ≤ 65535) : ∀ (ns : List Int) (m : Nat), (∀ n ∈ ns, -39 ≤ n ∧ n ≤ 39) → (farOf ns = true ∨ ownOf ns = true) →
    ∃ e, ofP a0 (xsOf a0 ns) m = (0, 0, e) ∧ (e = 11 ∧ farOf ns = true ∨ e = 13 ∧ ownOf ns = true) := by
  intro ns
  induction ns with
  | nil => intro m _ h; rcases h with h | h <;> cases h
  | cons n ns ih =>
    intro m hn h
    have hb := hn n List.mem_cons_self
    have ht : ∀ x ∈ ns, -39 ≤ x ∧ x ≤ 39 := fun x hx => hn x (List.mem_cons_of_mem _ hx)
    rw [far_cons, own_cons] at h ⊢
    rw [xs_cons, ofP]
    by_cases c1 : n < 0
    · rw [if_pos (by omega)]
      rw [decide_eq_false (show ¬ 32 < n by omega), beq_eq_false_iff_ne.mpr (show n ≠ 0 by omega), Bool.false_or, Bool.false_or] at h ⊢
      exact ih m ht h
    · rw [if_neg (by omega)]
      by_cases c2 : n = 0
      · rw [if_pos (by omega)]
        exact ⟨13, rfl, Or.inr ⟨rfl, by rw [c2]; rfl⟩⟩
      · rw [if_neg (by omega)]
        by_cases c3 : 32 < n
        · rw [if_pos (by omega)]
          exact ⟨11, rfl, Or.inl ⟨rfl, by rw [decide_eq_true c3]; rfl⟩⟩
        · rw [if_neg (by omega)]
          rw [decide_eq_false c3, beq_eq_false_iff_ne.mpr c2, Bool.false_or, Bool.false_or] at h ⊢
          exact ih _ ht h
theorem fine (a0 : Int) (h0 : 0 ≤ a0) (h1 : a0 ≤ 65535) : ∀ (ns : List Int) (m : Nat), (∀ n ∈ ns, -39 ≤ n ∧ n ≤ 39) → farOf ns = false → ownOf ns = false →
    ofP a0 (xsOf a0 ns) m = (a0, (mOf ns m : Int), 0) := by
  intro ns
  induction ns with
  | nil => intro m _ _ _; rfl
  | cons n ns ih =>
    intro m hn hf ho
    have hb := hn n List.mem_cons_self
    have ht : ∀ x ∈ ns, -39 ≤ x ∧ x ≤ 39 := fun x hx => hn x (List.mem_cons_of_mem _ hx)
    rw [far_cons, Bool.or_eq_false_iff, decide_eq_false_iff_not] at hf
    rw [own_cons, Bool.or_eq_false_iff, beq_eq_false_iff_ne] at ho
    rw [xs_cons, ofP]
    by_cases c1 : n < 0
    · rw [if_pos (by omega), ih m ht hf.2 ho.2]
      show _ = (a0, (mOf ns (if 1 ≤ n ∧ n ≤ 32 then m ||| 2 ^ (n - 1).toNat else m) : Int), (0 : Int))
      rw [if_neg (by omega)]
    · have e : ((a0 + n) % 65536 - a0) % 65536 = n := by omega
      rw [if_neg (by omega), e, if_neg ho.1, if_neg hf.1, ih _ ht hf.2 ho.2]
      show _ = (a0, (mOf ns (if 1 ≤ n ∧ n ≤ 32 then m ||| 2 ^ (n - 1).toNat else m) : Int), (0 : Int))
      rw [if_pos (by omega)]
theorem bits_of : ∀ (ns : List Int) (m : Nat) (bs : List Bool), bs.length = 33 → m < 4294967296 → (∀ j, 1 ≤ j → j ≤ 32 → m.testBit (j - 1) = bs.getD j false) → bs.getD 0 false = false →
    mOf ns m < 4294967296 ∧ (∀ j, 1 ≤ j → j ≤ 32 → (mOf ns m).testBit (j - 1) = (ns.foldl put1 bs).getD j false) ∧ (ns.foldl put1 bs).getD 0 false = false := by
  intro ns
  induction ns with
  | nil => intro m bs _ hm hb h0; exact ⟨hm, hb, h0⟩
  | cons n ns ih =>
    intro m bs hl hm hb h0
    rw [List.foldl_cons]
    show mOf ns (if 1 ≤ n ∧ n ≤ 32 then m ||| 2 ^ (n - 1).toNat else m) < 4294967296 ∧ (∀ j, 1 ≤ j → j ≤ 32 → (mOf ns (if 1 ≤ n ∧ n ≤ 32 then m ||| 2 ^ (n - 1).toNat else m)).testBit (j - 1) = _) ∧ _
    by_cases c : 1 ≤ n ∧ n ≤ 32
    · have e : put1 bs n = bs.set n.toNat true := by rw [put1, if_pos c]
      rw [if_pos c, e]
      refine ih _ _ (by rw [List.length_set]; exact hl) (or_lt m hm _ (by omega)) ?_ ?_
      · intro j j0 j1
        rw [Nat.testBit_or, Nat.testBit_two_pow, hb j j0 j1, List.getD_eq_getElem?_getD, List.getD_eq_getElem?_getD, List.getElem?_set]
        by_cases ej : n.toNat = j
        · rw [if_pos ej, if_pos (by omega), decide_eq_true (by omega), Bool.or_true]; rfl
        · rw [if_neg ej, decide_eq_false (by omega), Bool.or_false]
      · rw [List.getD_eq_getElem?_getD, List.getElem?_set, if_neg (by omega), ← List.getD_eq_getElem?_getD]; exact h0
    · have e : put1 bs n = bs := by rw [put1, if_neg c]
      rw [if_neg c, e]
      exact ih m bs hl hm hb h0
theorem plain (a0 : Int) (ns : List Int) (h0 : 0 ≤ a0) (h1 : a0 ≤ 65535) (hn : ∀ n ∈ ns, -39 ≤ n ∧ n ≤ 39) (t1 t2 t3 : Int) (h : ofP a0 (xsOf a0 ns) 0 = (t1, t2, t3)) :
    (farOf ns = true ∨ ownOf ns = true → t1 = 0 ∧ t2 = 0 ∧ (t3 = 11 ∧ farOf ns = true ∨ t3 = 13 ∧ ownOf ns = true)) ∧
    (farOf ns = false → ownOf ns = false → t1 = a0 ∧ t3 = 0 ∧ ∃ m : Nat, t2 = m ∧ m < 4294967296 ∧ ∀ j : Int, 0 ≤ j → j ≤ 32 → hasP a0 m ((a0 + j) % 65536) = (arrOf ns).getD j.toNat false) := by
  refine ⟨fun hb => ?_, fun hf ho => ?_⟩
  · obtain ⟨e, he, hc⟩ := bad a0 h0 h1 ns 0 hn hb
    rw [he] at h
    obtain ⟨rfl, h'⟩ := Prod.mk.inj h
    obtain ⟨rfl, rfl⟩ := Prod.mk.inj h'
    exact ⟨rfl, rfl, hc⟩
  · rw [fine a0 h0 h1 ns 0 hn hf ho] at h
    obtain ⟨rfl, h'⟩ := Prod.mk.inj h
    obtain ⟨rfl, rfl⟩ := Prod.mk.inj h'
    obtain ⟨hm, hb, hz⟩ := bits_of ns 0 (List.replicate 33 false) (by rw [List.length_replicate]) (by decide) (fun j j0 j1 => by
      rw [Nat.zero_testBit, List.getD_eq_getElem?_getD, List.getElem?_replicate]; split <;> rfl) rfl
    refine ⟨rfl, rfl, mOf ns 0, rfl, hm, ?_⟩
    intro j j0 j1
    have e : ((a0 + j) % 65536 - a0) % 65536 = j := by omega
    unfold hasP
    rw [e, decide_eq_false (show ¬ (1 ≤ (a0 - (a0 + j) % 65536) % 65536 ∧ (a0 - (a0 + j) % 65536) % 65536 < 32768) by omega), Bool.false_or]
    by_cases c : j = 0
    · subst c
      rw [decide_eq_false (by omega), Bool.false_and]
      exact hz.symm
    · rw [decide_eq_true (by omega), Bool.true_and]
      have := hb j.toNat (by omega) (by omega)
      rw [show (j - 1).toNat = j.toNat - 1 by omega]
      exact this
set_option maxHeartbeats 8000000 in
set_option maxRecDepth 100000 in
theorem walk (a0 : Int) (A1 : Option Addr) (c1 : Nat) (l1 : List Int) (a2 : Int) (w : World) (b0 : 0 ≤ a0) (b1 : a0 ≤ 65535) (hr1 : Kd.C (Kd.int .i64) w A1 l1.length l1) (hc1 : l1.length ≤ c1) :
    Calls Try.prog 3 #[.int .u16 a0, .slice A1 l1.length c1, .int .i64 a2] w fun e w' => e = .returned (.bool true) ∧ Below w.heap.size w w' := by
  have hu30 := Try.underlying30
  have HR1 := Aside0.mk hr1
  have HC1 := Aside0.mk hc1
  have B0 := Aside0.mk b0
  have B1 := Aside0.mk b1
  clear hr1 hc1 b0 b1
  have HB := Aside0.mk (Below.refl w.heap.size w)
  go_enter Try.func3, Try.ntmps3
  go_upto_block 0 with (first | ((with_reducible refine gate_dst (N := 10) rfl ?_); refine box_event ?hg (N := 10) ?hd (cs := blkOf (arrOf [])) (t := 25) ?hr ?_; (case hd => rfl); (case hg => rfl); (case hr => first | (go_simp; done) | (go_simp; rfl)); intro g hg w4 hbox hb; have n0_ := Aside0.mk (below_step (by repeat (first | (with_reducible first | exact HB.out | apply below_alloc | apply pw_below_drewN | apply below_drew1) | exact HB.out)) hb); have BK := Aside0.mk hbox; have GE := Aside0.mk ((by rw [hg]; exact (below_size (by repeat (first | (with_reducible first | exact HB.out | apply below_alloc | apply pw_below_drewN | apply below_drew1) | exact HB.out)))) : w.heap.size ≤ g); clear HB; have HB := n0_; clear n0_; clear hb hbox hg))
  go_cut [7, 8, 9] (fun v7 v8 v9 wc => ∃ (ns : List Int), v8 = .bool (farOf ns) ∧ v9 = .bool (ownOf ns) ∧ Aside0 (ns.length ≤ 20) ∧ Aside0 (∀ n ∈ ns, -39 ≤ n ∧ n ≤ 39) ∧ Aside0 (Kd.R (Kd.int .u16) 27 wc w.heap.size (fun _ => True) v7 (xsOf a0 ns)) ∧ Aside0 (wc.heap[g]? = some (.cells (blkOf (arrOf ns)) 25 (0, 0))) ∧ Aside0 (Below w.heap.size w wc))
  case first =>
    go_wp2
    go_loopg [7, 8, 9, 11] 21 (fun kq v7 v8 v9 v11 w' => ∃ (ns : List Int) (i : Int), v8 = .bool (farOf ns) ∧ v9 = .bool (ownOf ns) ∧ v11 = .int .i64 i ∧ Aside0 (i = ns.length) ∧ Aside0 (ns.length + kq = 21 ∧ 1 ≤ kq) ∧ Aside0 (∀ n ∈ ns, -39 ≤ n ∧ n ≤ 39) ∧ Aside0 (Kd.R (Kd.int .u16) 27 w' w.heap.size (fun _ => True) v7 (xsOf a0 ns)) ∧ Aside0 (w'.heap[g]? = some (.cells (blkOf (arrOf ns)) 25 (0, 0))) ∧ Aside0 (Below w.heap.size w w'))
    case atStart => exact ⟨[], 0, rfl, rfl, rfl, ⟨rfl⟩, ⟨rfl, by decide⟩, ⟨fun _ h => by cases h⟩, ⟨Kd.R_nil _ _ _ _ _⟩, BK, HB⟩
    case round =>
      clear BK HB
      obtain ⟨ns, i, rfl, rfl, rfl, HI, HK, HN, HO, BK, HB⟩ := hrel
      cases gk with
      | zero => exact absurd HK.out.2 (by omega)
      | succ k1 =>
        by_cases c5 : i < (l1.length : Int)
        · have c5b0 : decide (i < (l1.length : Int)) = true := decide_eq_true c5
          by_cases c6 : i < 20
          · have c6b0 : decide (i < 20) = true := decide_eq_true c6
            have p120 : 0 ≤ i := by have := HI.out; omega
            have c7b0 : decide (0 ≤ i) = true := decide_eq_true p120
            obtain ⟨ad120, e120, hx120_0⟩ := Kd.at_int HR1.out i p120 c5
            cases e120
            replace hx120_0 := (HB.out.cell (World.block_lt_of_cell? w _ hx120_0)).trans hx120_0
            have Ep := rem40 (rd l1 i)
            generalize hn : Int.tmod (rd l1 i) 40 = n at Ep
            have HP6 : Aside0 (Go.Proofs.Ytkafpcboflmdoaa.PAckmapOf.shuttleref14_Plus.f (wrap64 a0) n = some ((a0 + n) % 65536)) := ⟨by rw [show wrap64 a0 = a0 by have := B0.out; have := B1.out; unfold wrap64; omega]; exact plus6 a0 n B0.out B1.out Ep.1 Ep.2⟩
            have EP := Aside0.mk Ep
            have C6 := Aside0.mk c6
            have LM := Aside0.mk (show (xsOf a0 ns).length < 70368744177664 by rw [xsOf, List.length_map]; exact Nat.lt_of_lt_of_le (show ns.length < 20 by have := HI.out; omega) (by decide))
            clear Ep c6
            replace p120 := eq_true p120
            have q120 := eq_true c5
            clear c5
            generalize hs : xsOf a0 ns ++ [(a0 + n) % 65536] = xs2
            have HS := Aside0.mk hs
            clear hs
            generalize hf : farOf ns = fa
            generalize ho : ownOf ns = ow
            have cls : n ≤ -1 ∨ n = 0 ∨ (1 ≤ n ∧ n ≤ 32) ∨ 32 < n := by omega
            rcases cls with cls | cls | cls | cls
            · have d1 : decide (32 < n) = false := decide_eq_false (by omega)
              have d2 : (n == 0) = false := beq_eq_false_iff_ne.mpr (by omega)
              have d3 : decide (1 ≤ n) = false := decide_eq_false (by omega)
              have NC := Aside0.mk cls
              clear cls
              cases fa <;> cases ow <;>
              (go_wp2_with (first | ((with_reducible refine gate_callee (f := 6) rfl ?_); refine goesL_ (some 37) rfl rfl Try.func6 (by kernel_rfl) rfl #[.int .i64 (wrap64 a0), .int .i64 n] rfl (by (try simp only [List.map_toArray, List.map_cons, List.map_nil, hn]); first | done | rfl | (simp only [List.length_drop, List.length_take]; rfl)) ?_; (with_reducible refine (Go.Proofs.Ytkafpcboflmdoaa.PAckmapOf.shuttleref14_Plus.calls (wrap64 a0) n _ _ HP6.out).mono ?_); rintro e w' ⟨rfl, ⟨nd, rfl⟩⟩; refine ⟨_, rfl, ?_⟩) | ((with_reducible refine gate_builtin (b := .append) (xs := #[.tmp 38, .tmp 41]) rfl ?_); at_builtin; refine Kd.R_append (Kd.int .u16) (w0 := w) w.heap.size rfl (.tmp 38) (.tmp 41) 24 27 (.int .u16 0) 2 rfl Try.underlying24 info27 rfl (by decide) (by omega) u7 (xsOf a0 ns) ((a0 + n) % 65536) [.int .u16 ((a0 + n) % 65536)] (fun _ => True) (fun _ => False) rfl rfl ?aP (fun _ hk => hk.elim) ?aF ?aO ?aB ?aS ?aL ?_; (case aP => exact rfl); (case aB => exact (by repeat (first | (with_reducible first | exact HB.out | apply below_alloc | apply pw_below_drewN | apply below_drew1) | exact HB.out))); (case aF => exact (fun _ _ => trivial)); (case aO => exact (by (with_reducible repeat (first | apply Kd.R_alloc | apply Kd.R_drewN | apply Kd.R_drew)); exact HO.out)); (case aS => exact (below_size (by repeat (first | (with_reducible first | exact HB.out | apply below_alloc | apply pw_below_drewN | apply below_drew1) | exact HB.out)))); (case aL => have := LM.out; omega); intro v123 w10 ho hb hg hat; rw [HS.out] at ho; have n0_ := Aside0.mk (hb); have n1_ := Aside0.mk (ho); have n2_ := Aside0.mk (blk_grown (g := g) (o := .cells (blkOf (arrOf ns)) 25 (0, 0)) (by (with_reducible repeat (first | refine blk_drewN ?_ _ | refine blk_drew ?_ | refine blk_alloc ?_ _)); exact BK.out) hg (Kd.R_ne HO.out BK.out (by decide))); clear HB; clear HO; clear BK; have HB := n0_; have HO := n1_; have BK := n2_; clear n0_ n1_ n2_; clear ho hb hg hat; have hfw := blk_frozen BK.out n.toNat; (try (have hcw_ := NC.out; have hcw := (blk_cell BK.out n.toNat).trans (blk_get (arrOf ns) n.toNat (by rw [arr_len]; omega)); clear hcw_))))
               go_roundg k1
               (case measure => omega)
               (case rel => exact ⟨ns ++ [n], wrap64 (i + 1), (by rw [far_snoc, hf, d1]; first | done | rfl), (by rw [own_snoc, ho, d2]; first | done | rfl), rfl, ⟨by have := HI.out; have := C6.out; rw [List.length_append, List.length_singleton]; unfold wrap64; omega⟩, ⟨by have := HI.out; have := C6.out; have := HK.out; rw [List.length_append, List.length_singleton]; omega⟩, ⟨fun x hx => by rcases List.mem_append.mp hx with h | h; exact HN.out x h; rw [List.mem_singleton.mp h]; exact EP.out⟩, ⟨by rw [xs_snoc, HS.out]; exact HO.out⟩, ⟨by rw [arr_snoc, put1, if_neg (by have := NC.out; omega)]; exact BK.out⟩, HB⟩))
            · have d1 : decide (32 < n) = false := decide_eq_false (by omega)
              have d2 : (n == 0) = true := beq_iff_eq.mpr (by omega)
              have d3 : decide (1 ≤ n) = false := decide_eq_false (by omega)
              have NC := Aside0.mk cls
              clear cls
              cases fa <;> cases ow <;>
              (go_wp2_with (first | ((with_reducible refine gate_callee (f := 6) rfl ?_); refine goesL_ (some 37) rfl rfl Try.func6 (by kernel_rfl) rfl #[.int .i64 (wrap64 a0), .int .i64 n] rfl (by (try simp only [List.map_toArray, List.map_cons, List.map_nil, hn]); first | done | rfl | (simp only [List.length_drop, List.length_take]; rfl)) ?_; (with_reducible refine (Go.Proofs.Ytkafpcboflmdoaa.PAckmapOf.shuttleref14_Plus.calls (wrap64 a0) n _ _ HP6.out).mono ?_); rintro e w' ⟨rfl, ⟨nd, rfl⟩⟩; refine ⟨_, rfl, ?_⟩) | ((with_reducible refine gate_builtin (b := .append) (xs := #[.tmp 38, .tmp 41]) rfl ?_); at_builtin; refine Kd.R_append (Kd.int .u16) (w0 := w) w.heap.size rfl (.tmp 38) (.tmp 41) 24 27 (.int .u16 0) 2 rfl Try.underlying24 info27 rfl (by decide) (by omega) u7 (xsOf a0 ns) ((a0 + n) % 65536) [.int .u16 ((a0 + n) % 65536)] (fun _ => True) (fun _ => False) rfl rfl ?aP (fun _ hk => hk.elim) ?aF ?aO ?aB ?aS ?aL ?_; (case aP => exact rfl); (case aB => exact (by repeat (first | (with_reducible first | exact HB.out | apply below_alloc | apply pw_below_drewN | apply below_drew1) | exact HB.out))); (case aF => exact (fun _ _ => trivial)); (case aO => exact (by (with_reducible repeat (first | apply Kd.R_alloc | apply Kd.R_drewN | apply Kd.R_drew)); exact HO.out)); (case aS => exact (below_size (by repeat (first | (with_reducible first | exact HB.out | apply below_alloc | apply pw_below_drewN | apply below_drew1) | exact HB.out)))); (case aL => have := LM.out; omega); intro v123 w10 ho hb hg hat; rw [HS.out] at ho; have n0_ := Aside0.mk (hb); have n1_ := Aside0.mk (ho); have n2_ := Aside0.mk (blk_grown (g := g) (o := .cells (blkOf (arrOf ns)) 25 (0, 0)) (by (with_reducible repeat (first | refine blk_drewN ?_ _ | refine blk_drew ?_ | refine blk_alloc ?_ _)); exact BK.out) hg (Kd.R_ne HO.out BK.out (by decide))); clear HB; clear HO; clear BK; have HB := n0_; have HO := n1_; have BK := n2_; clear n0_ n1_ n2_; clear ho hb hg hat; have hfw := blk_frozen BK.out n.toNat; (try (have hcw_ := NC.out; have hcw := (blk_cell BK.out n.toNat).trans (blk_get (arrOf ns) n.toNat (by rw [arr_len]; omega)); clear hcw_))))
               go_roundg k1
               (case measure => omega)
               (case rel => exact ⟨ns ++ [n], wrap64 (i + 1), (by rw [far_snoc, hf, d1]; first | done | rfl), (by rw [own_snoc, ho, d2]; first | done | rfl), rfl, ⟨by have := HI.out; have := C6.out; rw [List.length_append, List.length_singleton]; unfold wrap64; omega⟩, ⟨by have := HI.out; have := C6.out; have := HK.out; rw [List.length_append, List.length_singleton]; omega⟩, ⟨fun x hx => by rcases List.mem_append.mp hx with h | h; exact HN.out x h; rw [List.mem_singleton.mp h]; exact EP.out⟩, ⟨by rw [xs_snoc, HS.out]; exact HO.out⟩, ⟨by rw [arr_snoc, put1, if_neg (by have := NC.out; omega)]; exact BK.out⟩, HB⟩))
            · have d1 : decide (32 < n) = false := decide_eq_false (by omega)
              have d2 : (n == 0) = false := beq_eq_false_iff_ne.mpr (by omega)
              have d3 : decide (1 ≤ n) = true := decide_eq_true (by omega)
              have d4 : decide (n ≤ 32) = true := decide_eq_true (by omega)
              have pn := eq_true (show 0 ≤ n by omega)
              have qn := eq_true (show n < 33 by omega)
              have NC := Aside0.mk cls
              clear cls
              cases fa <;> cases ow <;>
              (go_wp2_with (first | ((with_reducible refine gate_callee (f := 6) rfl ?_); refine goesL_ (some 37) rfl rfl Try.func6 (by kernel_rfl) rfl #[.int .i64 (wrap64 a0), .int .i64 n] rfl (by (try simp only [List.map_toArray, List.map_cons, List.map_nil, hn]); first | done | rfl | (simp only [List.length_drop, List.length_take]; rfl)) ?_; (with_reducible refine (Go.Proofs.Ytkafpcboflmdoaa.PAckmapOf.shuttleref14_Plus.calls (wrap64 a0) n _ _ HP6.out).mono ?_); rintro e w' ⟨rfl, ⟨nd, rfl⟩⟩; refine ⟨_, rfl, ?_⟩) | ((with_reducible refine gate_builtin (b := .append) (xs := #[.tmp 38, .tmp 41]) rfl ?_); at_builtin; refine Kd.R_append (Kd.int .u16) (w0 := w) w.heap.size rfl (.tmp 38) (.tmp 41) 24 27 (.int .u16 0) 2 rfl Try.underlying24 info27 rfl (by decide) (by omega) u7 (xsOf a0 ns) ((a0 + n) % 65536) [.int .u16 ((a0 + n) % 65536)] (fun _ => True) (fun _ => False) rfl rfl ?aP (fun _ hk => hk.elim) ?aF ?aO ?aB ?aS ?aL ?_; (case aP => exact rfl); (case aB => exact (by repeat (first | (with_reducible first | exact HB.out | apply below_alloc | apply pw_below_drewN | apply below_drew1) | exact HB.out))); (case aF => exact (fun _ _ => trivial)); (case aO => exact (by (with_reducible repeat (first | apply Kd.R_alloc | apply Kd.R_drewN | apply Kd.R_drew)); exact HO.out)); (case aS => exact (below_size (by repeat (first | (with_reducible first | exact HB.out | apply below_alloc | apply pw_below_drewN | apply below_drew1) | exact HB.out)))); (case aL => have := LM.out; omega); intro v123 w10 ho hb hg hat; rw [HS.out] at ho; have n0_ := Aside0.mk (hb); have n1_ := Aside0.mk (ho); have n2_ := Aside0.mk (blk_grown (g := g) (o := .cells (blkOf (arrOf ns)) 25 (0, 0)) (by (with_reducible repeat (first | refine blk_drewN ?_ _ | refine blk_drew ?_ | refine blk_alloc ?_ _)); exact BK.out) hg (Kd.R_ne HO.out BK.out (by decide))); clear HB; clear HO; clear BK; have HB := n0_; have HO := n1_; have BK := n2_; clear n0_ n1_ n2_; clear ho hb hg hat; have hfw := blk_frozen BK.out n.toNat; (try (have hcw_ := NC.out; have hcw := (blk_cell BK.out n.toNat).trans (blk_get (arrOf ns) n.toNat (by rw [arr_len]; omega)); clear hcw_))))
               go_roundg k1
               (case measure => omega)
               (case rel => exact ⟨ns ++ [n], wrap64 (i + 1), (by rw [far_snoc, hf, d1]; first | done | rfl), (by rw [own_snoc, ho, d2]; first | done | rfl), rfl, ⟨by have := HI.out; have := C6.out; rw [List.length_append, List.length_singleton]; unfold wrap64; omega⟩, ⟨by have := HI.out; have := C6.out; have := HK.out; rw [List.length_append, List.length_singleton]; omega⟩, ⟨fun x hx => by rcases List.mem_append.mp hx with h | h; exact HN.out x h; rw [List.mem_singleton.mp h]; exact EP.out⟩, ⟨by rw [xs_snoc, HS.out]; exact Kd.R_mono (Kd.R_far (p := ⟨g, n.toNat, none⟩) (Kd.R_types HO.out BK.out (by decide)) (fun _ hk => hk.2) (.bool true)) (fun _ h_ => h_.1)⟩, ⟨blk_put BK.out n.toNat (.bool true) (by rw [blk_upd, arr_snoc, put1, if_pos NC.out])⟩, ⟨below_set HB.out GE.out⟩⟩))
            · have d1 : decide (32 < n) = true := decide_eq_true (by omega)
              have d2 : (n == 0) = false := beq_eq_false_iff_ne.mpr (by omega)
              have d3 : decide (1 ≤ n) = true := decide_eq_true (by omega)
              have d4 : decide (n ≤ 32) = false := decide_eq_false (by omega)
              have NC := Aside0.mk cls
              clear cls
              cases fa <;> cases ow <;>
              (go_wp2_with (first | ((with_reducible refine gate_callee (f := 6) rfl ?_); refine goesL_ (some 37) rfl rfl Try.func6 (by kernel_rfl) rfl #[.int .i64 (wrap64 a0), .int .i64 n] rfl (by (try simp only [List.map_toArray, List.map_cons, List.map_nil, hn]); first | done | rfl | (simp only [List.length_drop, List.length_take]; rfl)) ?_; (with_reducible refine (Go.Proofs.Ytkafpcboflmdoaa.PAckmapOf.shuttleref14_Plus.calls (wrap64 a0) n _ _ HP6.out).mono ?_); rintro e w' ⟨rfl, ⟨nd, rfl⟩⟩; refine ⟨_, rfl, ?_⟩) | ((with_reducible refine gate_builtin (b := .append) (xs := #[.tmp 38, .tmp 41]) rfl ?_); at_builtin; refine Kd.R_append (Kd.int .u16) (w0 := w) w.heap.size rfl (.tmp 38) (.tmp 41) 24 27 (.int .u16 0) 2 rfl Try.underlying24 info27 rfl (by decide) (by omega) u7 (xsOf a0 ns) ((a0 + n) % 65536) [.int .u16 ((a0 + n) % 65536)] (fun _ => True) (fun _ => False) rfl rfl ?aP (fun _ hk => hk.elim) ?aF ?aO ?aB ?aS ?aL ?_; (case aP => exact rfl); (case aB => exact (by repeat (first | (with_reducible first | exact HB.out | apply below_alloc | apply pw_below_drewN | apply below_drew1) | exact HB.out))); (case aF => exact (fun _ _ => trivial)); (case aO => exact (by (with_reducible repeat (first | apply Kd.R_alloc | apply Kd.R_drewN | apply Kd.R_drew)); exact HO.out)); (case aS => exact (below_size (by repeat (first | (with_reducible first | exact HB.out | apply below_alloc | apply pw_below_drewN | apply below_drew1) | exact HB.out)))); (case aL => have := LM.out; omega); intro v123 w10 ho hb hg hat; rw [HS.out] at ho; have n0_ := Aside0.mk (hb); have n1_ := Aside0.mk (ho); have n2_ := Aside0.mk (blk_grown (g := g) (o := .cells (blkOf (arrOf ns)) 25 (0, 0)) (by (with_reducible repeat (first | refine blk_drewN ?_ _ | refine blk_drew ?_ | refine blk_alloc ?_ _)); exact BK.out) hg (Kd.R_ne HO.out BK.out (by decide))); clear HB; clear HO; clear BK; have HB := n0_; have HO := n1_; have BK := n2_; clear n0_ n1_ n2_; clear ho hb hg hat; have hfw := blk_frozen BK.out n.toNat; (try (have hcw_ := NC.out; have hcw := (blk_cell BK.out n.toNat).trans (blk_get (arrOf ns) n.toNat (by rw [arr_len]; omega)); clear hcw_))))
               go_roundg k1
               (case measure => omega)
               (case rel => exact ⟨ns ++ [n], wrap64 (i + 1), (by rw [far_snoc, hf, d1]; first | done | rfl), (by rw [own_snoc, ho, d2]; first | done | rfl), rfl, ⟨by have := HI.out; have := C6.out; rw [List.length_append, List.length_singleton]; unfold wrap64; omega⟩, ⟨by have := HI.out; have := C6.out; have := HK.out; rw [List.length_append, List.length_singleton]; omega⟩, ⟨fun x hx => by rcases List.mem_append.mp hx with h | h; exact HN.out x h; rw [List.mem_singleton.mp h]; exact EP.out⟩, ⟨by rw [xs_snoc, HS.out]; exact HO.out⟩, ⟨by rw [arr_snoc, put1, if_neg (by have := NC.out; omega)]; exact BK.out⟩, HB⟩))
          · have c6b0 : decide (i < 20) = false := decide_eq_false c6
            go_wp2
            go_meet
            case rel => exact ⟨ns, rfl, rfl, ⟨by have := HK.out; have := HI.out; omega⟩, HN, HO, BK, HB⟩
        · have c5b0 : decide (i < (l1.length : Int)) = false := decide_eq_false c5
          go_wp2
          go_meet
          case rel => exact ⟨ns, rfl, rfl, ⟨by have := HK.out; have := HI.out; omega⟩, HN, HO, BK, HB⟩
  case rest =>
    obtain ⟨ns, hfa, how, HK, HN, HO, BK, HB⟩ := hcut
    obtain ⟨Ao25, co25, eo25⟩ := Kd.R_slice HO.out
    subst eo25
    obtain ⟨y130, hy130⟩ : ∃ y_ : List Int, y_ = ([] : List Int) := ⟨_, rfl⟩
    have Ny130 := Aside0.mk hy130
    clear hy130
    obtain ⟨y133, hy133⟩ : ∃ y_ : List Int, y_ = (y130 ++ xsOf a0 ns) := ⟨_, rfl⟩
    have Ny133 := Aside0.mk hy133
    clear hy133
    have LM := Aside0.mk (show y130.length + (xsOf a0 ns).length < 70368744177664 by rw [Ny130.out, xsOf, List.length_map]; exact Nat.lt_of_lt_of_le (show ([] : List Int).length + ns.length < 21 by have := HK.out; simp; omega) (by decide))
    generalize hof : ofP a0 (xsOf a0 ns) 0 = res
    obtain ⟨t1, t2, t3⟩ := res
    have PL := Aside0.mk (plain a0 ns B0.out B1.out HN.out t1 t2 t3 hof)
    have HOF := Aside0.mk ((of_f a0 (xsOf a0 ns) (by rw [xsOf, List.length_map]; have := HK.out; omega) 100 (by rw [xsOf, List.length_map]; have := HK.out; omega)).trans (congrArg some hof))
    generalize hxl : xsOf a0 ns = xs at HO LM HOF Ny133
    generalize hfv : farOf ns = fa at hfa PL
    generalize hov : ownOf ns = ow at how PL
    subst hfa
    subst how
    go_upto_region 15 with (first | ((with_reducible refine gate_dst (N := 61) rfl ?_); refine Kd.R_lit (Kd.int .u16) _ 27 ?hg (N := 61) ?hd (xs := ([] : List Int)) (inner := []) (ok := fun _ => True) (okp := fun _ => True) ?hr ?hp (fun _ hk => hk) trivial (Below.refl _ _) (Nat.le_refl _) (by simp) ?_; (case hd => rfl); (case hg => rfl); (case hr => first | (go_simp; done) | (go_simp; rfl)); (case hp => exact (Reps.none _ _)); intro v131 w21 ho22 hb hg_ hnew_; clear hg_ hnew_; (first | rw [← Ny130.out] at ho22 | (simp only [Int.reduceToNat] at ho22; rw [← Ny130.out] at ho22)); have n0_ := Aside0.mk (Kd.R_elder' (by (with_reducible repeat (first | apply Kd.R_alloc | apply Kd.R_drewN | apply Kd.R_drew)); exact HO.out) (Kd.R_base ho22) hb); have n1_ := Aside0.mk (Kd.R_lower (Kd.R_new' ho22 (Kd.R_lt (by (with_reducible repeat (first | apply Kd.R_alloc | apply Kd.R_drewN | apply Kd.R_drew)); exact HO.out))) (below_size (by repeat (first | (with_reducible first | exact HB.out | apply below_alloc | apply pw_below_drewN | apply below_drew1 | refine below_set ?_ GE.out) | exact HB.out)))); have n2_ := Aside0.mk (blk_below (g := g) (o := .cells (blkOf (arrOf ns)) 25 (0, 0)) (by (with_reducible repeat (first | refine blk_drewN ?_ _ | refine blk_drew ?_ | refine blk_alloc ?_ _)); exact BK.out) hb); have n3_ := Aside0.mk (below_step (by repeat (first | (with_reducible first | exact HB.out | apply below_alloc | apply pw_below_drewN | apply below_drew1 | refine below_set ?_ GE.out) | exact HB.out)) hb); clear HO; clear BK; clear HB; have HO := n0_; have HO132 := n1_; have BK := n2_; have HB := n3_; clear n0_ n1_ n2_ n3_; clear hb ho22) | ((with_reducible refine gate_builtin (b := .append) (xs := #[.tmp 61, .tmp 62]) rfl ?_); at_builtin; refine Kd.R_append_rows (Kd.int .u16) (w0 := w) w.heap.size rfl (.tmp 61) (.tmp 62) 24 27 (.int .u16 0) 2 rfl Try.underlying24 info27 rfl (by decide) (by omega) v131 y130 xs _ _ _ (fun k_ => some k_ ≠ (.slice Ao25 xs.length co25 : Value).ownBlock) (fun _ => False) rfl rfl ?aO ?aR (fun _ _ h => h) (fun _ h => h.elim) ?aF ?aB ?aS ?aL ?_; (case aR => repeat (first | exact (Kd.R_reads' HO.out).2.2 | (with_reducible refine Kd.C_alloc ?_ _) | (with_reducible refine Kd.C_drewN ?_ _) | (with_reducible refine Kd.C_drew ?_))); (case aB => exact (by repeat (first | (with_reducible first | exact HB.out | apply below_alloc | apply pw_below_drewN | apply below_drew1 | refine below_set ?_ GE.out) | exact HB.out))); (case aF => exact (fun k_ hk => Kd.fresh' (Kd.R_lt (by (with_reducible repeat (first | apply Kd.R_alloc | apply Kd.R_drewN | apply Kd.R_drew)); exact HO.out)) k_ hk)); (case aO => exact (by (with_reducible repeat (first | apply Kd.R_alloc | apply Kd.R_drewN | apply Kd.R_drew)); exact Kd.R_mono HO132.out (fun _ hk => hk.2))); (case aS => exact (below_size (by repeat (first | (with_reducible first | exact HB.out | apply below_alloc | apply pw_below_drewN | apply below_drew1 | refine below_set ?_ GE.out) | exact HB.out)))); (case aL => have := LM.out; omega); intro v134 w23 ho hb hg hat; rw [← Ny133.out] at ho; have n0_ := Aside0.mk (Kd.R_after (ok := (fun _ => True)) (by (with_reducible repeat (first | apply Kd.R_alloc | apply Kd.R_drewN | apply Kd.R_drew)); exact HO.out) hg hat); have n1_ := Aside0.mk (blk_grown (g := g) (o := .cells (blkOf (arrOf ns)) 25 (0, 0)) (by (with_reducible repeat (first | refine blk_drewN ?_ _ | refine blk_drew ?_ | refine blk_alloc ?_ _)); exact BK.out) hg (Kd.R_ne HO132.out BK.out (by decide))); have n2_ := Aside0.mk (hb); have n3_ := Aside0.mk (ho); clear HO; clear BK; clear HB; clear HO132; have HO := n0_; have BK := n1_; have HB := n2_; have HO135 := n3_; clear n0_ n1_ n2_ n3_; clear ho hb hg hat) | ((with_reducible refine gate_callee (f := 7) rfl ?_); refine goesL_ (some 67) rfl rfl Try.func7 (by kernel_rfl) rfl #[.int .u16 a0, .slice Ao25 xs.length co25] rfl (by (try simp only [List.map_toArray, List.map_cons, List.map_nil]); first | done | rfl | (simp only [List.length_drop, List.length_take]; rfl)) ?_; (with_reducible refine (ackmap_Of.calls 100 a0 _ _ xs t1 t2 t3 _ ?side1 ?side2 HOF.out).mono ?_); (case side1 => repeat (first | exact (Kd.R_reads' HO.out).2.2 | (with_reducible refine Kd.C_alloc ?_ _) | (with_reducible refine Kd.C_drewN ?_ _) | (with_reducible refine Kd.C_drew ?_))); (case side2 => exact (Kd.R_reads' HO.out).2.1); rintro e w18 ⟨rfl, hb⟩; refine ⟨_, rfl, ?_⟩; have n0_ := Aside0.mk (Kd.R_below (by (with_reducible repeat (first | apply Kd.R_alloc | apply Kd.R_drewN | apply Kd.R_drew)); exact HO.out) hb); have n1_ := Aside0.mk (Kd.R_below (by (with_reducible repeat (first | apply Kd.R_alloc | apply Kd.R_drewN | apply Kd.R_drew)); exact HO135.out) hb); have n2_ := Aside0.mk (blk_below (g := g) (o := .cells (blkOf (arrOf ns)) 25 (0, 0)) (by (with_reducible repeat (first | refine blk_drewN ?_ _ | refine blk_drew ?_ | refine blk_alloc ?_ _)); exact BK.out) hb); have n3_ := Aside0.mk (below_step (by repeat (first | (with_reducible first | exact HB.out | apply below_alloc | apply pw_below_drewN | apply below_drew1 | refine below_set ?_ GE.out) | exact HB.out)) hb); clear HO; clear HO135; clear BK; clear HB; have HO := n0_; have HO135 := n1_; have BK := n2_; have HB := n3_; clear n0_ n1_ n2_ n3_; clear hb) | ((with_reducible refine gate_dst (N := 15) rfl ?_); refine box_event ?hg (N := 15) ?hd (cs := #[.int .u16 0, .int .u32 0]) (t := 30) ?hr ?_; (case hd => rfl); (case hg => rfl); (case hr => first | (go_simp; done) | (go_simp; rfl)); intro gb129 hg w19 hbox hb; have n0_ := Aside0.mk (Kd.R_below (by (with_reducible repeat (first | apply Kd.R_alloc | apply Kd.R_drewN | apply Kd.R_drew)); exact HO.out) hb); have n1_ := Aside0.mk (Kd.R_below (by (with_reducible repeat (first | apply Kd.R_alloc | apply Kd.R_drewN | apply Kd.R_drew)); exact HO135.out) hb); have n2_ := Aside0.mk (blk_below (g := g) (o := .cells (blkOf (arrOf ns)) 25 (0, 0)) (by (with_reducible repeat (first | refine blk_drewN ?_ _ | refine blk_drew ?_ | refine blk_alloc ?_ _)); exact BK.out) hb); have n4_ := Aside0.mk ((by rw [hg]; exact (below_size (by repeat (first | (with_reducible first | exact HB.out | apply below_alloc | apply pw_below_drewN | apply below_drew1 | refine below_set ?_ GE.out) | exact HB.out)))) : w.heap.size ≤ gb129); have n3_ := Aside0.mk (below_step (by repeat (first | (with_reducible first | exact HB.out | apply below_alloc | apply pw_below_drewN | apply below_drew1 | refine below_set ?_ GE.out) | exact HB.out)) hb); have BK129 := Aside0.mk hbox; clear HO; clear HO135; clear BK; clear HB; have HO := n0_; have HO135 := n1_; have BK := n2_; have HB := n3_; have GE129 := n4_; clear n0_ n1_ n2_ n3_ n4_; clear hb hbox hg; have hcz20_0 : w19.cell? ⟨gb129, 0, none⟩ = some (.int .u16 0) := (blk_cell BK129.out 0).trans rfl; have hcz20_1 : w19.cell? ⟨gb129, 1, none⟩ = some (.int .u32 0) := (blk_cell BK129.out 1).trans rfl; have hfz20_0 := blk_frozen BK129.out 0; have hfz20_1 := blk_frozen BK129.out 1))
    -- SEGMENT A
    have e133 : y133 = xs := by rw [Ny133.out, Ny130.out]; rfl
    subst e133
    obtain ⟨Ao26, co26, eo26⟩ := Kd.R_slice HO135.out
    subst eo26
    have n0_ := Aside0.mk (Kd.R_mono (Kd.R_far (p := ⟨gb129, 1, none⟩) (Kd.R_far (p := ⟨gb129, 0, none⟩) (Kd.R_types HO.out BK129.out (by decide)) (fun _ hk => hk.2) (.int .u16 t1)) (fun _ hk => hk.2) (.int .u32 t2)) (fun _ h_ => h_.1))
    have n1_ := Aside0.mk (Kd.R_mono (Kd.R_far (p := ⟨gb129, 1, none⟩) (Kd.R_far (p := ⟨gb129, 0, none⟩) (Kd.R_types HO135.out BK129.out (by decide)) (fun _ hk => hk.2) (.int .u16 t1)) (fun _ hk => hk.2) (.int .u32 t2)) (fun _ h_ => h_.1))
    have hne := blk_ne BK.out BK129.out (by decide)
    have n2_ := Aside0.mk (blk_far (p := ⟨gb129, 1, none⟩) (blk_far (p := ⟨gb129, 0, none⟩) BK.out hne (.int .u16 t1)) hne (.int .u32 t2))
    have n3_ := Aside0.mk (blk_put (cs' := #[.int .u16 t1, .int .u32 t2]) (blk_put (cs' := #[.int .u16 t1, .int .u32 0]) BK129.out 0 (.int .u16 t1) rfl) 1 (.int .u32 t2) rfl)
    have n4_ := Aside0.mk (below_set (j := 1) (v := .int .u32 t2) (below_set (j := 0) (v := .int .u16 t1) HB.out GE129.out) GE129.out)
    clear HO HO135 BK BK129 HB hcz20_0 hcz20_1 hfz20_0 hfz20_1 hne
    have HO := n0_
    have HO135 := n1_
    have BK := n2_
    have BK129 := n3_
    have HB := n4_
    clear n0_ n1_ n2_ n3_ n4_
    generalize (w19.setCell ⟨gb129, 0, none⟩ (.int .u16 t1)).setCell ⟨gb129, 1, none⟩ (.int .u32 t2) = wz at HO HO135 BK BK129 HB ⊢
    have MT := Aside0.mk maps_true
    have LX := Aside0.mk (show y133.length ≤ 20 by rw [← hxl, xsOf, List.length_map]; exact HK.out)
    go_wp2_with (first | ((with_reducible refine gate_callee (f := 8) rfl ?_); refine goesL_ (some 70) rfl rfl Try.func8 (by kernel_rfl) rfl #[] rfl (by (try simp only [List.map_toArray, List.map_cons, List.map_nil]); first | done | rfl | (simp only [List.length_drop, List.length_take]; rfl)) ?_; (with_reducible refine (shuttlelaw15_maps.calls 5 true _ MT.out).mono ?_); rintro e w35 ⟨rfl, hb⟩; refine ⟨_, rfl, ?_⟩; have n0_ := Aside0.mk (Kd.R_below (by (with_reducible repeat (first | apply Kd.R_alloc | apply Kd.R_drewN | apply Kd.R_drew)); exact HO.out) hb); have n1_ := Aside0.mk (Kd.R_below (by (with_reducible repeat (first | apply Kd.R_alloc | apply Kd.R_drewN | apply Kd.R_drew)); exact HO135.out) hb); have n2_ := Aside0.mk (blk_below (g := g) (o := .cells (blkOf (arrOf ns)) 25 (0, 0)) (by (with_reducible repeat (first | refine blk_drewN ?_ _ | refine blk_drew ?_ | refine blk_alloc ?_ _)); exact BK.out) hb); have n3_ := Aside0.mk (blk_below (g := gb129) (o := .cells #[.int .u16 t1, .int .u32 t2] 30 (0, 0)) (by (with_reducible repeat (first | refine blk_drewN ?_ _ | refine blk_drew ?_ | refine blk_alloc ?_ _)); exact BK129.out) hb); have n4_ := Aside0.mk (below_step (by repeat (first | (with_reducible first | exact HB.out | apply below_alloc | apply pw_below_drewN | apply below_drew1 | refine below_set ?_ GE.out | refine below_set ?_ GE129.out) | exact HB.out)) hb); clear HO HO135 BK BK129 HB; have HO := n0_; have HO135 := n1_; have BK := n2_; have BK129 := n3_; have HB := n4_; clear n0_ n1_ n2_ n3_ n4_; clear hb))
    go_loopg [17] 21 (fun kq v17 w' => ∃ (i : Int), v17 = .int .i64 i ∧ Aside0 (0 ≤ i ∧ i + kq = 21 ∧ i ≤ y133.length) ∧ Aside0 (Kd.R (Kd.int .u16) 27 w' w.heap.size (fun _ => True) (.slice Ao25 y133.length co25) y133) ∧ Aside0 (Kd.R (Kd.int .u16) 27 w' w.heap.size (fun k_ => some k_ ≠ (Value.slice Ao25 y133.length co25).ownBlock) (.slice Ao26 y133.length co26) y133) ∧ Aside0 (w'.heap[g]? = some (.cells (blkOf (arrOf ns)) 25 (0, 0))) ∧ Aside0 (w'.heap[gb129]? = some (.cells #[.int .u16 t1, .int .u32 t2] 30 (0, 0))) ∧ Aside0 (Below w.heap.size w w'))
    case atStart => exact ⟨0, rfl, ⟨by omega⟩, ⟨Kd.R_mono HO.out (fun _ _ => trivial)⟩, HO135, BK, BK129, HB⟩
    case round =>
      clear HO HO135 BK BK129 HB
      obtain ⟨i, rfl, HI, HO, HO135, BK, BK129, HB⟩ := hrel
      cases gk with
      | zero => exact absurd HI.out (by have := LX.out; omega)
      | succ k1 =>
        by_cases c5 : i < (y133.length : Int)
        · have c5b0 : decide (i < (y133.length : Int)) = true := decide_eq_true c5
          have p1 : 0 ≤ i := HI.out.1
          obtain ⟨ad155, e155, hx155_0⟩ := Kd.at_int (Kd.R_reads' HO.out).2.2 i p1 c5
          cases e155
          obtain ⟨ad156, e156, hx156_0⟩ := Kd.at_int (Kd.R_reads' HO135.out).2.2 i p1 c5
          cases e156
          have C5 := Aside0.mk c5
          replace p1 := eq_true p1
          have q1 := eq_true c5
          clear c5
          have hbne : (rd y133 i != rd y133 i) = false := by simp
          go_wp2
          repeat (go_quiet (fail); try go_wp2)
          go_roundg k1
          case measure => omega
          case rel => exact ⟨wrap64 (i + 1), rfl, ⟨by have := HI.out; have := C5.out; have := LX.out; unfold wrap64; omega⟩, ⟨by (with_reducible repeat (first | apply Kd.R_alloc | apply Kd.R_drewN | apply Kd.R_drew)); exact HO.out⟩, ⟨by (with_reducible repeat (first | apply Kd.R_alloc | apply Kd.R_drewN | apply Kd.R_drew)); exact HO135.out⟩, ⟨by (with_reducible repeat (first | refine blk_drewN ?_ _ | refine blk_drew ?_ | refine blk_alloc ?_ _)); exact BK.out⟩, ⟨by (with_reducible repeat (first | refine blk_drewN ?_ _ | refine blk_drew ?_ | refine blk_alloc ?_ _)); exact BK129.out⟩, ⟨(by repeat (first | (with_reducible first | exact HB.out | apply below_alloc | apply pw_below_drewN | apply below_drew1 | refine below_set ?_ GE.out | refine below_set ?_ GE129.out) | exact HB.out))⟩⟩
        · have c5b0 : decide (i < (y133.length : Int)) = false := decide_eq_false c5
          clear c5
          -- SEGMENT B
          have hcz0 : wr.cell? ⟨gb129, 0, none⟩ = some (.int .u16 t1) := (blk_cell BK129.out 0).trans rfl
          have hcz1 : wr.cell? ⟨gb129, 1, none⟩ = some (.int .u32 t2) := (blk_cell BK129.out 1).trans rfl
          by_cases hb : fa = true ∨ ow = true
          · obtain ⟨rfl, rfl, h3⟩ := PL.out.1 hb
            rcases h3 with ⟨rfl, rfl⟩ | ⟨rfl, rfl⟩
            · cases ow <;>
              (clear hb
               go_wp2
               go_ret
               exact ⟨rfl, HB.out⟩)
            · cases fa <;>
              (clear hb
               go_wp2
               go_ret
               exact ⟨rfl, HB.out⟩)
          · obtain rfl : fa = false := by cases fa; rfl; exact absurd (Or.inl rfl) hb
            obtain rfl : ow = false := by cases ow; rfl; exact absurd (Or.inr rfl) hb
            obtain ⟨rfl, rfl, m, rfl, hm, hh⟩ := PL.out.2 rfl rfl
            clear hb
            have hn0 : ∃ n : Int, 0 ≤ n ∧ n ≤ 32 ∧ wrap64 (Int.tmod (IntKind.u64.wrap a2) 33) = n := by
              rw [u64_wrap, Int.tmod_eq_emod_of_nonneg (by omega)]
              refine ⟨a2 % 18446744073709551616 % 33, by omega, by omega, ?_⟩
              unfold wrap64
              omega
            obtain ⟨n, n0, n1, hn⟩ := hn0
            go_upto_region 27 with (fail)
            -- SEGMENT C
            rw [hn]
            have P1 := Aside0.mk (plus_f t1 n)
            have P2 := Aside0.mk (plus_f t1 (wrap64 (-1 - n)))
            have P3 := Aside0.mk (plus_f t1 (wrap64 (33 + n)))
            have HBV := Aside0.mk (blk_get (arrOf ns) n.toNat (by rw [arr_len]; omega))
            have G1 := Aside0.mk ((has_f t1 m ((t1 + n) % 65536) hm).trans (congrArg some (hh n n0 n1)))
            have G2 := Aside0.mk ((has_f t1 m ((t1 + wrap64 (-1 - n)) % 65536) hm).trans (congrArg some (has_lo t1 n m B0.out B1.out n0 n1)))
            have G3 := Aside0.mk ((has_f t1 m ((t1 + wrap64 (33 + n)) % 65536) hm).trans (congrArg some (has_hi t1 n m B0.out B1.out n0 n1)))
            generalize (arrOf ns).getD n.toNat false = bv at HBV G1
            have pn := eq_true n0
            have qn := eq_true (show n < 33 by omega)
            have n0_ := Aside0.mk (blk_drew BK129.out)
            have n1_ := Aside0.mk (blk_drew BK.out)
            have n2_ := Aside0.mk (below_drew1 HB.out)
            clear BK129 BK HB hcz0 hcz1 HO HO135 hh hm n0 n1 PL
            have BK129 := n0_
            have BK := n1_
            have HB := n2_
            clear n0_ n1_ n2_
            cases bv
            · skip
              refine start_ (n := 30) (S := fun w' => w'.cell? ⟨gb129, 0, none⟩ = some (.int .u16 t1) ∧ w'.cell? ⟨gb129, 1, none⟩ = some (.int .u32 (m : Int)) ∧ w'.cell? ⟨g, n.toNat, none⟩ = some (.bool false)) (ds := []) #[false, false, false, false, false, false, false, false, false, false, false, false, false, false, false, false, false, false, false, false, false, false, false, false, false, false, false, false, false, false] (by kernel_rfl) rfl rfl ⟨(blk_cell BK129.out 0).trans rfl, (blk_cell BK129.out 1).trans rfl, (blk_cell BK.out n.toNat).trans HBV.out⟩ (fun hHeld => ?_)
              generalize wr.drew = w49 at BK129 BK HB hHeld ⊢
              refine pure_ (i := 1) (N := some 121) (v := ?_) (a' := ?_) #[false, true, false, false, false, false, false, false, false, false, false, false, false, false, false, false, false, false, false, false, false, false, false, false, false, false, false, false, false, false] rfl rfl (by kernel_rfl) (fun _ _ _ h => h) (Or.inl ⟨by rfl, ?_⟩) ?_ ?_
              rotate_left
              · intro w'
                go_simp
                with_reducible rfl
              rotate_left
              · simp only [Act.put, List.setIfInBounds_toArray, List.set_cons_zero, List.set_cons_succ, i64_w, i32_w]
                rfl
              refine pure_ (i := 3) (N := some 123) (v := ?_) (a' := ?_) #[false, true, false, true, false, false, false, false, false, false, false, false, false, false, false, false, false, false, false, false, false, false, false, false, false, false, false, false, false, false] rfl rfl (by kernel_rfl) (fun _ _ _ h => h) (Or.inl ⟨by rfl, ?_⟩) ?_ ?_
              rotate_left
              · intro w'
                go_simp
                with_reducible rfl
              rotate_left
              · simp only [Act.put, List.setIfInBounds_toArray, List.set_cons_zero, List.set_cons_succ, i64_w, i32_w]
                rfl
              refine pure_ (i := 6) (N := some 126) (v := ?_) (a' := ?_) #[false, true, false, true, false, false, true, false, false, false, false, false, false, false, false, false, false, false, false, false, false, false, false, false, false, false, false, false, false, false] rfl rfl (by kernel_rfl) (fun _ _ _ h => h) (Or.inl ⟨by rfl, ?_⟩) ?_ ?_
              rotate_left
              · intro w'
                go_simp
                with_reducible rfl
              rotate_left
              · simp only [Act.put, List.setIfInBounds_toArray, List.set_cons_zero, List.set_cons_succ, i64_w, i32_w]
                rfl
              refine pure_ (i := 7) (N := some 127) (v := ?_) (a' := ?_) #[false, true, false, true, false, false, true, true, false, false, false, false, false, false, false, false, false, false, false, false, false, false, false, false, false, false, false, false, false, false] rfl rfl (by kernel_rfl) (fun _ _ _ h => h) (Or.inl ⟨by rfl, ?_⟩) ?_ ?_
              rotate_left
              · intro w'
                go_simp
                with_reducible rfl
              rotate_left
              · simp only [Act.put, List.setIfInBounds_toArray, List.set_cons_zero, List.set_cons_succ, i64_w, i32_w]
                rfl
              refine take_ (i := 0) (N := some 120) (v := ?_) (a' := ?_) #[true, true, false, true, false, false, true, true, false, false, false, false, false, false, false, false, false, false, false, false, false, false, false, false, false, false, false, false, false, false] rfl rfl (by kernel_rfl) (fun _ _ _ h => h) (Or.inl ⟨by rfl, ?_⟩) hHeld ?_ ?_
              rotate_left
              · rintro w' ⟨s0, s1, s2⟩
                go_simp
                with_reducible rfl
              rotate_left
              · simp only [Act.put, List.setIfInBounds_toArray, List.set_cons_zero, List.set_cons_succ, i64_w, i32_w]
                rfl
              refine take_ (i := 2) (N := some 122) (v := ?_) (a' := ?_) #[true, true, true, true, false, false, true, true, false, false, false, false, false, false, false, false, false, false, false, false, false, false, false, false, false, false, false, false, false, false] rfl rfl (by kernel_rfl) (fun _ _ _ h => h) (Or.inl ⟨by rfl, ?_⟩) hHeld ?_ ?_
              rotate_left
              · rintro w' ⟨s0, s1, s2⟩
                go_simp
                with_reducible rfl
              rotate_left
              · simp only [Act.put, List.setIfInBounds_toArray, List.set_cons_zero, List.set_cons_succ, i64_w, i32_w]
                rfl
              refine take_ (i := 8) (N := some 128) (v := ?_) (a' := ?_) #[true, true, true, true, false, false, true, true, true, false, false, false, false, false, false, false, false, false, false, false, false, false, false, false, false, false, false, false, false, false] rfl rfl (by kernel_rfl) (fun _ _ _ h => h) (Or.inl ⟨by rfl, ?_⟩) hHeld ?_ ?_
              rotate_left
              · rintro w' ⟨s0, s1, s2⟩
                go_simp
                with_reducible rfl
              rotate_left
              · simp only [Act.put, List.setIfInBounds_toArray, List.set_cons_zero, List.set_cons_succ, i64_w, i32_w]
                rfl
              refine one_ (i := 4) (N := some 124) #[true, true, true, true, true, false, true, true, true, false, false, false, false, false, false, false, false, false, false, false, false, false, false, false, false, false, false, false, false, false] rfl rfl (by kernel_rfl) (by decide) (fun K hK => ?_)
              refine goes_ Try.func10 (by kernel_rfl) rfl #[.int .u16 t1, .int .i64 n] (by rfl) rfl rfl (by simp only [List.map_toArray, List.map_cons, List.map_nil]; rfl) ?_
              with_reducible refine (seq_Plus.calls t1 n _ _ P1.out).mono ?_
              rintro e w53 ⟨rfl, ⟨nd, rfl⟩⟩
              refine ⟨_, rfl, ?_⟩
              have n0_ := Aside0.mk (blk_drewN BK129.out nd)
              have n1_ := Aside0.mk (blk_drewN BK.out nd)
              have n2_ := Aside0.mk (pw_below_drewN HB.out nd)
              clear BK129 BK HB
              have BK129 := n0_
              have BK := n1_
              have HB := n2_
              clear n0_ n1_ n2_
              refine hK.out _ _ ⟨(blk_cell BK129.out 0).trans rfl, (blk_cell BK129.out 1).trans rfl, (blk_cell BK.out n.toNat).trans HBV.out⟩ (fun hHeld => ?_)
              clear hK K
              refine norm_ (a' := ?_) ?_ ?_
              rotate_left
              · show Act.put _ (some 124) _ = _
                simp only [Act.put, List.setIfInBounds_toArray, List.set_cons_zero, List.set_cons_succ, i64_w, i32_w]
                rfl
              refine one_ (i := 5) (N := some 125) #[true, true, true, true, true, true, true, true, true, false, false, false, false, false, false, false, false, false, false, false, false, false, false, false, false, false, false, false, false, false] rfl rfl (by kernel_rfl) (by decide) (fun K hK => ?_)
              refine goes_ Try.func9 (by kernel_rfl) rfl #[.agg #[.int .u16 t1, .int .u32 (m : Int)], .int .u16 ((t1 + n) % 65536)] (by rfl) rfl rfl (by simp only [List.map_toArray, List.map_cons, List.map_nil]; rfl) ?_
              with_reducible refine (ackmap_Has.calls t1 (m : Int) ((t1 + n) % 65536) _ _ G1.out).mono ?_
              rintro e w53 ⟨rfl, hb⟩
              refine ⟨_, rfl, ?_⟩
              have n0_ := Aside0.mk (blk_below BK129.out hb)
              have n1_ := Aside0.mk (blk_below BK.out hb)
              have n2_ := Aside0.mk (below_step HB.out hb)
              clear BK129 BK HB hb
              have BK129 := n0_
              have BK := n1_
              have HB := n2_
              clear n0_ n1_ n2_
              refine hK.out _ _ ⟨(blk_cell BK129.out 0).trans rfl, (blk_cell BK129.out 1).trans rfl, (blk_cell BK.out n.toNat).trans HBV.out⟩ (fun hHeld => ?_)
              clear hK K
              refine norm_ (a' := ?_) ?_ ?_
              rotate_left
              · show Act.put _ (some 125) _ = _
                simp only [Act.put, List.setIfInBounds_toArray, List.set_cons_zero, List.set_cons_succ, i64_w, i32_w]
                rfl
              refine pure_ (i := 9) (N := some 129) (v := ?_) (a' := ?_) #[true, true, true, true, true, true, true, true, true, true, false, false, false, false, false, false, false, false, false, false, false, false, false, false, false, false, false, false, false, false] rfl rfl (by kernel_rfl) (fun _ _ _ h => h) (Or.inl ⟨by rfl, ?_⟩) ?_ ?_
              rotate_left
              · intro w'
                go_simp
                with_reducible rfl
              rotate_left
              · simp only [Act.put, List.setIfInBounds_toArray, List.set_cons_zero, List.set_cons_succ, i64_w, i32_w]
                rfl
              refine pure_ (i := 10) (N := some 130) (v := ?_) (a' := ?_) #[true, true, true, true, true, true, true, true, true, true, true, false, false, false, false, false, false, false, false, false, false, false, false, false, false, false, false, false, false, false] rfl rfl (by kernel_rfl) (fun _ _ _ h => h) (Or.inl ⟨by rfl, ?_⟩) ?_ ?_
              rotate_left
              · intro w'
                go_simp
                with_reducible rfl
              rotate_left
              · simp only [Act.put, List.setIfInBounds_toArray, List.set_cons_zero, List.set_cons_succ, i64_w, i32_w]
                rfl
              refine pure_ (i := 12) (N := some 132) (v := ?_) (a' := ?_) #[true, true, true, true, true, true, true, true, true, true, true, false, true, false, false, false, false, false, false, false, false, false, false, false, false, false, false, false, false, false] rfl rfl (by kernel_rfl) (fun _ _ _ h => h) (Or.inl ⟨by rfl, ?_⟩) ?_ ?_
              rotate_left
              · intro w'
                go_simp
                with_reducible rfl
              rotate_left
              · simp only [Act.put, List.setIfInBounds_toArray, List.set_cons_zero, List.set_cons_succ, i64_w, i32_w]
                rfl
              refine pure_ (i := 14) (N := some 134) (v := ?_) (a' := ?_) #[true, true, true, true, true, true, true, true, true, true, true, false, true, false, true, false, false, false, false, false, false, false, false, false, false, false, false, false, false, false] rfl rfl (by kernel_rfl) (fun _ _ _ h => h) (Or.inl ⟨by rfl, ?_⟩) ?_ ?_
              rotate_left
              · intro w'
                go_simp
                with_reducible rfl
              rotate_left
              · simp only [Act.put, List.setIfInBounds_toArray, List.set_cons_zero, List.set_cons_succ, i64_w, i32_w]
                rfl
              refine pure_ (i := 15) (N := some 135) (v := ?_) (a' := ?_) #[true, true, true, true, true, true, true, true, true, true, true, false, true, false, true, true, false, false, false, false, false, false, false, false, false, false, false, false, false, false] rfl rfl (by kernel_rfl) (fun _ _ _ h => h) (Or.inl ⟨by rfl, ?_⟩) ?_ ?_
              rotate_left
              · intro w'
                go_simp
                with_reducible rfl
              rotate_left
              · simp only [Act.put, List.setIfInBounds_toArray, List.set_cons_zero, List.set_cons_succ, i64_w, i32_w]
                rfl
              refine take_ (i := 11) (N := some 131) (v := ?_) (a' := ?_) #[true, true, true, true, true, true, true, true, true, true, true, true, true, false, true, true, false, false, false, false, false, false, false, false, false, false, false, false, false, false] rfl rfl (by kernel_rfl) (fun _ _ _ h => h) (Or.inl ⟨by rfl, ?_⟩) hHeld ?_ ?_
              rotate_left
              · rintro w' ⟨s0, s1, s2⟩
                go_simp
                with_reducible rfl
              rotate_left
              · simp only [Act.put, List.setIfInBounds_toArray, List.set_cons_zero, List.set_cons_succ, i64_w, i32_w]
                rfl
              refine take_ (i := 13) (N := some 133) (v := ?_) (a' := ?_) #[true, true, true, true, true, true, true, true, true, true, true, true, true, true, true, true, false, false, false, false, false, false, false, false, false, false, false, false, false, false] rfl rfl (by kernel_rfl) (fun _ _ _ h => h) (Or.inl ⟨by rfl, ?_⟩) hHeld ?_ ?_
              rotate_left
              · rintro w' ⟨s0, s1, s2⟩
                go_simp
                with_reducible rfl
              rotate_left
              · simp only [Act.put, List.setIfInBounds_toArray, List.set_cons_zero, List.set_cons_succ, i64_w, i32_w]
                rfl
              refine one_ (i := 16) (N := some 136) #[true, true, true, true, true, true, true, true, true, true, true, true, true, true, true, true, true, false, false, false, false, false, false, false, false, false, false, false, false, false] rfl rfl (by kernel_rfl) (by decide) (fun K hK => ?_)
              refine goes_ Try.func10 (by kernel_rfl) rfl #[.int .u16 t1, .int .i64 (wrap64 (-1 - n))] (by rfl) rfl rfl (by simp only [List.map_toArray, List.map_cons, List.map_nil]; rfl) ?_
              with_reducible refine (seq_Plus.calls t1 (wrap64 (-1 - n)) _ _ P2.out).mono ?_
              rintro e w53 ⟨rfl, ⟨nd, rfl⟩⟩
              refine ⟨_, rfl, ?_⟩
              have n0_ := Aside0.mk (blk_drewN BK129.out nd)
              have n1_ := Aside0.mk (blk_drewN BK.out nd)
              have n2_ := Aside0.mk (pw_below_drewN HB.out nd)
              clear BK129 BK HB
              have BK129 := n0_
              have BK := n1_
              have HB := n2_
              clear n0_ n1_ n2_
              refine hK.out _ _ ⟨(blk_cell BK129.out 0).trans rfl, (blk_cell BK129.out 1).trans rfl, (blk_cell BK.out n.toNat).trans HBV.out⟩ (fun hHeld => ?_)
              clear hK K
              refine norm_ (a' := ?_) ?_ ?_
              rotate_left
              · show Act.put _ (some 136) _ = _
                simp only [Act.put, List.setIfInBounds_toArray, List.set_cons_zero, List.set_cons_succ, i64_w, i32_w]
                rfl
              refine one_ (i := 17) (N := some 137) #[true, true, true, true, true, true, true, true, true, true, true, true, true, true, true, true, true, true, false, false, false, false, false, false, false, false, false, false, false, false] rfl rfl (by kernel_rfl) (by decide) (fun K hK => ?_)
              refine goes_ Try.func9 (by kernel_rfl) rfl #[.agg #[.int .u16 t1, .int .u32 (m : Int)], .int .u16 ((t1 + wrap64 (-1 - n)) % 65536)] (by rfl) rfl rfl (by simp only [List.map_toArray, List.map_cons, List.map_nil]; rfl) ?_
              with_reducible refine (ackmap_Has.calls t1 (m : Int) ((t1 + wrap64 (-1 - n)) % 65536) _ _ G2.out).mono ?_
              rintro e w53 ⟨rfl, hb⟩
              refine ⟨_, rfl, ?_⟩
              have n0_ := Aside0.mk (blk_below BK129.out hb)
              have n1_ := Aside0.mk (blk_below BK.out hb)
              have n2_ := Aside0.mk (below_step HB.out hb)
              clear BK129 BK HB hb
              have BK129 := n0_
              have BK := n1_
              have HB := n2_
              clear n0_ n1_ n2_
              refine hK.out _ _ ⟨(blk_cell BK129.out 0).trans rfl, (blk_cell BK129.out 1).trans rfl, (blk_cell BK.out n.toNat).trans HBV.out⟩ (fun hHeld => ?_)
              clear hK K
              refine norm_ (a' := ?_) ?_ ?_
              rotate_left
              · show Act.put _ (some 137) _ = _
                simp only [Act.put, List.setIfInBounds_toArray, List.set_cons_zero, List.set_cons_succ, i64_w, i32_w]
                rfl
              refine pure_ (i := 18) (N := some 138) (v := ?_) (a' := ?_) #[true, true, true, true, true, true, true, true, true, true, true, true, true, true, true, true, true, true, true, false, false, false, false, false, false, false, false, false, false, false] rfl rfl (by kernel_rfl) (fun _ _ _ h => h) (Or.inl ⟨by rfl, ?_⟩) ?_ ?_
              rotate_left
              · intro w'
                go_simp
                with_reducible rfl
              rotate_left
              · simp only [Act.put, List.setIfInBounds_toArray, List.set_cons_zero, List.set_cons_succ, i64_w, i32_w]
                rfl
              refine pure_ (i := 19) (N := some 139) (v := ?_) (a' := ?_) #[true, true, true, true, true, true, true, true, true, true, true, true, true, true, true, true, true, true, true, true, false, false, false, false, false, false, false, false, false, false] rfl rfl (by kernel_rfl) (fun _ _ _ h => h) (Or.inl ⟨by rfl, ?_⟩) ?_ ?_
              rotate_left
              · intro w'
                go_simp
                with_reducible rfl
              rotate_left
              · simp only [Act.put, List.setIfInBounds_toArray, List.set_cons_zero, List.set_cons_succ, i64_w, i32_w]
                rfl
              refine pure_ (i := 21) (N := some 141) (v := ?_) (a' := ?_) #[true, true, true, true, true, true, true, true, true, true, true, true, true, true, true, true, true, true, true, true, false, true, false, false, false, false, false, false, false, false] rfl rfl (by kernel_rfl) (fun _ _ _ h => h) (Or.inl ⟨by rfl, ?_⟩) ?_ ?_
              rotate_left
              · intro w'
                go_simp
                with_reducible rfl
              rotate_left
              · simp only [Act.put, List.setIfInBounds_toArray, List.set_cons_zero, List.set_cons_succ, i64_w, i32_w]
                rfl
              refine pure_ (i := 23) (N := some 143) (v := ?_) (a' := ?_) #[true, true, true, true, true, true, true, true, true, true, true, true, true, true, true, true, true, true, true, true, false, true, false, true, false, false, false, false, false, false] rfl rfl (by kernel_rfl) (fun _ _ _ h => h) (Or.inl ⟨by rfl, ?_⟩) ?_ ?_
              rotate_left
              · intro w'
                go_simp
                with_reducible rfl
              rotate_left
              · simp only [Act.put, List.setIfInBounds_toArray, List.set_cons_zero, List.set_cons_succ, i64_w, i32_w]
                rfl
              refine pure_ (i := 24) (N := some 144) (v := ?_) (a' := ?_) #[true, true, true, true, true, true, true, true, true, true, true, true, true, true, true, true, true, true, true, true, false, true, false, true, true, false, false, false, false, false] rfl rfl (by kernel_rfl) (fun _ _ _ h => h) (Or.inl ⟨by rfl, ?_⟩) ?_ ?_
              rotate_left
              · intro w'
                go_simp
                with_reducible rfl
              rotate_left
              · simp only [Act.put, List.setIfInBounds_toArray, List.set_cons_zero, List.set_cons_succ, i64_w, i32_w]
                rfl
              refine take_ (i := 20) (N := some 140) (v := ?_) (a' := ?_) #[true, true, true, true, true, true, true, true, true, true, true, true, true, true, true, true, true, true, true, true, true, true, false, true, true, false, false, false, false, false] rfl rfl (by kernel_rfl) (fun _ _ _ h => h) (Or.inl ⟨by rfl, ?_⟩) hHeld ?_ ?_
              rotate_left
              · rintro w' ⟨s0, s1, s2⟩
                go_simp
                with_reducible rfl
              rotate_left
              · simp only [Act.put, List.setIfInBounds_toArray, List.set_cons_zero, List.set_cons_succ, i64_w, i32_w]
                rfl
              refine take_ (i := 22) (N := some 142) (v := ?_) (a' := ?_) #[true, true, true, true, true, true, true, true, true, true, true, true, true, true, true, true, true, true, true, true, true, true, true, true, true, false, false, false, false, false] rfl rfl (by kernel_rfl) (fun _ _ _ h => h) (Or.inl ⟨by rfl, ?_⟩) hHeld ?_ ?_
              rotate_left
              · rintro w' ⟨s0, s1, s2⟩
                go_simp
                with_reducible rfl
              rotate_left
              · simp only [Act.put, List.setIfInBounds_toArray, List.set_cons_zero, List.set_cons_succ, i64_w, i32_w]
                rfl
              refine one_ (i := 25) (N := some 145) #[true, true, true, true, true, true, true, true, true, true, true, true, true, true, true, true, true, true, true, true, true, true, true, true, true, true, false, false, false, false] rfl rfl (by kernel_rfl) (by decide) (fun K hK => ?_)
              refine goes_ Try.func10 (by kernel_rfl) rfl #[.int .u16 t1, .int .i64 (wrap64 (33 + n))] (by rfl) rfl rfl (by simp only [List.map_toArray, List.map_cons, List.map_nil]; rfl) ?_
              with_reducible refine (seq_Plus.calls t1 (wrap64 (33 + n)) _ _ P3.out).mono ?_
              rintro e w53 ⟨rfl, ⟨nd, rfl⟩⟩
              refine ⟨_, rfl, ?_⟩
              have n0_ := Aside0.mk (blk_drewN BK129.out nd)
              have n1_ := Aside0.mk (blk_drewN BK.out nd)
              have n2_ := Aside0.mk (pw_below_drewN HB.out nd)
              clear BK129 BK HB
              have BK129 := n0_
              have BK := n1_
              have HB := n2_
              clear n0_ n1_ n2_
              refine hK.out _ _ ⟨(blk_cell BK129.out 0).trans rfl, (blk_cell BK129.out 1).trans rfl, (blk_cell BK.out n.toNat).trans HBV.out⟩ (fun hHeld => ?_)
              clear hK K
              refine norm_ (a' := ?_) ?_ ?_
              rotate_left
              · show Act.put _ (some 145) _ = _
                simp only [Act.put, List.setIfInBounds_toArray, List.set_cons_zero, List.set_cons_succ, i64_w, i32_w]
                rfl
              refine one_ (i := 26) (N := some 146) #[true, true, true, true, true, true, true, true, true, true, true, true, true, true, true, true, true, true, true, true, true, true, true, true, true, true, true, false, false, false] rfl rfl (by kernel_rfl) (by decide) (fun K hK => ?_)
              refine goes_ Try.func9 (by kernel_rfl) rfl #[.agg #[.int .u16 t1, .int .u32 (m : Int)], .int .u16 ((t1 + wrap64 (33 + n)) % 65536)] (by rfl) rfl rfl (by simp only [List.map_toArray, List.map_cons, List.map_nil]; rfl) ?_
              with_reducible refine (ackmap_Has.calls t1 (m : Int) ((t1 + wrap64 (33 + n)) % 65536) _ _ G3.out).mono ?_
              rintro e w53 ⟨rfl, hb⟩
              refine ⟨_, rfl, ?_⟩
              have n0_ := Aside0.mk (blk_below BK129.out hb)
              have n1_ := Aside0.mk (blk_below BK.out hb)
              have n2_ := Aside0.mk (below_step HB.out hb)
              clear BK129 BK HB hb
              have BK129 := n0_
              have BK := n1_
              have HB := n2_
              clear n0_ n1_ n2_
              refine hK.out _ _ ⟨(blk_cell BK129.out 0).trans rfl, (blk_cell BK129.out 1).trans rfl, (blk_cell BK.out n.toNat).trans HBV.out⟩ (fun hHeld => ?_)
              clear hK K
              refine norm_ (a' := ?_) ?_ ?_
              rotate_left
              · show Act.put _ (some 146) _ = _
                simp only [Act.put, List.setIfInBounds_toArray, List.set_cons_zero, List.set_cons_succ, i64_w, i32_w]
                rfl
              refine pure_ (i := 27) (N := some 147) (v := ?_) (a' := ?_) #[true, true, true, true, true, true, true, true, true, true, true, true, true, true, true, true, true, true, true, true, true, true, true, true, true, true, true, true, false, false] rfl rfl (by kernel_rfl) (fun _ _ _ h => h) (Or.inl ⟨by rfl, ?_⟩) ?_ ?_
              rotate_left
              · intro w'
                go_simp
                with_reducible rfl
              rotate_left
              · simp only [Act.put, List.setIfInBounds_toArray, List.set_cons_zero, List.set_cons_succ, i64_w, i32_w]
                rfl
              refine pure_ (i := 28) (N := some 148) (v := ?_) (a' := ?_) #[true, true, true, true, true, true, true, true, true, true, true, true, true, true, true, true, true, true, true, true, true, true, true, true, true, true, true, true, true, false] rfl rfl (by kernel_rfl) (fun _ _ _ h => h) (Or.inl ⟨by rfl, ?_⟩) ?_ ?_
              rotate_left
              · intro w'
                go_simp
                with_reducible rfl
              rotate_left
              · simp only [Act.put, List.setIfInBounds_toArray, List.set_cons_zero, List.set_cons_succ, i64_w, i32_w]
                rfl
              refine pure_ (i := 29) (N := some 6) (v := ?_) (a' := ?_) #[true, true, true, true, true, true, true, true, true, true, true, true, true, true, true, true, true, true, true, true, true, true, true, true, true, true, true, true, true, true] rfl rfl (by kernel_rfl) (fun _ _ _ h => h) (Or.inl ⟨by rfl, ?_⟩) ?_ ?_
              rotate_left
              · intro w'
                go_simp
                with_reducible rfl
              rotate_left
              · simp only [Act.put, List.setIfInBounds_toArray, List.set_cons_zero, List.set_cons_succ, i64_w, i32_w]
                rfl
              refine done_ (by kernel_rfl) ?_
              go_wp2
              go_ret
              exact ⟨rfl, HB.out⟩
            · skip
              refine start_ (n := 30) (S := fun w' => w'.cell? ⟨gb129, 0, none⟩ = some (.int .u16 t1) ∧ w'.cell? ⟨gb129, 1, none⟩ = some (.int .u32 (m : Int)) ∧ w'.cell? ⟨g, n.toNat, none⟩ = some (.bool true)) (ds := []) #[false, false, false, false, false, false, false, false, false, false, false, false, false, false, false, false, false, false, false, false, false, false, false, false, false, false, false, false, false, false] (by kernel_rfl) rfl rfl ⟨(blk_cell BK129.out 0).trans rfl, (blk_cell BK129.out 1).trans rfl, (blk_cell BK.out n.toNat).trans HBV.out⟩ (fun hHeld => ?_)
              generalize wr.drew = w49 at BK129 BK HB hHeld ⊢
              refine pure_ (i := 1) (N := some 121) (v := ?_) (a' := ?_) #[false, true, false, false, false, false, false, false, false, false, false, false, false, false, false, false, false, false, false, false, false, false, false, false, false, false, false, false, false, false] rfl rfl (by kernel_rfl) (fun _ _ _ h => h) (Or.inl ⟨by rfl, ?_⟩) ?_ ?_
              rotate_left
              · intro w'
                go_simp
                with_reducible rfl
              rotate_left
              · simp only [Act.put, List.setIfInBounds_toArray, List.set_cons_zero, List.set_cons_succ, i64_w, i32_w]
                rfl
              refine pure_ (i := 3) (N := some 123) (v := ?_) (a' := ?_) #[false, true, false, true, false, false, false, false, false, false, false, false, false, false, false, false, false, false, false, false, false, false, false, false, false, false, false, false, false, false] rfl rfl (by kernel_rfl) (fun _ _ _ h => h) (Or.inl ⟨by rfl, ?_⟩) ?_ ?_
              rotate_left
              · intro w'
                go_simp
                with_reducible rfl
              rotate_left
              · simp only [Act.put, List.setIfInBounds_toArray, List.set_cons_zero, List.set_cons_succ, i64_w, i32_w]
                rfl
              refine pure_ (i := 6) (N := some 126) (v := ?_) (a' := ?_) #[false, true, false, true, false, false, true, false, false, false, false, false, false, false, false, false, false, false, false, false, false, false, false, false, false, false, false, false, false, false] rfl rfl (by kernel_rfl) (fun _ _ _ h => h) (Or.inl ⟨by rfl, ?_⟩) ?_ ?_
              rotate_left
              · intro w'
                go_simp
                with_reducible rfl
              rotate_left
              · simp only [Act.put, List.setIfInBounds_toArray, List.set_cons_zero, List.set_cons_succ, i64_w, i32_w]
                rfl
              refine pure_ (i := 7) (N := some 127) (v := ?_) (a' := ?_) #[false, true, false, true, false, false, true, true, false, false, false, false, false, false, false, false, false, false, false, false, false, false, false, false, false, false, false, false, false, false] rfl rfl (by kernel_rfl) (fun _ _ _ h => h) (Or.inl ⟨by rfl, ?_⟩) ?_ ?_
              rotate_left
              · intro w'
                go_simp
                with_reducible rfl
              rotate_left
              · simp only [Act.put, List.setIfInBounds_toArray, List.set_cons_zero, List.set_cons_succ, i64_w, i32_w]
                rfl
              refine take_ (i := 0) (N := some 120) (v := ?_) (a' := ?_) #[true, true, false, true, false, false, true, true, false, false, false, false, false, false, false, false, false, false, false, false, false, false, false, false, false, false, false, false, false, false] rfl rfl (by kernel_rfl) (fun _ _ _ h => h) (Or.inl ⟨by rfl, ?_⟩) hHeld ?_ ?_
              rotate_left
              · rintro w' ⟨s0, s1, s2⟩
                go_simp
                with_reducible rfl
              rotate_left
              · simp only [Act.put, List.setIfInBounds_toArray, List.set_cons_zero, List.set_cons_succ, i64_w, i32_w]
                rfl
              refine take_ (i := 2) (N := some 122) (v := ?_) (a' := ?_) #[true, true, true, true, false, false, true, true, false, false, false, false, false, false, false, false, false, false, false, false, false, false, false, false, false, false, false, false, false, false] rfl rfl (by kernel_rfl) (fun _ _ _ h => h) (Or.inl ⟨by rfl, ?_⟩) hHeld ?_ ?_
              rotate_left
              · rintro w' ⟨s0, s1, s2⟩
                go_simp
                with_reducible rfl
              rotate_left
              · simp only [Act.put, List.setIfInBounds_toArray, List.set_cons_zero, List.set_cons_succ, i64_w, i32_w]
                rfl
              refine take_ (i := 8) (N := some 128) (v := ?_) (a' := ?_) #[true, true, true, true, false, false, true, true, true, false, false, false, false, false, false, false, false, false, false, false, false, false, false, false, false, false, false, false, false, false] rfl rfl (by kernel_rfl) (fun _ _ _ h => h) (Or.inl ⟨by rfl, ?_⟩) hHeld ?_ ?_
              rotate_left
              · rintro w' ⟨s0, s1, s2⟩
                go_simp
                with_reducible rfl
              rotate_left
              · simp only [Act.put, List.setIfInBounds_toArray, List.set_cons_zero, List.set_cons_succ, i64_w, i32_w]
                rfl
              refine one_ (i := 4) (N := some 124) #[true, true, true, true, true, false, true, true, true, false, false, false, false, false, false, false, false, false, false, false, false, false, false, false, false, false, false, false, false, false] rfl rfl (by kernel_rfl) (by decide) (fun K hK => ?_)
              refine goes_ Try.func10 (by kernel_rfl) rfl #[.int .u16 t1, .int .i64 n] (by rfl) rfl rfl (by simp only [List.map_toArray, List.map_cons, List.map_nil]; rfl) ?_
              with_reducible refine (seq_Plus.calls t1 n _ _ P1.out).mono ?_
              rintro e w53 ⟨rfl, ⟨nd, rfl⟩⟩
              refine ⟨_, rfl, ?_⟩
              have n0_ := Aside0.mk (blk_drewN BK129.out nd)
              have n1_ := Aside0.mk (blk_drewN BK.out nd)
              have n2_ := Aside0.mk (pw_below_drewN HB.out nd)
              clear BK129 BK HB
              have BK129 := n0_
              have BK := n1_
              have HB := n2_
              clear n0_ n1_ n2_
              refine hK.out _ _ ⟨(blk_cell BK129.out 0).trans rfl, (blk_cell BK129.out 1).trans rfl, (blk_cell BK.out n.toNat).trans HBV.out⟩ (fun hHeld => ?_)
              clear hK K
              refine norm_ (a' := ?_) ?_ ?_
              rotate_left
              · show Act.put _ (some 124) _ = _
                simp only [Act.put, List.setIfInBounds_toArray, List.set_cons_zero, List.set_cons_succ, i64_w, i32_w]
                rfl
              refine one_ (i := 5) (N := some 125) #[true, true, true, true, true, true, true, true, true, false, false, false, false, false, false, false, false, false, false, false, false, false, false, false, false, false, false, false, false, false] rfl rfl (by kernel_rfl) (by decide) (fun K hK => ?_)
              refine goes_ Try.func9 (by kernel_rfl) rfl #[.agg #[.int .u16 t1, .int .u32 (m : Int)], .int .u16 ((t1 + n) % 65536)] (by rfl) rfl rfl (by simp only [List.map_toArray, List.map_cons, List.map_nil]; rfl) ?_
              with_reducible refine (ackmap_Has.calls t1 (m : Int) ((t1 + n) % 65536) _ _ G1.out).mono ?_
              rintro e w53 ⟨rfl, hb⟩
              refine ⟨_, rfl, ?_⟩
              have n0_ := Aside0.mk (blk_below BK129.out hb)
              have n1_ := Aside0.mk (blk_below BK.out hb)
              have n2_ := Aside0.mk (below_step HB.out hb)
              clear BK129 BK HB hb
              have BK129 := n0_
              have BK := n1_
              have HB := n2_
              clear n0_ n1_ n2_
              refine hK.out _ _ ⟨(blk_cell BK129.out 0).trans rfl, (blk_cell BK129.out 1).trans rfl, (blk_cell BK.out n.toNat).trans HBV.out⟩ (fun hHeld => ?_)
              clear hK K
              refine norm_ (a' := ?_) ?_ ?_
              rotate_left
              · show Act.put _ (some 125) _ = _
                simp only [Act.put, List.setIfInBounds_toArray, List.set_cons_zero, List.set_cons_succ, i64_w, i32_w]
                rfl
              refine pure_ (i := 9) (N := some 129) (v := ?_) (a' := ?_) #[true, true, true, true, true, true, true, true, true, true, false, false, false, false, false, false, false, false, false, false, false, false, false, false, false, false, false, false, false, false] rfl rfl (by kernel_rfl) (fun _ _ _ h => h) (Or.inl ⟨by rfl, ?_⟩) ?_ ?_
              rotate_left
              · intro w'
                go_simp
                with_reducible rfl
              rotate_left
              · simp only [Act.put, List.setIfInBounds_toArray, List.set_cons_zero, List.set_cons_succ, i64_w, i32_w]
                rfl
              refine pure_ (i := 10) (N := some 130) (v := ?_) (a' := ?_) #[true, true, true, true, true, true, true, true, true, true, true, false, false, false, false, false, false, false, false, false, false, false, false, false, false, false, false, false, false, false] rfl rfl (by kernel_rfl) (fun _ _ _ h => h) (Or.inl ⟨by rfl, ?_⟩) ?_ ?_
              rotate_left
              · intro w'
                go_simp
                with_reducible rfl
              rotate_left
              · simp only [Act.put, List.setIfInBounds_toArray, List.set_cons_zero, List.set_cons_succ, i64_w, i32_w]
                rfl
              refine pure_ (i := 12) (N := some 132) (v := ?_) (a' := ?_) #[true, true, true, true, true, true, true, true, true, true, true, false, true, false, false, false, false, false, false, false, false, false, false, false, false, false, false, false, false, false] rfl rfl (by kernel_rfl) (fun _ _ _ h => h) (Or.inl ⟨by rfl, ?_⟩) ?_ ?_
              rotate_left
              · intro w'
                go_simp
                with_reducible rfl
              rotate_left
              · simp only [Act.put, List.setIfInBounds_toArray, List.set_cons_zero, List.set_cons_succ, i64_w, i32_w]
                rfl
              refine pure_ (i := 14) (N := some 134) (v := ?_) (a' := ?_) #[true, true, true, true, true, true, true, true, true, true, true, false, true, false, true, false, false, false, false, false, false, false, false, false, false, false, false, false, false, false] rfl rfl (by kernel_rfl) (fun _ _ _ h => h) (Or.inl ⟨by rfl, ?_⟩) ?_ ?_
              rotate_left
              · intro w'
                go_simp
                with_reducible rfl
              rotate_left
              · simp only [Act.put, List.setIfInBounds_toArray, List.set_cons_zero, List.set_cons_succ, i64_w, i32_w]
                rfl
              refine pure_ (i := 15) (N := some 135) (v := ?_) (a' := ?_) #[true, true, true, true, true, true, true, true, true, true, true, false, true, false, true, true, false, false, false, false, false, false, false, false, false, false, false, false, false, false] rfl rfl (by kernel_rfl) (fun _ _ _ h => h) (Or.inl ⟨by rfl, ?_⟩) ?_ ?_
              rotate_left
              · intro w'
                go_simp
                with_reducible rfl
              rotate_left
              · simp only [Act.put, List.setIfInBounds_toArray, List.set_cons_zero, List.set_cons_succ, i64_w, i32_w]
                rfl
              refine take_ (i := 11) (N := some 131) (v := ?_) (a' := ?_) #[true, true, true, true, true, true, true, true, true, true, true, true, true, false, true, true, false, false, false, false, false, false, false, false, false, false, false, false, false, false] rfl rfl (by kernel_rfl) (fun _ _ _ h => h) (Or.inl ⟨by rfl, ?_⟩) hHeld ?_ ?_
              rotate_left
              · rintro w' ⟨s0, s1, s2⟩
                go_simp
                with_reducible rfl
              rotate_left
              · simp only [Act.put, List.setIfInBounds_toArray, List.set_cons_zero, List.set_cons_succ, i64_w, i32_w]
                rfl
              refine take_ (i := 13) (N := some 133) (v := ?_) (a' := ?_) #[true, true, true, true, true, true, true, true, true, true, true, true, true, true, true, true, false, false, false, false, false, false, false, false, false, false, false, false, false, false] rfl rfl (by kernel_rfl) (fun _ _ _ h => h) (Or.inl ⟨by rfl, ?_⟩) hHeld ?_ ?_
              rotate_left
              · rintro w' ⟨s0, s1, s2⟩
                go_simp
                with_reducible rfl
              rotate_left
              · simp only [Act.put, List.setIfInBounds_toArray, List.set_cons_zero, List.set_cons_succ, i64_w, i32_w]
                rfl
              refine one_ (i := 16) (N := some 136) #[true, true, true, true, true, true, true, true, true, true, true, true, true, true, true, true, true, false, false, false, false, false, false, false, false, false, false, false, false, false] rfl rfl (by kernel_rfl) (by decide) (fun K hK => ?_)
              refine goes_ Try.func10 (by kernel_rfl) rfl #[.int .u16 t1, .int .i64 (wrap64 (-1 - n))] (by rfl) rfl rfl (by simp only [List.map_toArray, List.map_cons, List.map_nil]; rfl) ?_
              with_reducible refine (seq_Plus.calls t1 (wrap64 (-1 - n)) _ _ P2.out).mono ?_
              rintro e w53 ⟨rfl, ⟨nd, rfl⟩⟩
              refine ⟨_, rfl, ?_⟩
              have n0_ := Aside0.mk (blk_drewN BK129.out nd)
              have n1_ := Aside0.mk (blk_drewN BK.out nd)
              have n2_ := Aside0.mk (pw_below_drewN HB.out nd)
              clear BK129 BK HB
              have BK129 := n0_
              have BK := n1_
              have HB := n2_
              clear n0_ n1_ n2_
              refine hK.out _ _ ⟨(blk_cell BK129.out 0).trans rfl, (blk_cell BK129.out 1).trans rfl, (blk_cell BK.out n.toNat).trans HBV.out⟩ (fun hHeld => ?_)
              clear hK K
              refine norm_ (a' := ?_) ?_ ?_
              rotate_left
              · show Act.put _ (some 136) _ = _
                simp only [Act.put, List.setIfInBounds_toArray, List.set_cons_zero, List.set_cons_succ, i64_w, i32_w]
                rfl
              refine one_ (i := 17) (N := some 137) #[true, true, true, true, true, true, true, true, true, true, true, true, true, true, true, true, true, true, false, false, false, false, false, false, false, false, false, false, false, false] rfl rfl (by kernel_rfl) (by decide) (fun K hK => ?_)
              refine goes_ Try.func9 (by kernel_rfl) rfl #[.agg #[.int .u16 t1, .int .u32 (m : Int)], .int .u16 ((t1 + wrap64 (-1 - n)) % 65536)] (by rfl) rfl rfl (by simp only [List.map_toArray, List.map_cons, List.map_nil]; rfl) ?_
              with_reducible refine (ackmap_Has.calls t1 (m : Int) ((t1 + wrap64 (-1 - n)) % 65536) _ _ G2.out).mono ?_
              rintro e w53 ⟨rfl, hb⟩
              refine ⟨_, rfl, ?_⟩
              have n0_ := Aside0.mk (blk_below BK129.out hb)
              have n1_ := Aside0.mk (blk_below BK.out hb)
              have n2_ := Aside0.mk (below_step HB.out hb)
              clear BK129 BK HB hb
              have BK129 := n0_
              have BK := n1_
              have HB := n2_
              clear n0_ n1_ n2_
              refine hK.out _ _ ⟨(blk_cell BK129.out 0).trans rfl, (blk_cell BK129.out 1).trans rfl, (blk_cell BK.out n.toNat).trans HBV.out⟩ (fun hHeld => ?_)
              clear hK K
              refine norm_ (a' := ?_) ?_ ?_
              rotate_left
              · show Act.put _ (some 137) _ = _
                simp only [Act.put, List.setIfInBounds_toArray, List.set_cons_zero, List.set_cons_succ, i64_w, i32_w]
                rfl
              refine pure_ (i := 18) (N := some 138) (v := ?_) (a' := ?_) #[true, true, true, true, true, true, true, true, true, true, true, true, true, true, true, true, true, true, true, false, false, false, false, false, false, false, false, false, false, false] rfl rfl (by kernel_rfl) (fun _ _ _ h => h) (Or.inl ⟨by rfl, ?_⟩) ?_ ?_
              rotate_left
              · intro w'
                go_simp
                with_reducible rfl
              rotate_left
              · simp only [Act.put, List.setIfInBounds_toArray, List.set_cons_zero, List.set_cons_succ, i64_w, i32_w]
                rfl
              refine pure_ (i := 19) (N := some 139) (v := ?_) (a' := ?_) #[true, true, true, true, true, true, true, true, true, true, true, true, true, true, true, true, true, true, true, true, false, false, false, false, false, false, false, false, false, false] rfl rfl (by kernel_rfl) (fun _ _ _ h => h) (Or.inl ⟨by rfl, ?_⟩) ?_ ?_
              rotate_left
              · intro w'
                go_simp
                with_reducible rfl
              rotate_left
              · simp only [Act.put, List.setIfInBounds_toArray, List.set_cons_zero, List.set_cons_succ, i64_w, i32_w]
                rfl
              refine pure_ (i := 21) (N := some 141) (v := ?_) (a' := ?_) #[true, true, true, true, true, true, true, true, true, true, true, true, true, true, true, true, true, true, true, true, false, true, false, false, false, false, false, false, false, false] rfl rfl (by kernel_rfl) (fun _ _ _ h => h) (Or.inl ⟨by rfl, ?_⟩) ?_ ?_
              rotate_left
              · intro w'
                go_simp
                with_reducible rfl
              rotate_left
              · simp only [Act.put, List.setIfInBounds_toArray, List.set_cons_zero, List.set_cons_succ, i64_w, i32_w]
                rfl
              refine pure_ (i := 23) (N := some 143) (v := ?_) (a' := ?_) #[true, true, true, true, true, true, true, true, true, true, true, true, true, true, true, true, true, true, true, true, false, true, false, true, false, false, false, false, false, false] rfl rfl (by kernel_rfl) (fun _ _ _ h => h) (Or.inl ⟨by rfl, ?_⟩) ?_ ?_
              rotate_left
              · intro w'
                go_simp
                with_reducible rfl
              rotate_left
              · simp only [Act.put, List.setIfInBounds_toArray, List.set_cons_zero, List.set_cons_succ, i64_w, i32_w]
                rfl
              refine pure_ (i := 24) (N := some 144) (v := ?_) (a' := ?_) #[true, true, true, true, true, true, true, true, true, true, true, true, true, true, true, true, true, true, true, true, false, true, false, true, true, false, false, false, false, false] rfl rfl (by kernel_rfl) (fun _ _ _ h => h) (Or.inl ⟨by rfl, ?_⟩) ?_ ?_
              rotate_left
              · intro w'
                go_simp
                with_reducible rfl
              rotate_left
              · simp only [Act.put, List.setIfInBounds_toArray, List.set_cons_zero, List.set_cons_succ, i64_w, i32_w]
                rfl
              refine take_ (i := 20) (N := some 140) (v := ?_) (a' := ?_) #[true, true, true, true, true, true, true, true, true, true, true, true, true, true, true, true, true, true, true, true, true, true, false, true, true, false, false, false, false, false] rfl rfl (by kernel_rfl) (fun _ _ _ h => h) (Or.inl ⟨by rfl, ?_⟩) hHeld ?_ ?_
              rotate_left
              · rintro w' ⟨s0, s1, s2⟩
                go_simp
                with_reducible rfl
              rotate_left
              · simp only [Act.put, List.setIfInBounds_toArray, List.set_cons_zero, List.set_cons_succ, i64_w, i32_w]
                rfl
              refine take_ (i := 22) (N := some 142) (v := ?_) (a' := ?_) #[true, true, true, true, true, true, true, true, true, true, true, true, true, true, true, true, true, true, true, true, true, true, true, true, true, false, false, false, false, false] rfl rfl (by kernel_rfl) (fun _ _ _ h => h) (Or.inl ⟨by rfl, ?_⟩) hHeld ?_ ?_
              rotate_left
              · rintro w' ⟨s0, s1, s2⟩
                go_simp
                with_reducible rfl
              rotate_left
              · simp only [Act.put, List.setIfInBounds_toArray, List.set_cons_zero, List.set_cons_succ, i64_w, i32_w]
                rfl
              refine one_ (i := 25) (N := some 145) #[true, true, true, true, true, true, true, true, true, true, true, true, true, true, true, true, true, true, true, true, true, true, true, true, true, true, false, false, false, false] rfl rfl (by kernel_rfl) (by decide) (fun K hK => ?_)
              refine goes_ Try.func10 (by kernel_rfl) rfl #[.int .u16 t1, .int .i64 (wrap64 (33 + n))] (by rfl) rfl rfl (by simp only [List.map_toArray, List.map_cons, List.map_nil]; rfl) ?_
              with_reducible refine (seq_Plus.calls t1 (wrap64 (33 + n)) _ _ P3.out).mono ?_
              rintro e w53 ⟨rfl, ⟨nd, rfl⟩⟩
              refine ⟨_, rfl, ?_⟩
              have n0_ := Aside0.mk (blk_drewN BK129.out nd)
              have n1_ := Aside0.mk (blk_drewN BK.out nd)
              have n2_ := Aside0.mk (pw_below_drewN HB.out nd)
              clear BK129 BK HB
              have BK129 := n0_
              have BK := n1_
              have HB := n2_
              clear n0_ n1_ n2_
              refine hK.out _ _ ⟨(blk_cell BK129.out 0).trans rfl, (blk_cell BK129.out 1).trans rfl, (blk_cell BK.out n.toNat).trans HBV.out⟩ (fun hHeld => ?_)
              clear hK K
              refine norm_ (a' := ?_) ?_ ?_
              rotate_left
              · show Act.put _ (some 145) _ = _
                simp only [Act.put, List.setIfInBounds_toArray, List.set_cons_zero, List.set_cons_succ, i64_w, i32_w]
                rfl
              refine one_ (i := 26) (N := some 146) #[true, true, true, true, true, true, true, true, true, true, true, true, true, true, true, true, true, true, true, true, true, true, true, true, true, true, true, false, false, false] rfl rfl (by kernel_rfl) (by decide) (fun K hK => ?_)
              refine goes_ Try.func9 (by kernel_rfl) rfl #[.agg #[.int .u16 t1, .int .u32 (m : Int)], .int .u16 ((t1 + wrap64 (33 + n)) % 65536)] (by rfl) rfl rfl (by simp only [List.map_toArray, List.map_cons, List.map_nil]; rfl) ?_
              with_reducible refine (ackmap_Has.calls t1 (m : Int) ((t1 + wrap64 (33 + n)) % 65536) _ _ G3.out).mono ?_
              rintro e w53 ⟨rfl, hb⟩
              refine ⟨_, rfl, ?_⟩
              have n0_ := Aside0.mk (blk_below BK129.out hb)
              have n1_ := Aside0.mk (blk_below BK.out hb)
              have n2_ := Aside0.mk (below_step HB.out hb)
              clear BK129 BK HB hb
              have BK129 := n0_
              have BK := n1_
              have HB := n2_
              clear n0_ n1_ n2_
              refine hK.out _ _ ⟨(blk_cell BK129.out 0).trans rfl, (blk_cell BK129.out 1).trans rfl, (blk_cell BK.out n.toNat).trans HBV.out⟩ (fun hHeld => ?_)
              clear hK K
              refine norm_ (a' := ?_) ?_ ?_
              rotate_left
              · show Act.put _ (some 146) _ = _
                simp only [Act.put, List.setIfInBounds_toArray, List.set_cons_zero, List.set_cons_succ, i64_w, i32_w]
                rfl
              refine pure_ (i := 27) (N := some 147) (v := ?_) (a' := ?_) #[true, true, true, true, true, true, true, true, true, true, true, true, true, true, true, true, true, true, true, true, true, true, true, true, true, true, true, true, false, false] rfl rfl (by kernel_rfl) (fun _ _ _ h => h) (Or.inl ⟨by rfl, ?_⟩) ?_ ?_
              rotate_left
              · intro w'
                go_simp
                with_reducible rfl
              rotate_left
              · simp only [Act.put, List.setIfInBounds_toArray, List.set_cons_zero, List.set_cons_succ, i64_w, i32_w]
                rfl
              refine pure_ (i := 28) (N := some 148) (v := ?_) (a' := ?_) #[true, true, true, true, true, true, true, true, true, true, true, true, true, true, true, true, true, true, true, true, true, true, true, true, true, true, true, true, true, false] rfl rfl (by kernel_rfl) (fun _ _ _ h => h) (Or.inl ⟨by rfl, ?_⟩) ?_ ?_
              rotate_left
              · intro w'
                go_simp
                with_reducible rfl
              rotate_left
              · simp only [Act.put, List.setIfInBounds_toArray, List.set_cons_zero, List.set_cons_succ, i64_w, i32_w]
                rfl
              refine pure_ (i := 29) (N := some 6) (v := ?_) (a' := ?_) #[true, true, true, true, true, true, true, true, true, true, true, true, true, true, true, true, true, true, true, true, true, true, true, true, true, true, true, true, true, true] rfl rfl (by kernel_rfl) (fun _ _ _ h => h) (Or.inl ⟨by rfl, ?_⟩) ?_ ?_
              rotate_left
              · intro w'
                go_simp
                with_reducible rfl
              rotate_left
              · simp only [Act.put, List.setIfInBounds_toArray, List.set_cons_zero, List.set_cons_succ, i64_w, i32_w]
                rfl
              refine done_ (by kernel_rfl) ?_
              go_wp2
              go_ret
              exact ⟨rfl, HB.out⟩
theorem law (a0 : Int) (a1 : Option Addr) (len1 cap1 : Nat) (z1 : List Int) (a2 : Int) (w : World) (w0 : (Lit.int .u16 a0).wf = true) (w1 : (a1 = none ∧ len1 = 0 ∧ cap1 = 0 ∧ z1 = []) ∨ ∃ x, a1 = some x ∧ len1 ≤ cap1 ∧ cap1 ≤ maxLen ∧ z1.length = cap1 ∧ (∀ i, i < z1.length → w.cell? (x.add i) = some (.int .i64 (z1.getD i 0))) ∧ ∀ n ∈ z1, (Lit.int .i64 n).wf = true) :
    Calls Try.prog 3 #[.int .u16 a0, .slice a1 len1 cap1, .int .i64 a2] w fun e w' => e = .returned (.bool true) ∧ Below w.heap.size w w' := by
  obtain ⟨l1, rfl, hr1, hm1, hw1, hc1⟩ := ReadsInt.ofRowC w1
  obtain ⟨b0, b1⟩ := wf_u16 w0
  exact walk a0 _ _ l1 a2 w b0 b1 (Kd.C_of_reads (d := (0 : Int)) (h1 := fun _ => rfl) hr1) hc1
end Go.Proofs.Ytkafpcboflmdoaa.Mine
