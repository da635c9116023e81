/- The walk of crc32's sum over bytes. Condition: the bytes lie in their range. -/
import Derived.Test.YteomnlkfnfgkkaaDoorCrc
namespace Go.Proofs.YteomnlkfnfgkkaaDoor.Q
open Go.RowKit Go.Proofs.YteomnlkfnfgkkaaDoorW.PrintWords Go.Proofs.YteomnlkfnfgkkaaDoorW.PrintLast Go.Proofs.YteomnlkfnfgkkaaDoorW.PrintMore
attribute [local go_sem] max2_int min2_int max_two min_two max_three min_three max_four min_four   -- for this text's walks alone
set_option linter.unusedVariables false
set_option linter.unusedSimpArgs false
theorem u32_in (x : Int) : 0 ≤ IntKind.u32.wrap x ∧ IntKind.u32.wrap x < 4294967296 := by
  rw [show IntKind.u32.wrap x = x % 4294967296 by simp [IntKind.wrap, IntKind.signed, IntKind.bits]]
  omega
/-- Half a byte's step; a byte's; all. -/
def halfS (a : Int) : Int := Go.bits .xor .u32 (a / 16) (rd tabL (Int.tmod a 16))
def byteS (n c : Int) : Int := halfS (halfS (Go.bits .xor .u32 n (c % 4294967296)))
def sumN (l : List Int) : Nat → Int
  | 0 => 4294967295
  | i + 1 => byteS (sumN l i) (rd l (i : Int))
theorem xor_in (a b : Int) : 0 ≤ Go.bits .xor .u32 a b ∧ Go.bits .xor .u32 a b < 4294967296 := by
  unfold Go.bits
  exact u32_in _
theorem mod_in (a : Int) (h : 0 ≤ a) : 0 ≤ Int.tmod a 16 ∧ Int.tmod a 16 < 16 := by
  rw [Int.tmod_eq_emod_of_nonneg h]; omega
theorem tab_expl : blkT tabL = #[.int .u32 0, .int .u32 498536548, .int .u32 997073096, .int .u32 651767980, .int .u32 1994146192, .int .u32 1802195444, .int .u32 1303535960, .int .u32 1342533948, .int .u32 3988292384, .int .u32 4027552580, .int .u32 3604390888, .int .u32 3412177804, .int .u32 2607071920, .int .u32 2262029012, .int .u32 2685067896, .int .u32 3183342108] := rfl
set_option maxHeartbeats 8000000 in
set_option maxRecDepth 100000 in
theorem sum_calls (A0 : Option Addr) (c0 : Nat) (l0 : List Int) (w : World) (hr0 : Kd.C (Kd.int .u8) w A0 l0.length l0) (hl : l0.length ≤ 1000) : Calls Tryd.prog 16 #[.slice A0 l0.length c0] w fun e w' => e = .returned (.int .u32 (Go.bits .xor .u32 IntKind.u32.max (sumN l0 l0.length))) ∧ Below w.heap.size w w' := by
  have HB := Aside0.mk (Below.refl w.heap.size w)
  have HR := Aside0.mk hr0
  have HL := Aside0.mk hl
  clear hr0 hl
  go_enter Tryd.func16, Tryd.ntmps16
  go_upto_block 0 with (first | ((with_reducible refine gate_callee (f := 29) rfl ?_); refine goesL_ (some 7) rfl rfl Tryd.func29 (by kernel_rfl) rfl #[] rfl (by (try simp only [List.map_toArray, List.map_cons, List.map_nil]); first | done | rfl) ?_; (with_reducible refine (build_calls _).mono ?_); rintro e w3 ⟨rfl, hb⟩; rw [tab_expl]; refine ⟨_, rfl, ?_⟩; have n0_ := Aside0.mk (below_step HB.out hb); clear HB hb; have HB := n0_; clear n0_) | ((with_reducible refine gate_dst (N := 3) rfl ?_); refine box_event ?hg (N := 3) ?hd (cs := blkT (rowsT 0)) (t := 72) ?hr ?_; (case hd => rfl); (case hg => rfl); (case hr => first | (go_simp; done) | (go_simp; rfl)); intro g hg w4 hbox hb; have n1_ := Aside0.mk (below_step HB.out hb); have GE := Aside0.mk ((by rw [hg]; exact (below_size HB.out)) : w.heap.size ≤ g); have BK := Aside0.mk hbox; clear HB hb hbox hg; have HB := n1_; clear n1_; have hy0 : w4.cell? ⟨g, 0, none⟩ = some (.int .u32 0) := (blk_cell BK.out 0).trans rfl; have hf0 := blk_frozen BK.out 0; have hy1 : w4.cell? ⟨g, 1, none⟩ = some (.int .u32 0) := (blk_cell BK.out 1).trans rfl; have hf1 := blk_frozen BK.out 1; have hy2 : w4.cell? ⟨g, 2, none⟩ = some (.int .u32 0) := (blk_cell BK.out 2).trans rfl; have hf2 := blk_frozen BK.out 2; have hy3 : w4.cell? ⟨g, 3, none⟩ = some (.int .u32 0) := (blk_cell BK.out 3).trans rfl; have hf3 := blk_frozen BK.out 3; have hy4 : w4.cell? ⟨g, 4, none⟩ = some (.int .u32 0) := (blk_cell BK.out 4).trans rfl; have hf4 := blk_frozen BK.out 4; have hy5 : w4.cell? ⟨g, 5, none⟩ = some (.int .u32 0) := (blk_cell BK.out 5).trans rfl; have hf5 := blk_frozen BK.out 5; have hy6 : w4.cell? ⟨g, 6, none⟩ = some (.int .u32 0) := (blk_cell BK.out 6).trans rfl; have hf6 := blk_frozen BK.out 6; have hy7 : w4.cell? ⟨g, 7, none⟩ = some (.int .u32 0) := (blk_cell BK.out 7).trans rfl; have hf7 := blk_frozen BK.out 7; have hy8 : w4.cell? ⟨g, 8, none⟩ = some (.int .u32 0) := (blk_cell BK.out 8).trans rfl; have hf8 := blk_frozen BK.out 8; have hy9 : w4.cell? ⟨g, 9, none⟩ = some (.int .u32 0) := (blk_cell BK.out 9).trans rfl; have hf9 := blk_frozen BK.out 9; have hy10 : w4.cell? ⟨g, 10, none⟩ = some (.int .u32 0) := (blk_cell BK.out 10).trans rfl; have hf10 := blk_frozen BK.out 10; have hy11 : w4.cell? ⟨g, 11, none⟩ = some (.int .u32 0) := (blk_cell BK.out 11).trans rfl; have hf11 := blk_frozen BK.out 11; have hy12 : w4.cell? ⟨g, 12, none⟩ = some (.int .u32 0) := (blk_cell BK.out 12).trans rfl; have hf12 := blk_frozen BK.out 12; have hy13 : w4.cell? ⟨g, 13, none⟩ = some (.int .u32 0) := (blk_cell BK.out 13).trans rfl; have hf13 := blk_frozen BK.out 13; have hy14 : w4.cell? ⟨g, 14, none⟩ = some (.int .u32 0) := (blk_cell BK.out 14).trans rfl; have hf14 := blk_frozen BK.out 14; have hy15 : w4.cell? ⟨g, 15, none⟩ = some (.int .u32 0) := (blk_cell BK.out 15).trans rfl; have hf15 := blk_frozen BK.out 15))
  have n0_ := Aside0.mk (blk_put (cs' := #[.int .u32 0, .int .u32 498536548, .int .u32 997073096, .int .u32 651767980, .int .u32 1994146192, .int .u32 1802195444, .int .u32 1303535960, .int .u32 1342533948, .int .u32 3988292384, .int .u32 4027552580, .int .u32 3604390888, .int .u32 3412177804, .int .u32 2607071920, .int .u32 2262029012, .int .u32 2685067896, .int .u32 3183342108]) (blk_put (cs' := #[.int .u32 0, .int .u32 498536548, .int .u32 997073096, .int .u32 651767980, .int .u32 1994146192, .int .u32 1802195444, .int .u32 1303535960, .int .u32 1342533948, .int .u32 3988292384, .int .u32 4027552580, .int .u32 3604390888, .int .u32 3412177804, .int .u32 2607071920, .int .u32 2262029012, .int .u32 2685067896, .int .u32 0]) (blk_put (cs' := #[.int .u32 0, .int .u32 498536548, .int .u32 997073096, .int .u32 651767980, .int .u32 1994146192, .int .u32 1802195444, .int .u32 1303535960, .int .u32 1342533948, .int .u32 3988292384, .int .u32 4027552580, .int .u32 3604390888, .int .u32 3412177804, .int .u32 2607071920, .int .u32 2262029012, .int .u32 0, .int .u32 0]) (blk_put (cs' := #[.int .u32 0, .int .u32 498536548, .int .u32 997073096, .int .u32 651767980, .int .u32 1994146192, .int .u32 1802195444, .int .u32 1303535960, .int .u32 1342533948, .int .u32 3988292384, .int .u32 4027552580, .int .u32 3604390888, .int .u32 3412177804, .int .u32 2607071920, .int .u32 0, .int .u32 0, .int .u32 0]) (blk_put (cs' := #[.int .u32 0, .int .u32 498536548, .int .u32 997073096, .int .u32 651767980, .int .u32 1994146192, .int .u32 1802195444, .int .u32 1303535960, .int .u32 1342533948, .int .u32 3988292384, .int .u32 4027552580, .int .u32 3604390888, .int .u32 3412177804, .int .u32 0, .int .u32 0, .int .u32 0, .int .u32 0]) (blk_put (cs' := #[.int .u32 0, .int .u32 498536548, .int .u32 997073096, .int .u32 651767980, .int .u32 1994146192, .int .u32 1802195444, .int .u32 1303535960, .int .u32 1342533948, .int .u32 3988292384, .int .u32 4027552580, .int .u32 3604390888, .int .u32 0, .int .u32 0, .int .u32 0, .int .u32 0, .int .u32 0]) (blk_put (cs' := #[.int .u32 0, .int .u32 498536548, .int .u32 997073096, .int .u32 651767980, .int .u32 1994146192, .int .u32 1802195444, .int .u32 1303535960, .int .u32 1342533948, .int .u32 3988292384, .int .u32 4027552580, .int .u32 0, .int .u32 0, .int .u32 0, .int .u32 0, .int .u32 0, .int .u32 0]) (blk_put (cs' := #[.int .u32 0, .int .u32 498536548, .int .u32 997073096, .int .u32 651767980, .int .u32 1994146192, .int .u32 1802195444, .int .u32 1303535960, .int .u32 1342533948, .int .u32 3988292384, .int .u32 0, .int .u32 0, .int .u32 0, .int .u32 0, .int .u32 0, .int .u32 0, .int .u32 0]) (blk_put (cs' := #[.int .u32 0, .int .u32 498536548, .int .u32 997073096, .int .u32 651767980, .int .u32 1994146192, .int .u32 1802195444, .int .u32 1303535960, .int .u32 1342533948, .int .u32 0, .int .u32 0, .int .u32 0, .int .u32 0, .int .u32 0, .int .u32 0, .int .u32 0, .int .u32 0]) (blk_put (cs' := #[.int .u32 0, .int .u32 498536548, .int .u32 997073096, .int .u32 651767980, .int .u32 1994146192, .int .u32 1802195444, .int .u32 1303535960, .int .u32 0, .int .u32 0, .int .u32 0, .int .u32 0, .int .u32 0, .int .u32 0, .int .u32 0, .int .u32 0, .int .u32 0]) (blk_put (cs' := #[.int .u32 0, .int .u32 498536548, .int .u32 997073096, .int .u32 651767980, .int .u32 1994146192, .int .u32 1802195444, .int .u32 0, .int .u32 0, .int .u32 0, .int .u32 0, .int .u32 0, .int .u32 0, .int .u32 0, .int .u32 0, .int .u32 0, .int .u32 0]) (blk_put (cs' := #[.int .u32 0, .int .u32 498536548, .int .u32 997073096, .int .u32 651767980, .int .u32 1994146192, .int .u32 0, .int .u32 0, .int .u32 0, .int .u32 0, .int .u32 0, .int .u32 0, .int .u32 0, .int .u32 0, .int .u32 0, .int .u32 0, .int .u32 0]) (blk_put (cs' := #[.int .u32 0, .int .u32 498536548, .int .u32 997073096, .int .u32 651767980, .int .u32 0, .int .u32 0, .int .u32 0, .int .u32 0, .int .u32 0, .int .u32 0, .int .u32 0, .int .u32 0, .int .u32 0, .int .u32 0, .int .u32 0, .int .u32 0]) (blk_put (cs' := #[.int .u32 0, .int .u32 498536548, .int .u32 997073096, .int .u32 0, .int .u32 0, .int .u32 0, .int .u32 0, .int .u32 0, .int .u32 0, .int .u32 0, .int .u32 0, .int .u32 0, .int .u32 0, .int .u32 0, .int .u32 0, .int .u32 0]) (blk_put (cs' := #[.int .u32 0, .int .u32 498536548, .int .u32 0, .int .u32 0, .int .u32 0, .int .u32 0, .int .u32 0, .int .u32 0, .int .u32 0, .int .u32 0, .int .u32 0, .int .u32 0, .int .u32 0, .int .u32 0, .int .u32 0, .int .u32 0]) (blk_put (cs' := #[.int .u32 0, .int .u32 0, .int .u32 0, .int .u32 0, .int .u32 0, .int .u32 0, .int .u32 0, .int .u32 0, .int .u32 0, .int .u32 0, .int .u32 0, .int .u32 0, .int .u32 0, .int .u32 0, .int .u32 0, .int .u32 0]) BK.out 0 (.int .u32 0) rfl) 1 (.int .u32 498536548) rfl) 2 (.int .u32 997073096) rfl) 3 (.int .u32 651767980) rfl) 4 (.int .u32 1994146192) rfl) 5 (.int .u32 1802195444) rfl) 6 (.int .u32 1303535960) rfl) 7 (.int .u32 1342533948) rfl) 8 (.int .u32 3988292384) rfl) 9 (.int .u32 4027552580) rfl) 10 (.int .u32 3604390888) rfl) 11 (.int .u32 3412177804) rfl) 12 (.int .u32 2607071920) rfl) 13 (.int .u32 2262029012) rfl) 14 (.int .u32 2685067896) rfl) 15 (.int .u32 3183342108) rfl)
  have n1_ := Aside0.mk (below_set (v := .int .u32 3183342108) (j := 15) (below_set (v := .int .u32 2685067896) (j := 14) (below_set (v := .int .u32 2262029012) (j := 13) (below_set (v := .int .u32 2607071920) (j := 12) (below_set (v := .int .u32 3412177804) (j := 11) (below_set (v := .int .u32 3604390888) (j := 10) (below_set (v := .int .u32 4027552580) (j := 9) (below_set (v := .int .u32 3988292384) (j := 8) (below_set (v := .int .u32 1342533948) (j := 7) (below_set (v := .int .u32 1303535960) (j := 6) (below_set (v := .int .u32 1802195444) (j := 5) (below_set (v := .int .u32 1994146192) (j := 4) (below_set (v := .int .u32 651767980) (j := 3) (below_set (v := .int .u32 997073096) (j := 2) (below_set (v := .int .u32 498536548) (j := 1) (below_set (v := .int .u32 0) (j := 0) HB.out GE.out) GE.out) GE.out) GE.out) GE.out) GE.out) GE.out) GE.out) GE.out) GE.out) GE.out) GE.out) GE.out) GE.out) GE.out) GE.out)
  clear BK HB hy0 hf0 hy1 hf1 hy2 hf2 hy3 hf3 hy4 hf4 hy5 hf5 hy6 hf6 hy7 hf7 hy8 hf8 hy9 hf9 hy10 hf10 hy11 hf11 hy12 hf12 hy13 hf13 hy14 hf14 hy15 hf15
  have BK : Aside0 ((((((((((((((((((w4.setCell ⟨g, 0, none⟩ (.int .u32 0)).setCell ⟨g, 1, none⟩ (.int .u32 498536548)).setCell ⟨g, 2, none⟩ (.int .u32 997073096)).setCell ⟨g, 3, none⟩ (.int .u32 651767980)).setCell ⟨g, 4, none⟩ (.int .u32 1994146192)).setCell ⟨g, 5, none⟩ (.int .u32 1802195444)).setCell ⟨g, 6, none⟩ (.int .u32 1303535960)).setCell ⟨g, 7, none⟩ (.int .u32 1342533948)).setCell ⟨g, 8, none⟩ (.int .u32 3988292384)).setCell ⟨g, 9, none⟩ (.int .u32 4027552580)).setCell ⟨g, 10, none⟩ (.int .u32 3604390888)).setCell ⟨g, 11, none⟩ (.int .u32 3412177804)).setCell ⟨g, 12, none⟩ (.int .u32 2607071920)).setCell ⟨g, 13, none⟩ (.int .u32 2262029012)).setCell ⟨g, 14, none⟩ (.int .u32 2685067896)).setCell ⟨g, 15, none⟩ (.int .u32 3183342108))).heap[g]? = some (Obj.cells (blkT tabL) 72 (0, 0))) := ⟨by rw [tab_expl]; exact n0_.out⟩
  have HB := n1_
  clear n0_ n1_
  generalize ((((((((((((((((w4.setCell ⟨g, 0, none⟩ (.int .u32 0)).setCell ⟨g, 1, none⟩ (.int .u32 498536548)).setCell ⟨g, 2, none⟩ (.int .u32 997073096)).setCell ⟨g, 3, none⟩ (.int .u32 651767980)).setCell ⟨g, 4, none⟩ (.int .u32 1994146192)).setCell ⟨g, 5, none⟩ (.int .u32 1802195444)).setCell ⟨g, 6, none⟩ (.int .u32 1303535960)).setCell ⟨g, 7, none⟩ (.int .u32 1342533948)).setCell ⟨g, 8, none⟩ (.int .u32 3988292384)).setCell ⟨g, 9, none⟩ (.int .u32 4027552580)).setCell ⟨g, 10, none⟩ (.int .u32 3604390888)).setCell ⟨g, 11, none⟩ (.int .u32 3412177804)).setCell ⟨g, 12, none⟩ (.int .u32 2607071920)).setCell ⟨g, 13, none⟩ (.int .u32 2262029012)).setCell ⟨g, 14, none⟩ (.int .u32 2685067896)).setCell ⟨g, 15, none⟩ (.int .u32 3183342108)) = wz at BK HB ⊢
  go_wp2
  go_loopg [4, 6, 10] (l0.length + 1) (fun kq v4 v6 v10 w' => ∃ (i : Nat) (x : Int), v10 = .int .i64 x ∧ v4 = .int .u32 (sumN l0 i) ∧ Aside0 (x = i ∧ i ≤ l0.length ∧ i + kq = l0.length + 1) ∧ Aside0 (w'.heap[g]? = some (.cells (blkT tabL) 72 (0, 0))) ∧ Aside0 (Below w.heap.size w w'))
  case atStart => exact ⟨0, 0, rfl, rfl, ⟨by omega⟩, BK, HB⟩
  case round =>
    clear BK HB
    obtain ⟨i, x, rfl, rfl, HI, BK, HB⟩ := hrel
    cases gk with
    | zero => exact absurd HI.out (by omega)
    | succ k1 =>
      by_cases cl : x < (l0.length : Int)
      · have c5 : decide (x < (l0.length : Int)) = true := decide_eq_true cl
        have p0 : 0 ≤ x := by have := HI.out; omega
        obtain ⟨ad, e1, hx⟩ := Kd.at_int HR.out x p0 cl
        cases e1
        replace hx := (HB.out.cell (World.block_lt_of_cell? w _ hx)).trans hx
        have CL := Aside0.mk cl
        have P0 := Aside0.mk p0
        replace p0 := eq_true p0
        have q0 := eq_true cl
        clear cl
        obtain ⟨a, ha⟩ : ∃ a_, Go.bits .xor .u32 (sumN l0 i) (rd l0 x % 4294967296) = a_ := ⟨_, rfl⟩
        have ha0 : 0 ≤ a := by rw [← ha]; exact (xor_in _ _).1
        have hm := mod_in a ha0
        have hc1 := (blk_cell BK.out (Int.tmod a 16).toNat).trans (blkT_get tabL (Int.tmod a 16).toNat (by show _ < 16; omega))
        obtain ⟨v1, hv1⟩ : ∃ v_, tabL.getD (Int.tmod a 16).toNat 0 = v_ := ⟨_, rfl⟩
        rw [hv1] at hc1
        obtain ⟨b, hb⟩ : ∃ b_, Go.bits .xor .u32 (a / 16) v1 = b_ := ⟨_, rfl⟩
        have hb0 : 0 ≤ b := by rw [← hb]; exact (xor_in _ _).1
        have hm2 := mod_in b hb0
        have hc2 := (blk_cell BK.out (Int.tmod b 16).toNat).trans (blkT_get tabL (Int.tmod b 16).toNat (by show _ < 16; omega))
        obtain ⟨v2, hv2⟩ : ∃ v_, tabL.getD (Int.tmod b 16).toNat 0 = v_ := ⟨_, rfl⟩
        rw [hv2] at hc2
        have HV := Aside0.mk (And.intro hv1 hv2)
        clear hv1 hv2
        have r1 := eq_true hm.1
        have r2 := eq_true hm.2
        have r3 := eq_true hm2.1
        have r4 := eq_true hm2.2
        clear hm hm2 ha0 hb0
        go_wp2
        go_roundg k1
        case measure => omega
        case rel => exact ⟨i + 1, wrap64 (x + 1), rfl, (by
          show Value.int .u32 _ = Value.int .u32 (byteS (sumN l0 i) (rd l0 (i : Int)))
          rw [← HI.out.1]
          unfold byteS halfS rd
          unfold rd at ha
          rw [ha, HV.out.1, hb, HV.out.2]), ⟨by have h1 := HI.out; have h2 := CL.out; have h3 := HL.out; refine ⟨by unfold wrap64; omega, by omega, by omega⟩⟩, BK, HB⟩
      · have c5 : decide (x < (l0.length : Int)) = false := decide_eq_false cl
        have ei : i = l0.length := by have := HI.out; omega
        subst ei
        clear cl
        go_wp2
        go_ret
        exact ⟨rfl, HB.out⟩
end Go.Proofs.YteomnlkfnfgkkaaDoor.Q
