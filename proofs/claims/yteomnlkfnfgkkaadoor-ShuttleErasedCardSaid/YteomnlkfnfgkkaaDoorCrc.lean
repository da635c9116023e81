/- The walk of crc32's table: what half a byte makes of a sum. No condition. -/
import Derived.Test.YteomnlkfnfgkkaaDoorOwn
namespace Go.Proofs.YteomnlkfnfgkkaaDoor.Q
open Go.RowKit Go.Proofs.YteomnlkfnfgkkaaDoorW.PrintWords Go.Proofs.YteomnlkfnfgkkaaDoorW.PrintLast Go.Proofs.YteomnlkfnfgkkaaDoorW.PrintMore
attribute [local go_sem] max2_int min2_int max_two min_two max_three min_three max_four min_four   -- for this text's walks alone
set_option linter.unusedVariables false
set_option linter.unusedSimpArgs false
/-- One step of a bit; four of them; the table's first so many rows. -/
def bitS (n : Int) : Int := Go.bits .xor .u32 (shr .u32 n 1) (Go.bits .and .u32 3988292384 (IntKind.u32.wrap (-(Go.bits .and .u32 n 1))))
def bitN : Nat → Int → Int
  | 0, n => n
  | j + 1, n => bitS (bitN j n)
def rowsT (i : Nat) : List Int := (List.range 16).map (fun k => if k < i then bitN 4 (k : Int) else 0)
def blkT (xs : List Int) : Array Value := (xs.map (Value.int .u32)).toArray
theorem blkT_get (xs : List Int) (i : Nat) (h : i < xs.length) : (blkT xs)[i]? = some (.int .u32 (xs.getD i 0)) := by
  simp [blkT, h]
theorem blkT_upd (xs : List Int) (i : Nat) (b : Int) : (blkT xs).setIfInBounds i (.int .u32 b) = blkT (xs.set i b) := by
  simp [blkT, List.map_set]
theorem rowsT_len (i : Nat) : (rowsT i).length = 16 := by simp [rowsT]
theorem rowsT_set (i : Nat) (h : i < 16) : (rowsT i).set i (bitN 4 (i : Int)) = rowsT (i + 1) := by
  refine List.ext_getElem (by rw [List.length_set, rowsT_len, rowsT_len]) (fun j h1 h2 => ?_)
  rw [List.getElem_set]
  simp only [rowsT, List.getElem_map, List.getElem_range]
  by_cases e : i = j
  · subst e; rw [if_pos rfl, if_pos (by omega)]
  · rw [if_neg e]
    by_cases c : j < i
    · rw [if_pos c, if_pos (by omega)]
    · rw [if_neg c, if_neg (by omega)]
theorem results_one {P : Program} {fn : Func} {p : Tmp} {ty : TypeId} (h : fn.results = #[.cell p ty]) (tmps : Array Value) (w : World) (g : Nat) (t : TypeId) (cs : Array Value) (fr : Nat × Nat) (d : TypeDesc)
    (hp : tmps.getD p undef = .pointer (some ⟨g, 0, none⟩)) (hg : w.heap[g]? = some (.cells cs t fr))
    (hu : P.underlying ty = some d) (hd : (match d with | .struct _ | .array _ _ => true | _ => false) = true) (hi : (P.info? ty).map (·.size) = some cs.size) :
    (results fn tmps).run P w = .ok (.agg cs) w := by
  have hp' : tmps[p]?.getD undef = .pointer (some ⟨g, 0, none⟩) := by simpa using hp
  simp [results, h, hp', asAddr, run_loadVar_row w g t ty cs fr d hg hu hd hi]
def tabL : List Int := [0, 498536548, 997073096, 651767980, 1994146192, 1802195444, 1303535960, 1342533948, 3988292384, 4027552580, 3604390888, 3412177804, 2607071920, 2262029012, 2685067896, 3183342108]
theorem rows_all : rowsT 16 = tabL := by decide +kernel
set_option maxHeartbeats 8000000 in
set_option maxRecDepth 100000 in
theorem build_calls (w : World) : Calls Tryd.prog 29 #[] w fun e w' => e = .returned (.agg (blkT tabL)) ∧ Below w.heap.size w w' := by
  have HB := Aside0.mk (Below.refl w.heap.size w)
  go_enter Tryd.func29, Tryd.ntmps29
  go_upto_block 0 with (first | ((with_reducible refine gate_dst (N := 0) rfl ?_); refine box_event ?hg (N := 0) ?hd (cs := blkT (rowsT 0)) (t := 72) ?hr ?_; (case hd => rfl); (case hg => rfl); (case hr => first | (go_simp; done) | (go_simp; rfl)); intro g0 hg w3 hbox hb; have n1_ := Aside0.mk (below_step HB.out hb); have GE0 := Aside0.mk ((by rw [hg]; exact (below_size HB.out)) : w.heap.size ≤ g0); have B0 := Aside0.mk hbox; clear HB hb hbox hg; have HB := n1_; clear n1_) | ((with_reducible refine gate_dst (N := 1) rfl ?_); refine box_event ?hg (N := 1) ?hd (cs := blkT (rowsT 0)) (t := 72) ?hr ?_; (case hd => rfl); (case hg => rfl); (case hr => first | (go_simp; done) | (go_simp; rfl)); intro g1 hg w4 hbox hb; have NE : Aside0 (g0 ≠ g1) := ⟨by rw [hg]; exact Nat.ne_of_lt (blk_lt B0.out)⟩; have n0_ := Aside0.mk (blk_below B0.out hb); have n1_ := Aside0.mk (below_step HB.out hb); have GE1 := Aside0.mk ((by rw [hg]; exact (below_size HB.out)) : w.heap.size ≤ g1); have BK := Aside0.mk hbox; clear HB hb hbox hg B0; have HB := n1_; have B0 := n0_; clear n0_ n1_))
  go_wp2
  go_loopg [4] 17 (fun kq v4 w' => ∃ (i : Nat) (x : Int), v4 = .int .i64 x ∧ Aside0 (x = i ∧ i ≤ 16 ∧ i + kq = 17) ∧ Aside0 (w'.heap[g0]? = some (.cells (blkT (rowsT 0)) 72 (0, 0))) ∧ Aside0 (w'.heap[g1]? = some (.cells (blkT (rowsT i)) 72 (0, 0))) ∧ Aside0 (Below w.heap.size w w'))
  case atStart => exact ⟨0, 0, rfl, ⟨by omega⟩, B0, BK, HB⟩
  case round =>
    clear B0 BK HB
    obtain ⟨i, x, rfl, HI, B0, BK, HB⟩ := hrel
    cases gk with
    | zero => exact absurd HI.out (by omega)
    | succ k1 =>
      by_cases cl : x < 16
      · have c5 : decide (x < 16) = true := decide_eq_true cl
        have p0 : 0 ≤ x := by have := HI.out; omega
        have EX : IntKind.u32.wrap x = x := by have := HI.out; rw [show IntKind.u32.wrap x = x % 4294967296 by simp [IntKind.wrap, IntKind.signed, IntKind.bits]]; omega
        have CL := Aside0.mk cl
        have hget := (blk_cell BK.out x.toNat).trans (blkT_get (rowsT i) x.toNat (by rw [rowsT_len]; omega))
        have hfz := blk_frozen BK.out x.toNat
        replace p0 := eq_true p0
        have q0 := eq_true cl
        clear cl
        go_upto_block 2 with (fail)
        clear c5
        go_wp2
        go_loopg [3, 9] 5 (fun kq v3 v9 w' => ∃ (j : Nat) (y z : Int), v9 = .int .i64 y ∧ v3 = .int .u32 z ∧ Aside0 (y = j ∧ j ≤ 4 ∧ j + kq = 5 ∧ z = bitN j x) ∧ Aside0 (w' = wr))
        case atStart => exact ⟨0, 0, x, rfl, rfl, ⟨by omega, by omega, by omega, rfl⟩, ⟨rfl⟩⟩
        case round =>
          obtain ⟨j, y, z, rfl, rfl, HJ, HW⟩ := hrel
          obtain rfl := HW.out
          cases gk with
          | zero => exact absurd HJ.out (by omega)
          | succ k2 =>
            by_cases cj : y < 4
            · have c6 : decide (y < 4) = true := decide_eq_true cj
              have CJ := Aside0.mk cj
              clear cj
              go_wp2
              go_roundg k2
              case measure => omega
              case rel => exact ⟨j + 1, wrap64 (y + 1), bitS z, rfl, rfl, ⟨by have h1 := HJ.out; have h2 := CJ.out; refine ⟨by unfold wrap64; omega, by omega, by omega, by rw [h1.2.2.2]; rfl⟩⟩, ⟨rfl⟩⟩
            · have c6 : decide (y < 4) = false := decide_eq_false cj
              have ez : z = bitN 4 x := by have h1 := HJ.out; rw [h1.2.2.2, show j = 4 by omega]
              clear cj
              have HZ := Aside0.mk ez
              clear ez
              go_wp2
              go_roundg k1
              case measure => omega
              case rel => exact ⟨i + 1, wrap64 (x + 1), rfl, ⟨by have h1 := HI.out; have h2 := CL.out; refine ⟨by unfold wrap64; omega, by omega, by omega⟩⟩, ⟨blk_far (p := ⟨g1, x.toNat, none⟩) B0.out NE.out _⟩, ⟨blk_put BK.out x.toNat _ (by have h1 := HI.out; have h2 := CL.out; rw [blkT_upd, HZ.out, h1.1, Int.toNat_natCast, rowsT_set i (by omega)])⟩, ⟨below_set HB.out GE1.out⟩⟩
      · have c5 : decide (x < 16) = false := decide_eq_false cl
        have ei : i = 16 := by have h1 := HI.out; omega
        subst ei
        clear cl
        rw [rows_all] at BK
        have hz0 : wr.cell? ⟨g1, 0, none⟩ = some (.int .u32 0) := (blk_cell BK.out 0).trans rfl
        have hy0 : wr.cell? ⟨g0, 0, none⟩ = some (.int .u32 0) := (blk_cell B0.out 0).trans rfl
        have hf0 := blk_frozen B0.out 0
        have hz1 : wr.cell? ⟨g1, 1, none⟩ = some (.int .u32 498536548) := (blk_cell BK.out 1).trans rfl
        have hy1 : wr.cell? ⟨g0, 1, none⟩ = some (.int .u32 0) := (blk_cell B0.out 1).trans rfl
        have hf1 := blk_frozen B0.out 1
        have hz2 : wr.cell? ⟨g1, 2, none⟩ = some (.int .u32 997073096) := (blk_cell BK.out 2).trans rfl
        have hy2 : wr.cell? ⟨g0, 2, none⟩ = some (.int .u32 0) := (blk_cell B0.out 2).trans rfl
        have hf2 := blk_frozen B0.out 2
        have hz3 : wr.cell? ⟨g1, 3, none⟩ = some (.int .u32 651767980) := (blk_cell BK.out 3).trans rfl
        have hy3 : wr.cell? ⟨g0, 3, none⟩ = some (.int .u32 0) := (blk_cell B0.out 3).trans rfl
        have hf3 := blk_frozen B0.out 3
        have hz4 : wr.cell? ⟨g1, 4, none⟩ = some (.int .u32 1994146192) := (blk_cell BK.out 4).trans rfl
        have hy4 : wr.cell? ⟨g0, 4, none⟩ = some (.int .u32 0) := (blk_cell B0.out 4).trans rfl
        have hf4 := blk_frozen B0.out 4
        have hz5 : wr.cell? ⟨g1, 5, none⟩ = some (.int .u32 1802195444) := (blk_cell BK.out 5).trans rfl
        have hy5 : wr.cell? ⟨g0, 5, none⟩ = some (.int .u32 0) := (blk_cell B0.out 5).trans rfl
        have hf5 := blk_frozen B0.out 5
        have hz6 : wr.cell? ⟨g1, 6, none⟩ = some (.int .u32 1303535960) := (blk_cell BK.out 6).trans rfl
        have hy6 : wr.cell? ⟨g0, 6, none⟩ = some (.int .u32 0) := (blk_cell B0.out 6).trans rfl
        have hf6 := blk_frozen B0.out 6
        have hz7 : wr.cell? ⟨g1, 7, none⟩ = some (.int .u32 1342533948) := (blk_cell BK.out 7).trans rfl
        have hy7 : wr.cell? ⟨g0, 7, none⟩ = some (.int .u32 0) := (blk_cell B0.out 7).trans rfl
        have hf7 := blk_frozen B0.out 7
        have hz8 : wr.cell? ⟨g1, 8, none⟩ = some (.int .u32 3988292384) := (blk_cell BK.out 8).trans rfl
        have hy8 : wr.cell? ⟨g0, 8, none⟩ = some (.int .u32 0) := (blk_cell B0.out 8).trans rfl
        have hf8 := blk_frozen B0.out 8
        have hz9 : wr.cell? ⟨g1, 9, none⟩ = some (.int .u32 4027552580) := (blk_cell BK.out 9).trans rfl
        have hy9 : wr.cell? ⟨g0, 9, none⟩ = some (.int .u32 0) := (blk_cell B0.out 9).trans rfl
        have hf9 := blk_frozen B0.out 9
        have hz10 : wr.cell? ⟨g1, 10, none⟩ = some (.int .u32 3604390888) := (blk_cell BK.out 10).trans rfl
        have hy10 : wr.cell? ⟨g0, 10, none⟩ = some (.int .u32 0) := (blk_cell B0.out 10).trans rfl
        have hf10 := blk_frozen B0.out 10
        have hz11 : wr.cell? ⟨g1, 11, none⟩ = some (.int .u32 3412177804) := (blk_cell BK.out 11).trans rfl
        have hy11 : wr.cell? ⟨g0, 11, none⟩ = some (.int .u32 0) := (blk_cell B0.out 11).trans rfl
        have hf11 := blk_frozen B0.out 11
        have hz12 : wr.cell? ⟨g1, 12, none⟩ = some (.int .u32 2607071920) := (blk_cell BK.out 12).trans rfl
        have hy12 : wr.cell? ⟨g0, 12, none⟩ = some (.int .u32 0) := (blk_cell B0.out 12).trans rfl
        have hf12 := blk_frozen B0.out 12
        have hz13 : wr.cell? ⟨g1, 13, none⟩ = some (.int .u32 2262029012) := (blk_cell BK.out 13).trans rfl
        have hy13 : wr.cell? ⟨g0, 13, none⟩ = some (.int .u32 0) := (blk_cell B0.out 13).trans rfl
        have hf13 := blk_frozen B0.out 13
        have hz14 : wr.cell? ⟨g1, 14, none⟩ = some (.int .u32 2685067896) := (blk_cell BK.out 14).trans rfl
        have hy14 : wr.cell? ⟨g0, 14, none⟩ = some (.int .u32 0) := (blk_cell B0.out 14).trans rfl
        have hf14 := blk_frozen B0.out 14
        have hz15 : wr.cell? ⟨g1, 15, none⟩ = some (.int .u32 3183342108) := (blk_cell BK.out 15).trans rfl
        have hy15 : wr.cell? ⟨g0, 15, none⟩ = some (.int .u32 0) := (blk_cell B0.out 15).trans rfl
        have hf15 := blk_frozen B0.out 15
        go_wp2
        have hfin := (blk_put (cs' := #[.int .u32 0, .int .u32 498536548, .int .u32 997073096, .int .u32 651767980, .int .u32 1994146192, .int .u32 1802195444, .int .u32 1303535960, .int .u32 1342533948, .int .u32 3988292384, .int .u32 4027552580, .int .u32 3604390888, .int .u32 3412177804, .int .u32 2607071920, .int .u32 2262029012, .int .u32 2685067896, .int .u32 3183342108]) (blk_put (cs' := #[.int .u32 0, .int .u32 498536548, .int .u32 997073096, .int .u32 651767980, .int .u32 1994146192, .int .u32 1802195444, .int .u32 1303535960, .int .u32 1342533948, .int .u32 3988292384, .int .u32 4027552580, .int .u32 3604390888, .int .u32 3412177804, .int .u32 2607071920, .int .u32 2262029012, .int .u32 2685067896, .int .u32 0]) (blk_put (cs' := #[.int .u32 0, .int .u32 498536548, .int .u32 997073096, .int .u32 651767980, .int .u32 1994146192, .int .u32 1802195444, .int .u32 1303535960, .int .u32 1342533948, .int .u32 3988292384, .int .u32 4027552580, .int .u32 3604390888, .int .u32 3412177804, .int .u32 2607071920, .int .u32 2262029012, .int .u32 0, .int .u32 0]) (blk_put (cs' := #[.int .u32 0, .int .u32 498536548, .int .u32 997073096, .int .u32 651767980, .int .u32 1994146192, .int .u32 1802195444, .int .u32 1303535960, .int .u32 1342533948, .int .u32 3988292384, .int .u32 4027552580, .int .u32 3604390888, .int .u32 3412177804, .int .u32 2607071920, .int .u32 0, .int .u32 0, .int .u32 0]) (blk_put (cs' := #[.int .u32 0, .int .u32 498536548, .int .u32 997073096, .int .u32 651767980, .int .u32 1994146192, .int .u32 1802195444, .int .u32 1303535960, .int .u32 1342533948, .int .u32 3988292384, .int .u32 4027552580, .int .u32 3604390888, .int .u32 3412177804, .int .u32 0, .int .u32 0, .int .u32 0, .int .u32 0]) (blk_put (cs' := #[.int .u32 0, .int .u32 498536548, .int .u32 997073096, .int .u32 651767980, .int .u32 1994146192, .int .u32 1802195444, .int .u32 1303535960, .int .u32 1342533948, .int .u32 3988292384, .int .u32 4027552580, .int .u32 3604390888, .int .u32 0, .int .u32 0, .int .u32 0, .int .u32 0, .int .u32 0]) (blk_put (cs' := #[.int .u32 0, .int .u32 498536548, .int .u32 997073096, .int .u32 651767980, .int .u32 1994146192, .int .u32 1802195444, .int .u32 1303535960, .int .u32 1342533948, .int .u32 3988292384, .int .u32 4027552580, .int .u32 0, .int .u32 0, .int .u32 0, .int .u32 0, .int .u32 0, .int .u32 0]) (blk_put (cs' := #[.int .u32 0, .int .u32 498536548, .int .u32 997073096, .int .u32 651767980, .int .u32 1994146192, .int .u32 1802195444, .int .u32 1303535960, .int .u32 1342533948, .int .u32 3988292384, .int .u32 0, .int .u32 0, .int .u32 0, .int .u32 0, .int .u32 0, .int .u32 0, .int .u32 0]) (blk_put (cs' := #[.int .u32 0, .int .u32 498536548, .int .u32 997073096, .int .u32 651767980, .int .u32 1994146192, .int .u32 1802195444, .int .u32 1303535960, .int .u32 1342533948, .int .u32 0, .int .u32 0, .int .u32 0, .int .u32 0, .int .u32 0, .int .u32 0, .int .u32 0, .int .u32 0]) (blk_put (cs' := #[.int .u32 0, .int .u32 498536548, .int .u32 997073096, .int .u32 651767980, .int .u32 1994146192, .int .u32 1802195444, .int .u32 1303535960, .int .u32 0, .int .u32 0, .int .u32 0, .int .u32 0, .int .u32 0, .int .u32 0, .int .u32 0, .int .u32 0, .int .u32 0]) (blk_put (cs' := #[.int .u32 0, .int .u32 498536548, .int .u32 997073096, .int .u32 651767980, .int .u32 1994146192, .int .u32 1802195444, .int .u32 0, .int .u32 0, .int .u32 0, .int .u32 0, .int .u32 0, .int .u32 0, .int .u32 0, .int .u32 0, .int .u32 0, .int .u32 0]) (blk_put (cs' := #[.int .u32 0, .int .u32 498536548, .int .u32 997073096, .int .u32 651767980, .int .u32 1994146192, .int .u32 0, .int .u32 0, .int .u32 0, .int .u32 0, .int .u32 0, .int .u32 0, .int .u32 0, .int .u32 0, .int .u32 0, .int .u32 0, .int .u32 0]) (blk_put (cs' := #[.int .u32 0, .int .u32 498536548, .int .u32 997073096, .int .u32 651767980, .int .u32 0, .int .u32 0, .int .u32 0, .int .u32 0, .int .u32 0, .int .u32 0, .int .u32 0, .int .u32 0, .int .u32 0, .int .u32 0, .int .u32 0, .int .u32 0]) (blk_put (cs' := #[.int .u32 0, .int .u32 498536548, .int .u32 997073096, .int .u32 0, .int .u32 0, .int .u32 0, .int .u32 0, .int .u32 0, .int .u32 0, .int .u32 0, .int .u32 0, .int .u32 0, .int .u32 0, .int .u32 0, .int .u32 0, .int .u32 0]) (blk_put (cs' := #[.int .u32 0, .int .u32 498536548, .int .u32 0, .int .u32 0, .int .u32 0, .int .u32 0, .int .u32 0, .int .u32 0, .int .u32 0, .int .u32 0, .int .u32 0, .int .u32 0, .int .u32 0, .int .u32 0, .int .u32 0, .int .u32 0]) (blk_put (cs' := #[.int .u32 0, .int .u32 0, .int .u32 0, .int .u32 0, .int .u32 0, .int .u32 0, .int .u32 0, .int .u32 0, .int .u32 0, .int .u32 0, .int .u32 0, .int .u32 0, .int .u32 0, .int .u32 0, .int .u32 0, .int .u32 0]) B0.out 0 (.int .u32 0) rfl) 1 (.int .u32 498536548) rfl) 2 (.int .u32 997073096) rfl) 3 (.int .u32 651767980) rfl) 4 (.int .u32 1994146192) rfl) 5 (.int .u32 1802195444) rfl) 6 (.int .u32 1303535960) rfl) 7 (.int .u32 1342533948) rfl) 8 (.int .u32 3988292384) rfl) 9 (.int .u32 4027552580) rfl) 10 (.int .u32 3604390888) rfl) 11 (.int .u32 3412177804) rfl) 12 (.int .u32 2607071920) rfl) 13 (.int .u32 2262029012) rfl) 14 (.int .u32 2685067896) rfl) 15 (.int .u32 3183342108) rfl)
        refine bodyPost_ret (results_one rfl _ _ g0 72 _ (0, 0) _ rfl hfin Tryd.underlying72 rfl (by kernel_rfl)) rfl ?_
        exact ⟨rfl, (below_set (below_set (below_set (below_set (below_set (below_set (below_set (below_set (below_set (below_set (below_set (below_set (below_set (below_set (below_set (below_set HB.out GE0.out) GE0.out) GE0.out) GE0.out) GE0.out) GE0.out) GE0.out) GE0.out) GE0.out) GE0.out) GE0.out) GE0.out) GE0.out) GE0.out) GE0.out) GE0.out)⟩
end Go.Proofs.YteomnlkfnfgkkaaDoor.Q
