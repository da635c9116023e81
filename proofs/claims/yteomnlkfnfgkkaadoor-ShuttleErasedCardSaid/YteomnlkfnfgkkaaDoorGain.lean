/- The walk of viterbi.gain: four soft values against an edge. No condition of our own. -/
import Derived.Test.YteomnlkfnfgkkaaDoorBld
namespace Go.Proofs.YteomnlkfnfgkkaaDoor.Q
open Go.RowKit Go.Proofs.YteomnlkfnfgkkaaDoorW.PrintWords Go.Proofs.YteomnlkfnfgkkaaDoorW.PrintLast Go.Proofs.YteomnlkfnfgkkaaDoorW.PrintMore
attribute [local go_sem] max2_int min2_int max_two min_two max_three min_three max_four min_four   -- for this text's walks alone
set_option linter.unusedVariables false
set_option linter.unusedSimpArgs false
/-- A bit's sign. -/
def sg (o : Int) : Int := if o = 0 then 1 else -1
theorem of_sg (o : Int) : soft_Of.f o = some (sg o) := by
  unfold soft_Of.f sg
  split <;> rfl
def gn (n v o : Int) : Int := wrap64 (n + wrap64 (v * sg o))
def gainV (v0 v1 v2 v3 o0 o1 o2 o3 : Int) : Int := gn (gn (gn (gn 0 v0 o0) v1 o1) v2 o2) v3 o3
def gainP (v0 v1 v2 v3 o0 o1 o2 o3 : Int) : Nat → Int
  | 0 => 0
  | 1 => gn 0 v0 o0
  | 2 => gn (gn 0 v0 o0) v1 o1
  | 3 => gn (gn (gn 0 v0 o0) v1 o1) v2 o2
  | _ => gn (gn (gn (gn 0 v0 o0) v1 o1) v2 o2) v3 o3
theorem run_ox0 (v0 v1 v2 v3 : Value) (w : World) : (Instr.index 41 (.agg #[v0, v1, v2, v3]) (.int .i64 0)).run Tryd.prog w = .ok v0 w := by
  simp [Instr.index, run_underlying Tryd.underlying41, asIntOf, go_sem]
theorem run_ox1 (v0 v1 v2 v3 : Value) (w : World) : (Instr.index 41 (.agg #[v0, v1, v2, v3]) (.int .i64 1)).run Tryd.prog w = .ok v1 w := by
  simp [Instr.index, run_underlying Tryd.underlying41, asIntOf, go_sem]
theorem run_ox2 (v0 v1 v2 v3 : Value) (w : World) : (Instr.index 41 (.agg #[v0, v1, v2, v3]) (.int .i64 2)).run Tryd.prog w = .ok v2 w := by
  simp [Instr.index, run_underlying Tryd.underlying41, asIntOf, go_sem]
theorem run_ox3 (v0 v1 v2 v3 : Value) (w : World) : (Instr.index 41 (.agg #[v0, v1, v2, v3]) (.int .i64 3)).run Tryd.prog w = .ok v3 w := by
  simp [Instr.index, run_underlying Tryd.underlying41, asIntOf, go_sem]
set_option maxHeartbeats 8000000 in
set_option maxRecDepth 100000 in
theorem gain_calls (w : World) (g off n c : Nat) (f t b o0 o1 o2 o3 v0 v1 v2 v3 : Int) (hn : 4 ≤ n) (hv0 : w.cell? ⟨g, off, none⟩ = some (.int .i64 v0)) (hv1 : w.cell? ⟨g, off + 1, none⟩ = some (.int .i64 v1)) (hv2 : w.cell? ⟨g, off + 2, none⟩ = some (.int .i64 v2)) (hv3 : w.cell? ⟨g, off + 3, none⟩ = some (.int .i64 v3)) :
    Calls Tryd.prog 38 #[.slice (some ⟨g, off, none⟩) n c, .agg #[.int .i64 f, .int .i64 t, .int .u8 b, .int .u8 o0, .int .u8 o1, .int .u8 o2, .int .u8 o3]] w fun e w' => e = .returned (.int .i64 (gainV v0 v1 v2 v3 o0 o1 o2 o3)) ∧ Below w.heap.size w w' := by
  have HB := Aside0.mk (Below.refl w.heap.size w)
  have V0 := Aside0.mk hv0
  have V1 := Aside0.mk hv1
  have V2 := Aside0.mk hv2
  have V3 := Aside0.mk hv3
  have HN := Aside0.mk hn
  clear hn hv0 hv1 hv2 hv3
  go_enter Tryd.func38, Tryd.ntmps38
  go_upto_region 2 with (first | ((with_reducible refine gate_dst (N := 3) rfl ?_); refine box_event ?hg (N := 3) ?hd (cs := #[.int .i64 f, .int .i64 t, .int .u8 b, .int .u8 o0, .int .u8 o1, .int .u8 o2, .int .u8 o3]) (t := 44) ?hr ?_; (case hd => rfl); (case hg => rfl); (case hr => first | (go_simp; done) | (go_simp; rfl)); intro g3 hg w3 hbox hb; have n1_ := Aside0.mk (below_step HB.out hb); have GE3 := Aside0.mk ((by rw [hg]; exact (below_size HB.out)) : w.heap.size ≤ g3); have B3 := Aside0.mk hbox; clear HB hb hbox hg; have HB := n1_; clear n1_))
  have hz0 : w3.cell? ⟨g3, 3, none⟩ = some (.int .u8 o0) := (blk_cell B3.out 3).trans rfl
  have hz1 : w3.cell? ⟨g3, 4, none⟩ = some (.int .u8 o1) := (blk_cell B3.out 4).trans rfl
  have hz2 : w3.cell? ⟨g3, 5, none⟩ = some (.int .u8 o2) := (blk_cell B3.out 5).trans rfl
  have hz3 : w3.cell? ⟨g3, 6, none⟩ = some (.int .u8 o3) := (blk_cell B3.out 6).trans rfl
  go_wp2
  clear hz0 hz1 hz2 hz3
  go_loopg [5, 6, 7, 10] 5 (fun kq v5 v6 v7 v10 w' => ∃ (i : Nat), v10 = .int .i64 (i : Int) ∧ v5 = .int .i64 (gainP v0 v1 v2 v3 o0 o1 o2 o3 i) ∧ Aside0 (i + kq = 5 ∧ i ≤ 4) ∧ Aside0 (Below w.heap.size w w'))
  case atStart => exact ⟨0, rfl, rfl, ⟨by omega⟩, HB⟩
  case round =>
    clear B3 HB
    obtain ⟨i, rfl, rfl, HI, HB⟩ := hrel
    cases gk with
    | zero => exact absurd HI.out (by omega)
    | succ k1 =>
      rcases (show i = 0 ∨ i = 1 ∨ i = 2 ∨ i = 3 ∨ i = 4 by have := HI.out; omega) with rfl | rfl | rfl | rfl | rfl
      · have hv : wr.cell? ⟨g, off, none⟩ = some (.int .i64 v0) := (HB.out.cell (p := ⟨g, off, none⟩) (World.block_lt_of_cell? _ _ V0.out)).trans V0.out
        have hix := run_ox0 (.int .u8 o0) (.int .u8 o1) (.int .u8 o2) (.int .u8 o3)
        have hnn : (0 < n) = True := eq_true (by have := HN.out; omega)
        have hnn2 : ((0 : Int) < (n : Int)) = True := eq_true (by have := HN.out; omega)
        obtain ⟨p, hp⟩ : ∃ p, gainP v0 v1 v2 v3 o0 o1 o2 o3 0 = p := ⟨_, rfl⟩
        rw [hp]
        have HP := Aside0.mk hp
        clear hp
        obtain ⟨r, hr⟩ : ∃ r, sg o0 = r := ⟨_, rfl⟩
        have HF := Aside0.mk (of_sg o0)
        rw [hr] at HF
        have HR := Aside0.mk hr
        clear hr
        go_wp2
        repeat (go_quiet (first | (go_at_call 17; (with_reducible refine (soft_Of.calls o0 r _ HF.out).mono ?_); rintro e w' ⟨rfl, ⟨nd, rfl⟩⟩; exact ⟨rfl, _, World.drewN_drewN _ _ _⟩)); try go_wp2)
        go_roundg k1
        case measure => omega
        case rel => exact ⟨1, rfl, by rw [← HP.out, ← HR.out]; rfl, ⟨by have := HI.out; omega⟩, ⟨pw_below_drewN HB.out _⟩⟩
      · have hv : wr.cell? ⟨g, off + 1, none⟩ = some (.int .i64 v1) := (HB.out.cell (p := ⟨g, off + 1, none⟩) (World.block_lt_of_cell? _ _ V1.out)).trans V1.out
        have hix := run_ox1 (.int .u8 o0) (.int .u8 o1) (.int .u8 o2) (.int .u8 o3)
        have hnn : (1 < n) = True := eq_true (by have := HN.out; omega)
        have hnn2 : ((1 : Int) < (n : Int)) = True := eq_true (by have := HN.out; omega)
        obtain ⟨p, hp⟩ : ∃ p, gainP v0 v1 v2 v3 o0 o1 o2 o3 1 = p := ⟨_, rfl⟩
        rw [hp]
        have HP := Aside0.mk hp
        clear hp
        obtain ⟨r, hr⟩ : ∃ r, sg o1 = r := ⟨_, rfl⟩
        have HF := Aside0.mk (of_sg o1)
        rw [hr] at HF
        have HR := Aside0.mk hr
        clear hr
        go_wp2
        repeat (go_quiet (first | (go_at_call 17; (with_reducible refine (soft_Of.calls o1 r _ HF.out).mono ?_); rintro e w' ⟨rfl, ⟨nd, rfl⟩⟩; exact ⟨rfl, _, World.drewN_drewN _ _ _⟩)); try go_wp2)
        go_roundg k1
        case measure => omega
        case rel => exact ⟨2, rfl, by rw [← HP.out, ← HR.out]; rfl, ⟨by have := HI.out; omega⟩, ⟨pw_below_drewN HB.out _⟩⟩
      · have hv : wr.cell? ⟨g, off + 2, none⟩ = some (.int .i64 v2) := (HB.out.cell (p := ⟨g, off + 2, none⟩) (World.block_lt_of_cell? _ _ V2.out)).trans V2.out
        have hix := run_ox2 (.int .u8 o0) (.int .u8 o1) (.int .u8 o2) (.int .u8 o3)
        have hnn : (2 < n) = True := eq_true (by have := HN.out; omega)
        have hnn2 : ((2 : Int) < (n : Int)) = True := eq_true (by have := HN.out; omega)
        obtain ⟨p, hp⟩ : ∃ p, gainP v0 v1 v2 v3 o0 o1 o2 o3 2 = p := ⟨_, rfl⟩
        rw [hp]
        have HP := Aside0.mk hp
        clear hp
        obtain ⟨r, hr⟩ : ∃ r, sg o2 = r := ⟨_, rfl⟩
        have HF := Aside0.mk (of_sg o2)
        rw [hr] at HF
        have HR := Aside0.mk hr
        clear hr
        go_wp2
        repeat (go_quiet (first | (go_at_call 17; (with_reducible refine (soft_Of.calls o2 r _ HF.out).mono ?_); rintro e w' ⟨rfl, ⟨nd, rfl⟩⟩; exact ⟨rfl, _, World.drewN_drewN _ _ _⟩)); try go_wp2)
        go_roundg k1
        case measure => omega
        case rel => exact ⟨3, rfl, by rw [← HP.out, ← HR.out]; rfl, ⟨by have := HI.out; omega⟩, ⟨pw_below_drewN HB.out _⟩⟩
      · have hv : wr.cell? ⟨g, off + 3, none⟩ = some (.int .i64 v3) := (HB.out.cell (p := ⟨g, off + 3, none⟩) (World.block_lt_of_cell? _ _ V3.out)).trans V3.out
        have hix := run_ox3 (.int .u8 o0) (.int .u8 o1) (.int .u8 o2) (.int .u8 o3)
        have hnn : (3 < n) = True := eq_true (by have := HN.out; omega)
        have hnn2 : ((3 : Int) < (n : Int)) = True := eq_true (by have := HN.out; omega)
        obtain ⟨p, hp⟩ : ∃ p, gainP v0 v1 v2 v3 o0 o1 o2 o3 3 = p := ⟨_, rfl⟩
        rw [hp]
        have HP := Aside0.mk hp
        clear hp
        obtain ⟨r, hr⟩ : ∃ r, sg o3 = r := ⟨_, rfl⟩
        have HF := Aside0.mk (of_sg o3)
        rw [hr] at HF
        have HR := Aside0.mk hr
        clear hr
        go_wp2
        repeat (go_quiet (first | (go_at_call 17; (with_reducible refine (soft_Of.calls o3 r _ HF.out).mono ?_); rintro e w' ⟨rfl, ⟨nd, rfl⟩⟩; exact ⟨rfl, _, World.drewN_drewN _ _ _⟩)); try go_wp2)
        go_roundg k1
        case measure => omega
        case rel => exact ⟨4, rfl, by rw [← HP.out, ← HR.out]; rfl, ⟨by have := HI.out; omega⟩, ⟨pw_below_drewN HB.out _⟩⟩
      · go_wp2
        go_ret
        exact ⟨rfl, HB.out⟩
end Go.Proofs.YteomnlkfnfgkkaaDoor.Q
