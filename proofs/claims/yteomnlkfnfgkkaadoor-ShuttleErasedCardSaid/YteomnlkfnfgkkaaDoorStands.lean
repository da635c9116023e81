/- The sum of the nine figures is the number that it is compared with. No condition. -/
import Derived.Test.YteomnlkfnfgkkaaDoorSum
import Derived.Lib.SlBytesConst
namespace Go.Proofs.YteomnlkfnfgkkaaDoor.Q
open Go.RowKit Go.Proofs.YteomnlkfnfgkkaaDoorW.PrintWords Go.Proofs.YteomnlkfnfgkkaaDoorW.PrintLast Go.Proofs.YteomnlkfnfgkkaaDoorW.PrintMore
attribute [local go_sem] max2_int min2_int max_two min_two max_three min_three max_four min_four   -- for this text's walks alone
set_option linter.unusedVariables false
set_option linter.unusedSimpArgs false
theorem sum_nine : Go.bits .xor .u32 IntKind.u32.max (sumN ([49, 50, 51, 52, 53, 54, 55, 56, 57] : List Int) ([49, 50, 51, 52, 53, 54, 55, 56, 57] : List Int).length) = 3421780262 := by decide +kernel
set_option maxHeartbeats 8000000 in
set_option maxRecDepth 100000 in
theorem stands_calls (w : World) : Calls Tryd.prog 8 #[] w fun e w' => e = .returned (.bool true) ∧ Below w.heap.size w w' := by
  have HB := Aside0.mk (Below.refl w.heap.size w)
  go_enter Tryd.func8, Tryd.ntmps8
  have hcv := Go.Lib.run_convert_bytes_const w 22 5 #[.int .u8 49, .int .u8 50, .int .u8 51, .int .u8 52, .int .u8 53, .int .u8 54, .int .u8 55, .int .u8 56, .int .u8 57] 9 9 Tryd.underlying22 Tryd.underlying5
  have HC : Aside0 (Kd.C (Kd.int .u8) (w.alloc (.cells #[.int .u8 49, .int .u8 50, .int .u8 51, .int .u8 52, .int .u8 53, .int .u8 54, .int .u8 55, .int .u8 56, .int .u8 57] 5 (9, 10))) (some ⟨w.heap.size, 0, none⟩) ([49, 50, 51, 52, 53, 54, 55, 56, 57] : List Int).length [49, 50, 51, 52, 53, 54, 55, 56, 57]) := ⟨Kd.C_of_reads (d := (0 : Int)) (h1 := fun _ => rfl) ⟨rfl, by decide, fun _ => ⟨_, rfl, fun j hj => by
    refine Eq.trans (b := World.cell? _ ⟨w.heap.size, j, none⟩) (by by_cases e : j = 0 <;> simp [Addr.add, e]) ((World.cell?_alloc_mark w #[.int .u8 49, .int .u8 50, .int .u8 51, .int .u8 52, .int .u8 53, .int .u8 54, .int .u8 55, .int .u8 56, .int .u8 57] 5 (9, 10) j).trans ?_)
    have hj9 : j < 9 := hj
    rcases j with _ | _ | _ | _ | _ | _ | _ | _ | _ | j
    all_goals first | rfl | omega⟩⟩⟩
  have HB2 := Aside0.mk (below_alloc (Below.refl w.heap.size w) (.cells #[.int .u8 49, .int .u8 50, .int .u8 51, .int .u8 52, .int .u8 53, .int .u8 54, .int .u8 55, .int .u8 56, .int .u8 57] 5 (9, 10)))
  go_wp2_with (first | ((with_reducible refine gate_callee (f := 16) rfl ?_); refine goesL_ (some 3) rfl rfl Tryd.func16 (by kernel_rfl) rfl #[.slice (some ⟨w.heap.size, 0, none⟩) ([49, 50, 51, 52, 53, 54, 55, 56, 57] : List Int).length 9] rfl (by (try simp only [List.map_toArray, List.map_cons, List.map_nil]); first | done | rfl) ?_; (with_reducible refine (sum_calls (some ⟨w.heap.size, 0, none⟩) 9 [49, 50, 51, 52, 53, 54, 55, 56, 57] _ HC.out (by decide)).mono ?_); rintro e w3 ⟨rfl, hb⟩; rw [sum_nine]; refine ⟨_, rfl, ?_⟩; have n0_ := Aside0.mk (below_step HB2.out hb); clear HB hb; have HB := n0_; clear n0_))
  go_ret
  exact ⟨rfl, HB.out⟩
end Go.Proofs.YteomnlkfnfgkkaaDoor.Q
