/- What the tied variable gives the walks: shuttle/conv.taps, laid as the rows list it, are the four taps that conv.out reads; and a world in which they are laid so. No condition beside that. -/
import Derived.Test.YteomnlkfnfgkkaaDoorRows
import Derived.Test.YteomnlkfnfgkkaaDoorTap
import Derived.ProofKit
import Derived.LaidMore
import Derived.OpenShut
import Derived.Stop.Joined
namespace Go.Proofs.YteomnlkfnfgkkaaDoor.Q
open Go.ChangeShapes Go.WideShapes Go.ChangeAt Go.RowKit Go.Proofs.YteomnlkfnfgkkaaDoorW.PrintWords Go.Proofs.YteomnlkfnfgkkaaDoorW.PrintLast Go.Proofs.YteomnlkfnfgkkaaDoorW.PrintMore
abbrev laid1 : List (String × DataW Unit) := [("shuttle/conv.taps", Rows.laid_shuttle_conv_taps)]
theorem own : ownKnob Tryd.prog.godebug = none := by kernel_rfl
theorem gTap : Tryd.prog.globalNamed "shuttle/conv.taps" = some 0 := by kernel_rfl
theorem tTap : (Tryd.prog.globals[0]?).map (·.type) = some 65 := by kernel_rfl
theorem cells39 : Tryd.prog.cellsOf 39 = 1 := by kernel_rfl
theorem datum : (Rows.laid_shuttle_conv_taps : DataW Unit) = .agg (tapL.map fun x : Int => .lit (.int .u64 x)) := by rfl
theorem tapA {W : World} (h : laidMet Tryd.prog laid1 W) : Aside0 (TapOk W) := by
  obtain ⟨ps, ⟨g, t, cs, fuel, p, q, hg, ht, hvar, hd, _, _⟩, _⟩ := h
  obtain rfl := Option.some.inj (gTap.symm.trans hg)
  obtain rfl := Option.some.inj (tTap.symm.trans ht)
  obtain ⟨xs, m, _, hx, _, hn, hel⟩ := DataW.trod_array Tryd.underlying65 hd
  refine ⟨fun j hj => ?_⟩
  have hj2 := hel j hj
  obtain ⟨y, hy⟩ : ∃ y, xs[j]? = some y := ⟨_, List.getElem?_eq_getElem (by omega)⟩
  rw [hy] at hj2
  obtain ⟨n, e1, e2, _⟩ := DataW.trod_int Tryd.underlying39 hj2
  have hv := World.var?_cell hg hvar j
  rw [cells39, Nat.mul_one] at e1
  have hc : cs.toList[j]? = some (.int .u64 n) := by
    have : (cs.toList.drop j)[0]? = some (.int .u64 n) := by
      rw [← List.getElem?_take_of_lt (show 0 < 1 by decide), e1]
      rfl
    rw [List.getElem?_drop] at this
    simpa using this
  have hn2 : n = tapL.getD j 0 := by
    simp only [Prod.mk.injEq] at hx
    have h1 := hx.1
    rw [datum] at h1
    simp only [DataW.agg.injEq] at h1
    have h2 : (xs.map (·.1))[j]? = some (.lit (.int .u64 n)) := by rw [List.getElem?_map, hy, e2]; rfl
    rw [← h1, List.getElem?_map, List.getElem?_eq_getElem (show j < tapL.length from hj)] at h2
    simp only [Option.map_some, Option.some.injEq, DataW.lit.injEq, Lit.int.injEq, true_and] at h2
    rw [← h2, List.getD_eq_getElem?_getD, List.getElem?_eq_getElem (show j < tapL.length from hj)]
    rfl
  rw [← hn2]
  rw [hv]
  simpa using hc
theorem door_met (os : Os) (args : Array Value) : laidMet Tryd.prog laid1 ((World.doorLaid Tryd.prog 400 os).forCall (fun _ _ => 0) ⟨#[], args, []⟩).memory :=
  laidMet_of_run' 8 (by kernel_rfl) (by kernel_rfl)
end Go.Proofs.YteomnlkfnfgkkaaDoor.Q
