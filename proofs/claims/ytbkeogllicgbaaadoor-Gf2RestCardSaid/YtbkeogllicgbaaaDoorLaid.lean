/- What the tied variable gives the walks: math/bits.deBruijn64tab, laid as the rows list it, is the table that TrailingZeros64 reads; and a world in which it is laid so. -/
import Derived.Test.YtbkeogllicgbaaaDoorRows
import Derived.Test.YtbkeogllicgbaaaDoorTz
import Derived.ProofKit
import Derived.LaidMore
import Derived.OpenShut
import Derived.Stop.Joined
namespace Go.Proofs.YtbkeogllicgbaaaDoor.Q
open Go.ChangeShapes Go.WideShapes Go.ChangeAt Go.RowKit Go.Proofs.YtbkeogllicgbaaaDoorW.PrintWords Go.Proofs.YtbkeogllicgbaaaDoorW.PrintLast Go.Proofs.YtbkeogllicgbaaaDoorW.PrintMore
abbrev laid1 : List (String × DataW Unit) := [("math/bits.deBruijn64tab", Rows.laid_math_bits_deBruijn64tab)]
theorem own : ownKnob Tryd.prog.godebug = none := by kernel_rfl
theorem gTab : Tryd.prog.globalNamed "math/bits.deBruijn64tab" = some 0 := by kernel_rfl
theorem tTab : (Tryd.prog.globals[0]?).map (·.type) = some 42 := by kernel_rfl
theorem cells5 : Tryd.prog.cellsOf 5 = 1 := by kernel_rfl
theorem datum : (Rows.laid_math_bits_deBruijn64tab : DataW Unit) = .agg (Lib.deBruijn64tab.map fun x : Nat => .lit (.int .u8 (x : Int))) := by rfl
theorem tabA {W : World} (h : laidMet Tryd.prog laid1 W) : Aside0 (TabOk W) := by
  obtain ⟨ps, ⟨g, t, cs, fuel, p, q, hg, ht, hvar, hd, _, _⟩, _⟩ := h
  obtain rfl := Option.some.inj (gTab.symm.trans hg)
  obtain rfl := Option.some.inj (tTab.symm.trans ht)
  obtain ⟨xs, m, _, hx, _, hn, hel⟩ := DataW.trod_array Tryd.underlying42 hd
  refine ⟨fun j hj => ?_⟩
  have hj2 := hel j hj
  obtain ⟨y, hy⟩ : ∃ y, xs[j]? = some y := ⟨_, List.getElem?_eq_getElem (by omega)⟩
  rw [hy] at hj2
  obtain ⟨n, e1, e2, _⟩ := DataW.trod_int Tryd.underlying5 hj2
  have hv := World.var?_cell hg hvar j
  rw [cells5, Nat.mul_one] at e1
  have hc : cs.toList[j]? = some (.int .u8 n) := by
    have : (cs.toList.drop j)[0]? = some (.int .u8 n) := by
      rw [← List.getElem?_take_of_lt (show 0 < 1 by decide), e1]
      rfl
    rw [List.getElem?_drop] at this
    simpa using this
  have hn2 : n = (Lib.deBruijn64tab.getD j 0 : Nat) := by
    simp only [Prod.mk.injEq] at hx
    have h1 := hx.1
    rw [datum] at h1
    simp only [DataW.agg.injEq] at h1
    have h2 : (xs.map (·.1))[j]? = some (.lit (.int .u8 n)) := by rw [List.getElem?_map, hy, e2]; rfl
    rw [← h1, List.getElem?_map, List.getElem?_eq_getElem (show j < Lib.deBruijn64tab.length from hj)] at h2
    simp only [Option.map_some, Option.some.injEq, DataW.lit.injEq, Lit.int.injEq, true_and] at h2
    rw [← h2, List.getD_eq_getElem?_getD, List.getElem?_eq_getElem (show j < Lib.deBruijn64tab.length from hj)]
    rfl
  rw [← hn2]
  rw [hv]
  simpa using hc
theorem door_met (os : Os) (args : Array Value) : laidMet Tryd.prog laid1 ((World.doorLaid Tryd.prog 400 os).forCall (fun _ _ => 0) ⟨#[], args, []⟩).memory :=
  laidMet_of_run' 8 (by kernel_rfl) (by kernel_rfl)
end Go.Proofs.YtbkeogllicgbaaaDoor.Q
