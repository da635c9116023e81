/- Of all polynomials sum, degree and product are told as the reference tells them, or that the product is too great; in either order the same (the plain law of the printed function). No condition beside the types' own ranges. -/
import Derived.Test.YtbkeogllicgbaaaDoorQ2
import Derived.Test.YtbkeogllicgbaaaDoorGq
namespace Go.Proofs.YtbkeogllicgbaaaDoor.Pure
open Go.RowKit Go.Proofs.YtbkeogllicgbaaaDoor.Q Go.Proofs.YtbkeogllicgbaaaDoorW.PrintWords Go.Proofs.YtbkeogllicgbaaaDoorW.PrintLast Go.Proofs.YtbkeogllicgbaaaDoorW.PrintMore Gf
set_option linter.unusedVariables false

theorem Gf2Times : shuttlelaw03_Gf2Times.Pure := by
  intro a0 b0 ha0 hb0
  obtain ⟨a, rfl, ha⟩ := wf_u64 ha0
  obtain ⟨b, rfl, hb⟩ := wf_u64 hb0
  refine ⟨100, ?_⟩
  unfold shuttlelaw03_Gf2Times.f gf2_Add.f
  by_cases hf : fits a b
  · rw [(times_f a b 100 ha hb (by omega)).1 hf, (times_f b a 100 hb ha (by omega)).1 hf.comm, (ref_times a b 100 ha hb (by omega)).1 hf, polys_f 100 (by omega), deg_f 100 a ha, ref_deg a 100 ha (by omega), cl_comm b a]
    simp
  · have hf2 : ¬ fits b a := fun h => hf h.comm
    rw [(times_f a b 100 ha hb (by omega)).2 hf, (times_f b a 100 hb ha (by omega)).2 hf2, (ref_times a b 100 ha hb (by omega)).2 hf, polys_f 100 (by omega), deg_f 100 a ha, ref_deg a 100 ha (by omega)]
    simp

end Go.Proofs.YtbkeogllicgbaaaDoor.Pure
