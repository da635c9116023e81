/- Of all maps and numbers the program tells whether a number has come, and which of up to 64 from it on haven't, as the document's reference does: the statement AckmapHasSaid. Conditions: none of our own; those that the row itself prints. -/
import Derived.Test.YtkafpcboflmdoaaRows
import Derived.Test.YtkafpcboflmdoaaPAckmapHasx3
import Derived.Test.YtkafpcboflmdoaaPureAckmapHas
import Derived.WalkKit
import Derived.ProofKit
import Derived.OpenShut
import Derived.ShutString
import Derived.ChangeOld
import Derived.ChangeSame
import Derived.Below
import Derived.SizedLaws
namespace Go.Proofs.Ytkafpcboflmdoaa.ackmapHas
open Go.ChangeShapes Go.WideShapes Go.ChangeAt Go.RowKit
open Go.ChangeMaps (open_string shut_string)
set_option linter.unusedVariables false
theorem own : ownKnob Try.prog.godebug = none := by kernel_rfl
theorem cells40 : Try.prog.cellsOf 40 = 2 := by kernel_rfl
theorem cells22 : Try.prog.cellsOf 22 = 1 := by kernel_rfl
theorem cells3 : Try.prog.cellsOf 3 = 1 := by kernel_rfl
/-- An Ask by value, as data. -/
theorem ask_reads {H : Type} {enc : TypeId × Value → H} (W' : World) (base : Nat) (sp : Nat → Bool) (held : Bool) {a n : Int} (wa : (Lit.int .u16 a).wf = true) (wn : (Lit.int .i64 n).wf = true) :
    DataW.Trod enc Try.prog W' base sp held 40 (.agg #[.int .u16 a, .int .i64 n]) (.agg [.lit (.int .u16 a), .lit (.int .i64 n)]) [] := ⟨2, by
  have f0 : DataW.trod enc Try.prog W' base sp held 1 22 [.int .u16 a] = some (.lit (.int .u16 a), []) := by simp [DataW.trod, Try.underlying22, wa]
  have f1 : DataW.trod enc Try.prog W' base sp held 1 3 [.int .i64 n] = some (.lit (.int .i64 n), []) := by simp [DataW.trod, Try.underlying3, wn]
  have := trod_struct2_mk (enc := enc) (w := W') (base := base) (spare := sp) (held := held) (n := 1) (cs := [.int .u16 a, .int .i64 n]) Try.underlying40 (by simp [cells40]) (by simpa [cells22] using f0) (by simpa [cells3] using f1)
  simpa [Value.cells] using this⟩
theorem ask_open {H : Type} {enc : TypeId × Value → H} {W : World} {b0 : Nat} {v : Value} {d : DataW H} {p : List MemPlace} (hv : Value.okWide Try.prog W .any b0 40 v) (h : DataW.Trod enc Try.prog W 0 (fun _ => true) true 40 v d p) :
    ∃ a n : Int, v = .agg #[.int .u16 a, .int .i64 n] ∧ d = .agg [.lit (.int .u16 a), .lit (.int .i64 n)] ∧ p = [] ∧ (Lit.int .u16 a).wf = true ∧ (Lit.int .i64 n).wf = true := by
  obtain ⟨cs, rfl, hsz⟩ := okWide_struct Try.underlying40 hv
  rw [cells40] at hsz
  obtain ⟨l⟩ := cs
  match l, hsz with
  | [c0, c1], _ =>
  obtain ⟨fuel, hf⟩ := h
  obtain ⟨y0, y1, m, hx, _, hy0, hy1⟩ := trod_struct2 Try.underlying40 hf
  obtain ⟨a, e0, rfl, wa⟩ := DataW.trod_int Try.underlying22 hy0
  obtain ⟨b, e1, rfl, wb⟩ := DataW.trod_int Try.underlying3 hy1
  simp [Value.cells, cells22, cells3] at e0 e1
  subst e0 e1
  simp only [Prod.mk.injEq] at hx
  exact ⟨a, b, rfl, hx.1, by simpa using hx.2, wa, wb⟩
set_option maxRecDepth 100000 in
theorem lifted (os : Os) (started : os.Started) (H : Type) (enc : TypeId × Value → H) :
    ReturnsInHanded {} Try.checked os 5 .any (Rows.ackmapHasSpec.pre6 enc Try.prog Try.f5 Rows.ackmapHasRow.domain false) (Rows.ackmapHasSpec.post enc Try.prog Try.f5 false true false false) := by
  refine returnsInHanded_of_change_sized (C := Try.checked) own started (by kernel_rfl) Try.func5
    (ChangeSpec.witness6 (enc := enc) (C := Try.checked) false ⟨#[], #[.int .u16 0, .int .u32 0, .agg #[.int .u16 0, .int .i64 0]], []⟩ 8 (by kernel_rfl) (by kernel_rfl) (by kernel_rfl) (by kernel_rfl)) ?_
  intro W base args ds gs before hval0 hW hcnd hsz0 _
  have hval : ∀ (j : Nat) t v, Try.f5.params[j]? = some t → args[j]? = some v → Value.okWide Try.prog W .any base t v := hval0
  have hW' := hW
  obtain ⟨p, q, hA0, hV, rfl, hfz, hnd⟩ := hW
  have hA : DataW.TrodAll enc Try.prog W 0 (fun _ => true) true Try.f5.params.toList args.toList ds p := hA0
  rw [Try.params5] at hA hval
  obtain ⟨v0, vs0, d0, ds0, p0, q0, hargs, rfl, rfl, h0, r0⟩ := trodAll_cons hA
  obtain ⟨v1, vs1, d1, ds1, p1, q1, rfl, rfl, rfl, h1, r1⟩ := trodAll_cons r0
  obtain ⟨v2, vs2, d2, ds2, p2, q2, rfl, rfl, rfl, h2, r2⟩ := trodAll_cons r1
  obtain ⟨rfl, rfl, rfl⟩ := trodAll_nil r2
  obtain rfl : args = #[v0, v1, v2] := by cases args; simp_all
  obtain ⟨rfl, rfl⟩ := trodVars_none hV
  obtain ⟨a0, rfl, rfl, rfl, w0⟩ := open_int Try.underlying22 (hval 0 22 v0 rfl rfl) h0
  obtain ⟨a1, rfl, rfl, rfl, w1⟩ := open_int Try.underlying28 (hval 1 28 v1 rfl rfl) h1
  obtain ⟨a2, n2, rfl, rfl, rfl, w2, x2⟩ := ask_open (hval 2 40 v2 rfl rfl) h2
  clear hA0 hval0 hsz0
  refine (PAckmapHas.shuttlelaw15_AckmapHas.calls 100 a0 a1 a2 n2 true W (Pure.AckmapHas.has_law a0 a1 a2 n2 w0 w1 w2)).mono fun e W' ⟨he, bel⟩ => ?_
  subst he
  exact ⟨_, rfl, _, _, _, [], _, [], hW', trodAll_mk1 (shut_bool Try.underlying4 _), (trodAll_cons_mk (shut_int Try.underlying22 w0) (trodAll_cons_mk (shut_int Try.underlying28 w1) (trodAll_cons_mk (ask_reads _ _ _ _ w2 x2) trodAll_mk0))), rfl, bel.frame _, fun h => by cases h⟩
theorem over : Rows.ackmapHasRow.holds Try.pinned (OpenSpec.ofChange Rows.ackmapHasSpec) :=
  OpenClaim.holds_of_wide 5 Try.f5 rfl rfl rfl rfl rfl rfl rfl ⟨rfl, rfl, rfl, rfl, rfl⟩ rfl rfl rfl rfl rfl (by kernel_rfl) Try.func5 (by kernel_rfl)
    (of_decide_eq_true (by kernel_rfl)) (by unfold Func.isWrapper; first | (rw [if_pos (by decide +kernel)]; kernel_rfl) | (rw [if_neg (by decide +kernel)]; exact ⟨rfl, rfl⟩))
    (fun os started H enc _ => lifted os started H enc)
end Go.Proofs.Ytkafpcboflmdoaa.ackmapHas
namespace Go.Proofs.Ytkafpcboflmdoaa
/-- The row, under a short name, for the claim. -/
theorem ackmapHas_holds : Rows.AckmapHasSaid := ackmapHas.over
#print axioms ackmapHas_holds
end Go.Proofs.Ytkafpcboflmdoaa
