/- The walk of slices.ContainsFunc over numbers within the bounds of soft.Clip. Condition: each is between -31 and 31. -/
import Derived.Test.YteomnlkfnfgkkaaDoorRight
namespace Go.Proofs.YteomnlkfnfgkkaaDoor.Q
open Go.RowKit Go.Proofs.YteomnlkfnfgkkaaDoorW.PrintWords Go.Proofs.YteomnlkfnfgkkaaDoorW.PrintLast Go.Proofs.YteomnlkfnfgkkaaDoorW.PrintMore
attribute [local go_sem] max2_int min2_int max_two min_two max_three min_three max_four min_four   -- for this text's walks alone
set_option linter.unusedVariables false
set_option linter.unusedSimpArgs false
theorem clip_calls (x : Int) (h : -31 ≤ x ∧ x ≤ 31) (w : World) : Calls Tryd.prog 20 #[.int .i64 x] w fun e w' => e = .returned (.int .i64 x) ∧ Below w.heap.size w w' := by
  have H := Aside0.mk h
  have a1 : ¬ 31 < x := by omega
  have a2 : ¬ x < -31 := by omega
  have a3 : x ≤ 31 := h.2
  have a4 : -31 ≤ x := h.1
  clear h
  go_enter Tryd.func20, Tryd.ntmps20
  go_wp2
  all_goals first
    | (go_ret; exact ⟨rfl, Below.refl _ _⟩)
    | (exfalso; simp_all; done)
    | (exfalso; simp_all; omega)
theorem clip1_calls (x : Int) (h : -31 ≤ x ∧ x ≤ 31) (w : World) : Calls Tryd.prog 19 #[.int .i64 x] w fun e w' => e = .returned (.bool false) ∧ Below w.heap.size w w' := by
  have HC := Aside0.mk (clip_calls x h)
  clear h
  go_enter Tryd.func19, Tryd.ntmps19
  go_wp2_with (first | ((with_reducible refine gate_callee (f := 20) rfl ?_); refine goesL_ (some 5) rfl rfl Tryd.func20 (by kernel_rfl) rfl #[.int .i64 x] rfl (by (try simp only [List.map_toArray, List.map_cons, List.map_nil]); first | done | rfl) ?_; (with_reducible refine (HC.out _).mono ?_); rintro e w2 ⟨rfl, hb⟩; refine ⟨_, rfl, ?_⟩; have HB := Aside0.mk hb; clear hb))
  go_ret
  exact ⟨rfl, HB.out⟩
set_option maxHeartbeats 8000000 in
set_option maxRecDepth 100000 in
theorem indexN_calls (gl off N c0 : Nat) (v : Nat → Int) (w : World) (hr0 : ∀ j, j < N → w.cell? ⟨gl, off + j, none⟩ = some (.int .i64 (v j))) (hl : N < 1000000) (hb : ∀ j, j < N → -31 ≤ v j ∧ v j ≤ 31) :
    Calls Tryd.prog 30 #[.slice (some ⟨gl, off, none⟩) N c0, .func (.func 19) #[] #[]] w fun e w' => e = .returned (.int .i64 (-1)) ∧ Below w.heap.size w w' := by
  have HR := Aside0.mk hr0
  have HL := Aside0.mk hl
  have HB1 := Aside0.mk hb
  have he : ∀ (args : Array Value) (w : World), (callFunc 19 args).run Tryd.prog w = .ok (.enter 19 args) w := fun args w => enters_ Tryd.func19 (by kernel_rfl) rfl args w
  clear hr0 hl hb
  have HB := Aside0.mk (Below.refl w.heap.size w)
  go_enter Tryd.func30, Tryd.ntmps30
  go_wp2
  go_loopg [5, 8] (N + 1) (fun kq v5 v8 w' => ∃ (i : Nat), v8 = .int .i64 (i : Int) ∧ Aside0 (i ≤ N ∧ i + kq = N + 1) ∧ Aside0 (Below w.heap.size w w'))
  case atStart => exact ⟨0, rfl, ⟨by omega⟩, HB⟩
  case round =>
    clear HB
    obtain ⟨i, rfl, HI, HB⟩ := hrel
    cases gk with
    | zero => exact absurd HI.out (by omega)
    | succ k1 =>
      by_cases cl : (i : Int) < (N : Int)
      · have c5 : decide ((i : Int) < (N : Int)) = true := decide_eq_true cl
        have hin : i < N := by omega
        have c6 : decide (i < N) = true := decide_eq_true hin
        have hx := (HB.out.cell (World.block_lt_of_cell? w _ (HR.out i hin))).trans (HR.out i hin)
        have hv := HB1.out i hin
        have CL := Aside0.mk cl
        obtain ⟨u, hvv⟩ : ∃ v_, v i = v_ := ⟨_, rfl⟩
        rw [hvv] at hv hx
        have HC := Aside0.mk (clip1_calls u hv wr)
        have q0 := eq_true cl
        have q1 := eq_true hin
        clear cl hv hvv hin
        go_wp2_with (first | ((with_reducible refine HC.out.mono ?_); rintro e w2 ⟨rfl, hb⟩; have n0_ := Aside0.mk (below_step HB.out hb); clear HB hb; have HB := n0_; clear n0_))
        go_roundg k1
        case measure => omega
        case rel => exact ⟨i + 1, by first | (have h3 := HL.out; have h4 := CL.out; congr 1; unfold wrap64; omega) | (simp; done), ⟨by have h1 := HI.out; have h2 := CL.out; have h3 := HL.out; omega⟩, HB⟩
      · have c5 : decide ((i : Int) < (N : Int)) = false := decide_eq_false cl
        have c6 : decide (i < N) = false := decide_eq_false (by omega)
        clear cl
        go_wp2
        go_ret
        exact ⟨rfl, HB.out⟩
set_option maxHeartbeats 8000000 in
set_option maxRecDepth 100000 in
theorem containsN_calls (gl off N c0 : Nat) (v : Nat → Int) (w : World) (hr0 : ∀ j, j < N → w.cell? ⟨gl, off + j, none⟩ = some (.int .i64 (v j))) (hl : N < 1000000) (hb : ∀ j, j < N → -31 ≤ v j ∧ v j ≤ 31) :
    Calls Tryd.prog 18 #[.slice (some ⟨gl, off, none⟩) N c0, .func (.func 19) #[] #[]] w fun e w' => e = .returned (.bool false) ∧ Below w.heap.size w w' := by
  have HC := Aside0.mk (indexN_calls gl off N c0 v w hr0 hl hb)
  clear hr0 hl hb
  go_enter Tryd.func18, Tryd.ntmps18
  go_wp2_with (first | ((with_reducible refine gate_callee (f := 30) rfl ?_); refine goesL_ (some 7) rfl rfl Tryd.func30 (by kernel_rfl) rfl #[.slice (some ⟨gl, off, none⟩) N c0, .func (.func 19) #[] #[]] rfl (by (try simp only [List.map_toArray, List.map_cons, List.map_nil]); first | done | rfl) ?_; (with_reducible refine HC.out.mono ?_); rintro e w2 ⟨rfl, hb⟩; refine ⟨_, rfl, ?_⟩; have HB := Aside0.mk hb; clear hb))
  go_ret
  exact ⟨rfl, HB.out⟩
end Go.Proofs.YteomnlkfnfgkkaaDoor.Q
