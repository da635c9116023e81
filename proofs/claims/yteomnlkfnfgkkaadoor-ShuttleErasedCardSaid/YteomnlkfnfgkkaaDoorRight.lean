/- The walk of bits.Right at lists of bits. Condition: each is 0 or 1. -/
import Derived.Test.YteomnlkfnfgkkaaDoorStands
namespace Go.Proofs.YteomnlkfnfgkkaaDoor.Q
open Go.RowKit Go.Proofs.YteomnlkfnfgkkaaDoorW.PrintWords Go.Proofs.YteomnlkfnfgkkaaDoorW.PrintLast Go.Proofs.YteomnlkfnfgkkaaDoorW.PrintMore
attribute [local go_sem] max2_int min2_int max_two min_two max_three min_three max_four min_four   -- for this text's walks alone
set_option linter.unusedVariables false
set_option linter.unusedSimpArgs false
theorem right1_calls (x : Int) (w : World) : Calls Tryd.prog 25 #[.int .u8 x] w fun e w' => e = .returned (.bool (decide (1 < x))) ∧ Below w.heap.size w w' := by
  go_enter Tryd.func25, Tryd.ntmps25
  go_wp2
  go_ret
  exact ⟨rfl, Below.refl _ _⟩
set_option maxHeartbeats 8000000 in
set_option maxRecDepth 100000 in
theorem index_calls (A0 : Option Addr) (c0 : Nat) (l0 : List Int) (w : World) (hr0 : Kd.C (Kd.int .u8) w A0 l0.length l0) (hl : l0.length < 1000000) (hb : ∀ x ∈ l0, x ≤ 1) :
    Calls Tryd.prog 33 #[.slice A0 l0.length c0, .func (.func 25) #[] #[]] w fun e w' => e = .returned (.int .i64 (-1)) ∧ Below w.heap.size w w' := by
  have HR := Aside0.mk hr0
  have HL := Aside0.mk hl
  have HB1 := Aside0.mk hb
  have he : ∀ (args : Array Value) (w : World), (callFunc 25 args).run Tryd.prog w = .ok (.enter 25 args) w := fun args w => enters_ Tryd.func25 (by kernel_rfl) rfl args w
  clear hr0 hl hb
  have HB := Aside0.mk (Below.refl w.heap.size w)
  go_enter Tryd.func33, Tryd.ntmps33
  go_wp2
  go_loopg [5, 8] (l0.length + 1) (fun kq v5 v8 w' => ∃ (i : Nat) (x : Int), v8 = .int .i64 x ∧ Aside0 (x = i ∧ i ≤ l0.length ∧ i + kq = l0.length + 1) ∧ Aside0 (Below w.heap.size w w'))
  case atStart => exact ⟨0, 0, rfl, ⟨by omega⟩, HB⟩
  case round =>
    clear HB
    obtain ⟨i, x, rfl, HI, HB⟩ := hrel
    cases gk with
    | zero => exact absurd HI.out (by omega)
    | succ k1 =>
      by_cases cl : x < (l0.length : Int)
      · have c5 : decide (x < (l0.length : Int)) = true := decide_eq_true cl
        have p0 : 0 ≤ x := by have := HI.out; omega
        obtain ⟨ad, e1, hx⟩ := Kd.at_int HR.out x p0 cl
        cases e1
        replace hx := (HB.out.cell (World.block_lt_of_cell? w _ hx)).trans hx
        have hv : rd l0 x ≤ 1 := by
          have hm : x.toNat < l0.length := by omega
          have := HB1.out (l0[x.toNat]) (List.getElem_mem _)
          unfold rd
          rw [List.getD_eq_getElem?_getD, List.getElem?_eq_getElem hm]
          exact this
        have CL := Aside0.mk cl
        obtain ⟨v, hvv⟩ : ∃ v_, rd l0 x = v_ := ⟨_, rfl⟩
        rw [hvv] at hv hx
        have hd : decide (1 < v) = false := decide_eq_false (by omega)
        have HC := Aside0.mk (right1_calls v wr)
        rw [hd] at HC
        replace p0 := eq_true p0
        have q0 := eq_true cl
        clear cl hv hd hvv
        go_wp2_with (first | ((with_reducible refine HC.out.mono ?_); rintro e w2 ⟨rfl, hb⟩; have n0_ := Aside0.mk (below_step HB.out hb); clear HB hb; have HB := n0_; clear n0_))
        go_roundg k1
        case measure => omega
        case rel => exact ⟨i + 1, wrap64 (x + 1), rfl, ⟨by have h1 := HI.out; have h2 := CL.out; have h3 := HL.out; unfold wrap64; omega⟩, HB⟩
      · have c5 : decide (x < (l0.length : Int)) = false := decide_eq_false cl
        clear cl
        go_wp2
        go_ret
        exact ⟨rfl, HB.out⟩
set_option maxHeartbeats 8000000 in
set_option maxRecDepth 100000 in
theorem contains_calls (A0 : Option Addr) (c0 : Nat) (l0 : List Int) (w : World) (hr0 : Kd.C (Kd.int .u8) w A0 l0.length l0) (hl : l0.length < 1000000) (hb : ∀ x ∈ l0, x ≤ 1) :
    Calls Tryd.prog 24 #[.slice A0 l0.length c0, .func (.func 25) #[] #[]] w fun e w' => e = .returned (.bool false) ∧ Below w.heap.size w w' := by
  have HC := Aside0.mk (index_calls A0 c0 l0 w hr0 hl hb)
  clear hr0 hl hb
  go_enter Tryd.func24, Tryd.ntmps24
  go_wp2_with (first | ((with_reducible refine gate_callee (f := 33) rfl ?_); refine goesL_ (some 7) rfl rfl Tryd.func33 (by kernel_rfl) rfl #[.slice A0 l0.length c0, .func (.func 25) #[] #[]] rfl (by (try simp only [List.map_toArray, List.map_cons, List.map_nil]); first | done | rfl) ?_; (with_reducible refine HC.out.mono ?_); rintro e w2 ⟨rfl, hb⟩; refine ⟨_, rfl, ?_⟩; have HB := Aside0.mk hb; clear hb))
  go_ret
  exact ⟨rfl, HB.out⟩
set_option maxHeartbeats 8000000 in
set_option maxRecDepth 100000 in
theorem right_calls (A0 : Option Addr) (c0 : Nat) (l0 : List Int) (w : World) (hr0 : Kd.C (Kd.int .u8) w A0 l0.length l0) (hl : l0.length < 1000000) (hb : ∀ x ∈ l0, x ≤ 1) :
    Calls Tryd.prog 11 #[.slice A0 l0.length c0] w fun e w' => e = .returned (.bool true) ∧ Below w.heap.size w w' := by
  have HC := Aside0.mk (contains_calls A0 c0 l0 w hr0 hl hb)
  clear hr0 hl hb
  go_enter Tryd.func11, Tryd.ntmps11
  go_wp2_with (first | ((with_reducible refine gate_callee (f := 24) rfl ?_); refine goesL_ (some 4) rfl rfl Tryd.func24 (by kernel_rfl) rfl #[.slice A0 l0.length c0, .func (.func 25) #[] #[]] rfl (by (try simp only [List.map_toArray, List.map_cons, List.map_nil]); first | done | rfl) ?_; (with_reducible refine HC.out.mono ?_); rintro e w2 ⟨rfl, hb⟩; refine ⟨_, rfl, ?_⟩; have HB := Aside0.mk hb; clear hb))
  go_ret
  exact ⟨rfl, HB.out⟩
end Go.Proofs.YteomnlkfnfgkkaaDoor.Q
