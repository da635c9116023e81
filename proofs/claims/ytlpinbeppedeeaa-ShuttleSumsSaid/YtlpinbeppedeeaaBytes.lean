/- The walk of bits.Bytes at lists of bits whose count is a multiple of eight. Condition: each is 0 or 1. -/
import Derived.Test.YtlpinbeppedeeaaChunk
namespace Go.Proofs.Ytlpinbeppedeeaa.Q
open Go.RowKit Go.Shelf Go.Proofs.YtlpinbeppedeeaaW.PrintWords Go.Proofs.YtlpinbeppedeeaaW.PrintLast Go.Proofs.YtlpinbeppedeeaaW.PrintMore
attribute [local go_sem] Oper.semAt_some
set_option linter.unusedVariables false
set_option linter.unusedSimpArgs false
/-- Byte k of a list of bits, from its j first ones. -/
def accN (l : List Int) (k : Nat) : Nat → Int
  | 0 => 0
  | j + 1 => Go.bits .or .u8 (accN l k j) (rd l (8 * (k : Int) + (j : Int)) * 2 ^ (7 - j) % 256)
def byteN (l : List Int) (k : Nat) : Int := accN l k 8
set_option maxRecDepth 100000 in
set_option maxHeartbeats 8000000 in
theorem bytes_in (b off m cap : Nat) (hcap : 8 * m ≤ cap) (hm : m ≤ 1000) (h0m : 0 < m) (l0 : List Int) (hl : l0.length = 8 * m) (hbits : ∀ x ∈ l0, x ≤ 1) (w : World)
    (hc : ∀ j, j < 8 * m → w.cell? ⟨b, off + j, none⟩ = some (.int .u8 (rd l0 (j : Int)))) (hr : Kd.C (Kd.int .u8) w (some ⟨b, off, none⟩) l0.length l0) :
    CallsIn Fence.wide 6 Try.prog 11 #[.slice (some ⟨b, off, none⟩) (8 * m) cap] w fun e W' => ∃ v, e = .returned (.tuple #[v, .int .i64 0]) ∧ W'.ownsRow w.heap.size 5 1 v m ((List.range m).map (fun k => Value.int .u8 (byteN l0 k))) ∧ Below w.heap.size w W' := by
  obtain ⟨i0, hi, hz0, hz1, hz2⟩ := info_parts infB
  have hf16 : Fence.wide.fn 16 := trivial
  have hf17 : Fence.wide.fn 17 := trivial
  have hb : b < w.heap.size := World.block_lt_of_cell? w _ (hc 0 (by omega))
  have HR := Aside0.mk hr
  have HL := Aside0.mk hl
  have HBI := Aside0.mk hbits
  clear hr hbits
  refine callsIn_of_wp_marks Try.func11 rfl trivial ?_ rfl
  simp only [Try.ntmps11, List.size_toArray, List.length_cons, List.length_nil, Nat.reduceAdd, Nat.reduceSub, Array.replicate_succ, Array.replicate_zero, List.push_toArray, List.append_toArray, List.nil_append, List.cons_append]
  gi_wp2_with (first | (gi_at_call 16; refine (callsIn_wide.2 (by have := right_calls (some ⟨b, off, none⟩) cap l0 w HR.out (by rw [HL.out]; omega) HBI.out; rw [HL.out] at this; exact this)).mono ?_; rintro e w1 ⟨rfl, hb1⟩) | (gi_at_call 17; refine (chunk_in _ _ _ _ _).mono ?_; rintro e w2 ⟨rfl, rfl⟩))
  have hBw : w.heap.size ≤ w1.heap.size := hb1.size
  have bO := ((Boxed.new w1 22 (.slice none 0 0)).alloc (Obj.cells #[Value.slice (some ⟨b, off, none⟩) (8 * m) cap] 22)).alloc (Obj.cells #[Value.int IntKind.i64 8] 3)
  have bS := (Boxed.new (w1.alloc (Obj.cells #[Value.slice none 0 0] 22)) 22 (Value.slice (some ⟨b, off, none⟩) (8 * m) cap)).alloc (Obj.cells #[Value.int IntKind.i64 8] 3)
  have bN := Boxed.new ((w1.alloc (Obj.cells #[Value.slice none 0 0] 22)).alloc (Obj.cells #[Value.slice (some ⟨b, off, none⟩) (8 * m) cap] 22)) 3 (Value.int IntKind.i64 8)
  rw [World.size_alloc] at bS
  rw [World.size_alloc, World.size_alloc] at bN
  have hB0 : Below w.heap.size w (((w1.alloc (Obj.cells #[Value.slice none 0 0] 22)).alloc (Obj.cells #[Value.slice (some ⟨b, off, none⟩) (8 * m) cap] 22)).alloc (Obj.cells #[Value.int IntKind.i64 8] 3)) := ((hb1.alloc hBw _).alloc (by simp; omega) _).alloc (by simp; omega) _
  have hS0 : (((w1.alloc (Obj.cells #[Value.slice none 0 0] 22)).alloc (Obj.cells #[Value.slice (some ⟨b, off, none⟩) (8 * m) cap] 22)).alloc (Obj.cells #[Value.int IntKind.i64 8] 3)).heap.size = w1.heap.size + 3 := by simp
  generalize (((w1.alloc (Obj.cells #[Value.slice none 0 0] 22)).alloc (Obj.cells #[Value.slice (some ⟨b, off, none⟩) (8 * m) cap] 22)).alloc (Obj.cells #[Value.int IntKind.i64 8] 3)) = W0 at bO bS bN hB0 hS0 ⊢
  generalize w1.heap.size = B at hBw bO bS bN hS0 ⊢
  clear hb1
  obtain ⟨G, hG⟩ : ∃ G : Rd m → Value, ∀ x, G x = .int .u8 (byteN l0 x.1) := ⟨_, fun _ => rfl⟩
  have hI1 : Own (fun (pre : List (Rd m)) (W : World) => ∃ v, Boxed W B 22 v ∧ W.ownsRow w.heap.size 5 1 v pre.length (pre.map G) ∧ (v = .slice none 0 0 ↔ pre = [])) :=
    holdsRow_own w.heap.size B 22 5 1 (fun pre : List (Rd m) => pre.length) (fun pre => pre.map G) (fun pre v => v = .slice none 0 0 ↔ pre = [])
  have hI2 : OwnFrom W0.heap.size (fun (pre : List (Rd m)) (W : World) => Below w.heap.size w W) := ownFrom_below (Nat.le_refl _) (by omega)
  have hst := chunk_stops 5 (B + 1) (B + 1 + 1) w.heap.size b off m cap hb hm hcap W0 (by omega) bS bN
  have hkb : ∀ (W : World) (l : Nat) (o o' : Obj), W0.heap.size ≤ l → W.heap[l]? = some o → o.isCells = false → o.isWalk = false → KpC w.heap.size (B + 1) (B + 1 + 1) W (W.putObj l o') := KpC_b (by omega)
  refine wpIn_rangeFunc_ownG rfl (by omega) (gf := 22) (lb := #[Value.pointer (some ⟨B + 1, 0, none⟩), Value.pointer (some ⟨B + 1 + 1, 0, none⟩)]) rfl trivial (enters_of Try.func22 (by kernel_rfl) rfl)
    hst KpC_t hkb (Below.refl _ _) (fun _ => rfl)
    (fun pre W => (∃ v, Boxed W B 22 v ∧ W.ownsRow w.heap.size 5 1 v pre.length (pre.map G) ∧ (v = .slice none 0 0 ↔ pre = [])) ∧ Below w.heap.size w W)
    (fun _ _ _ => False)
    (OwnFrom.and (hI1.from _) hI2)
    (fun _ _ _ _ _ hs _ _ => hs)
    ⟨⟨_, bO, World.ownsRow_nil _ _ _ _, by simp⟩, hB0⟩
    (fun x => { tmps := #[.slice (some ⟨b, off, none⟩) (8 * m) cap, undef, .slice none 0 0, .int .i64 0, .pointer (some ⟨B, 0, none⟩), .slice (some ⟨b, off + 8 * x.1, none⟩) 8 8, undef, undef, undef, .slice (some ⟨b, off, none⟩) (8 * m) cap, .bool true, .bool false, .slice (some ⟨b, off, none⟩) (8 * m) cap, .func (.func 22) #[] #[.pointer (some ⟨B + 1, 0, none⟩), .pointer (some ⟨B + 1 + 1, 0, none⟩)], .slice (some ⟨b, off + 8 * x.1, none⟩) 8 8, undef, undef, undef, undef, undef, undef, undef, undef, undef, undef, undef, undef, undef, undef, undef, undef, undef, undef, undef], defers := [] }) ?assign ?body ?done ?stop
  case assign =>
    intro l x W K hK
    gi_wp2
    exact hK
  case body =>
    rintro l pre x W ⟨⟨v, hv, hrow, hnil⟩, hB⟩ hlt
    have hcv := hv.cell
    gi_wp2
    gi_loopw [6, 7, 8, 17] (fun c k8 bb idx wr => ∃ j : Nat, j ≤ 8 ∧ idx = .int .i64 (j : Int) ∧ c = .int .u8 (accN l0 x.1 j) ∧ wr = W) (fun _ _ _ idx _ => 8 - (intOf idx).toNat)
    case atStart => exact ⟨0, by omega, rfl, rfl, rfl⟩
    case round =>
      obtain ⟨j, hj, rfl, rfl, rfl⟩ := hrel
      by_cases h8 : j < 8
      · have hcj := (hB.cell (p := ⟨b, off + (8 * x.1 + j), none⟩) hb).trans (hc (8 * x.1 + j) (by have := x.2; omega))
        rw [← Nat.add_assoc] at hcj
        gi_wp2
        exact ⟨⟨j + 1, by omega, by simp, rfl, trivial⟩, by simp [intOf]; omega⟩
      · obtain rfl : j = 8 := by omega
        have hlm : pre.length < m := hlt
        have hmx : pre.length + 1 ≤ maxLen := Nat.le_trans (show pre.length + 1 ≤ 1000 by omega) (by decide)
        have hmy : (pre.length + 1) * 1 ≤ 140737488355328 := by omega
        gi_wp2_with (gi_at_builtin; refine wpListIn_append_own _ rfl _ _ 22 rfl w.heap.size 5 i0 (.int .u8 0) 1 1 Try.underlying22 hi hz0 hz1 hz2 rfl (by decide) _ _ _ rfl (hrow.alloc _) ⟨wr.heap.size, 0, none⟩ 1 1 [.int .u8 (accN l0 x.1 8)] rfl rfl (cell_one_new _ _ _) (by simp [Value.oneCell']) hmx hmy (by have := hB.size; simp; omega) ?_; intro v' w1 hown' hgrow _; obtain ⟨g', cap', rfl⟩ := ownsRow_succ hown'; obtain ⟨hv1, hv2, hr2, hk2, hb2⟩ := hv.appended (by decide) hrow hB.size hBw hown' hgrow; have hc1 := hv1.cell; have hf1 := hv1.frozen)
        refine ⟨hk2.from _, ⟨hb2, fun u hu => ?_, fun u hu => ?_⟩, ⟨_, hv2, ?_, by simp⟩, hB.trans hb2⟩
        · exact ((hu.alloc _).kept hgrow (hu.not_row (by decide) hrow)).other (by omega) _
        · exact ((hu.alloc _).kept hgrow (hu.not_row (by decide) hrow)).other (by omega) _
        · rw [List.length_append, List.map_append, List.map_singleton, hG x]; exact hr2
  case done =>
    rintro D ys W hD hys ⟨⟨v, hv, hrow, hnil⟩, hB⟩ hK
    have hcv := hv.cell
    gi_wp2
    refine ⟨by simp, .inl ⟨_, _, rfl, run_takeDeferred hK, ?_⟩⟩
    have hlen : ys.length = m := by have := congrArg List.length hys; simpa using this
    have hmap : ys.map G = (List.range m).map (fun k => Value.int .u8 (byteN l0 k)) := by
      rw [← hys, List.map_map]
      exact List.map_congr_left (fun x _ => hG x)
    have hrow2 := ownsRow_putObj hrow (.deferred none) hK rfl
    rw [hlen, hmap] at hrow2
    exact ⟨_, results_tmp2 rfl _ _ _, v, rfl, hrow2, hB.trans (belowK_b (w := w) (Nat.le_refl _) W D _ _ (by omega) hK rfl rfl)⟩
  case stop =>
    rintro D c pre W _ _ h _
    exact h.elim
/-- What bits.Bytes tells of bits. -/
def packN (l : List Int) : List Int := (List.range (l.length / 8)).map (byteN l)
def bits_Bytes.f (l0 : List Int) : Option (List Int × Int) := if 0 < l0.length ∧ l0.length % 8 = 0 ∧ l0.length ≤ 8000 ∧ (∀ x ∈ l0, x ≤ 1) then some (packN l0, 0) else none
theorem bits_Bytes.calls (A0 : Option Addr) (c0 : Nat) (l0 : List Int) (r1 : List Int) (r2 : Int) (w : World) (hr0 : Kd.C (Kd.int .u8) w A0 l0.length l0) (hc0 : l0.length ≤ c0) (h : bits_Bytes.f l0 = some (r1, r2)) :
    Calls Try.prog 11 #[.slice A0 l0.length c0] w fun e w' => ∃ v0_ : Value, e = .returned (.tuple #[v0_, .int .i64 r2]) ∧ Kd.R (Kd.int .u8) 5 w' w.heap.size (fun _ => True) v0_ r1 ∧ Below w.heap.size w w' := by
  unfold bits_Bytes.f at h
  by_cases c : 0 < l0.length ∧ l0.length % 8 = 0 ∧ l0.length ≤ 8000 ∧ (∀ x ∈ l0, x ≤ 1)
  · rw [if_pos c] at h
    simp only [Option.some.injEq, Prod.mk.injEq] at h
    obtain ⟨rfl, rfl⟩ := h
    obtain ⟨hp, h8, hl, hb⟩ := c
    obtain ⟨m, hm⟩ : ∃ m, l0.length = 8 * m := ⟨l0.length / 8, by omega⟩
    obtain ⟨_, _, hR⟩ := Kd.reads_of_C (d := (0 : Int)) hr0
    obtain ⟨ad, rfl, hcells⟩ := hR hp
    obtain ⟨b, off, spot⟩ := ad
    have hs : spot = none := by simpa [Addr.add] using World.cell?_spot (hcells 0 hp)
    subst hs
    have hc : ∀ j, j < 8 * m → w.cell? ⟨b, off + j, none⟩ = some (.int .u8 (rd l0 (j : Int))) := by
      intro j hj
      have h := hcells j (by omega)
      have e : (Addr.add ⟨b, off, none⟩ j) = ⟨b, off + j, none⟩ := by by_cases e : j = 0 <;> simp [Addr.add, e]
      rw [e] at h
      exact h
    have key := (callsIn_wide (n := 6)).1 (bytes_in b off m c0 (by omega) (by omega) (by omega) l0 hm hb w hc hr0)
    rw [← hm] at key
    refine key.mono ?_
    rintro e w' ⟨v, rfl, hrow, hbel⟩
    have hpl : (packN l0).length = m := by rw [packN, List.length_map, List.length_range, hm]; omega
    refine ⟨v, rfl, Kd.R_of_own ?_ (fun _ _ => trivial), hbel⟩
    rw [hpl]
    have e2 : encs (Value.int .u8) (packN l0) = (List.range m).map (fun k => Value.int .u8 (byteN l0 k)) := by
      unfold encs packN
      rw [List.map_map, hm, show 8 * m / 8 = m by omega]
      rfl
    rw [e2]
    exact hrow
  · rw [if_neg c] at h; cases h
end Go.Proofs.Ytlpinbeppedeeaa.Q
