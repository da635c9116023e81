/- The walks of the functions that shuffle hands to each: Order appends the place, Put what lies at it, Take writes at it what comes next. Conditions: what they captured lies in blocks of its own. -/
import Derived.Test.YtdakfabdegiboaaEach
import Derived.Deep.RegionLaw
namespace Go.Proofs.Ytdakfabdegiboaa.Q
open Go.RowKit Go.Proofs.YtdakfabdegiboaaW.PrintWords Go.Proofs.YtdakfabdegiboaaW.PrintLast Go.Proofs.YtdakfabdegiboaaW.PrintMore
set_option linter.unusedVariables false
set_option linter.unusedSimpArgs false
theorem inf3 : (Try.prog.info? 3).map (fun i => (i.zero, i.size, i.bytes)) = some (some (.int .i64 0), 1, 8) := by kernel_rfl
theorem inf5 : (Try.prog.info? 5).map (fun i => (i.zero, i.size, i.bytes)) = some (some (.int .u8 0), 1, 1) := by kernel_rfl

/-- What Order has gathered: a row of its own, in the variable that the function captured. -/
def InvO (w0 : World) (gv : Nat) (xs : List Int) (w : World) : Prop :=
  ∃ v, w.heap[gv]? = some (Obj.cells #[v] 31 (0, 0)) ∧ Kd.R (Kd.int .i64) 3 w w0.heap.size (fun _ => True) v xs ∧ Below w0.heap.size w0 w ∧ w0.heap.size ≤ gv
def dO (xs : List Int) (i : Int) : Option (List Int) := if xs.length < 17592186044416 then some (xs ++ [i]) else none
set_option maxHeartbeats 4000000 in
set_option maxRecDepth 100000 in
theorem order_closure (w0 : World) (gv : Nat) (xs : List Int) (i : Int) (xs2 : List Int) (w : World) (hd : dO xs i = some xs2) (hI : InvO w0 gv xs w) :
    Calls Try.prog 22 #[.int .i64 i, .pointer (some ⟨gv, 0, none⟩)] w fun e w' => e = .returned (.tuple #[]) ∧ InvO w0 gv xs2 w' ∧ Keep42 w w' := by
  unfold dO at hd
  by_cases c : xs.length < 17592186044416
  · rw [if_pos c] at hd
    obtain rfl := Option.some.inj hd
    clear hd
    obtain ⟨v, hv, hr, hb0, hle⟩ := hI
    have BK := Aside0.mk hv
    have HR := Aside0.mk hr
    have HB := Aside0.mk hb0
    have LM := Aside0.mk c
    have HL := Aside0.mk hle
    have cv := cell_of_one hv
    clear hv hr hb0 c hle
    go_enter Try.func22, Try.ntmps22
    go_wp2_with (first | ((with_reducible refine gate_builtin (b := .append) (xs := #[.tmp 3, .tmp 5]) rfl ?_); at_builtin; refine Kd.R_append (Kd.int .i64) (w0 := w0) w0.heap.size rfl (.tmp 3) (.tmp 5) 31 3 (.int .i64 0) 8 rfl Try.underlying31 inf3 rfl (by decide) (by omega) v xs i [.int .i64 i] (fun _ => True) (fun _ => False) rfl rfl ?aP (fun _ hk => hk.elim) ?aF ?aO ?aB ?aS ?aL ?_; (case aP => exact rfl); (case aB => exact HB.out); (case aF => exact (fun _ _ => trivial)); (case aO => exact HR.out); (case aS => exact (below_size HB.out)); (case aL => have := LM.out; omega); intro v2 w2 ho hb hg hat; have BK2 := Aside0.mk (blk_grown BK.out hg (Kd.R_ne HR.out BK.out (by decide))); have HR2 := Aside0.mk ho; have HB2 := Aside0.mk hb; have HG := Aside0.mk hg; have fz := blk_frozen BK2.out 0; have cv2 := cell_of_one BK2.out; clear ho hb hg hat cv; obtain ⟨A2, c2, e2⟩ := Kd.R_slice HR2.out; subst e2))
    go_end0
    refine ⟨rfl, ⟨_, one_setCell BK2.out, (by have h_ := Kd.R_set HR2.out BK2.out (by decide) 0 (Value.slice A2 (xs ++ [i]).length c2); simpa using h_), HB2.out.setCell HL.out _, HL.out⟩, ?_⟩
    intro g cs hgc
    exact blk_far (blk_grown hgc HG.out (Kd.R_ne HR.out hgc (by decide))) (blk_ne hgc BK.out (by decide)) _
  · rw [if_neg c] at hd
    cases hd
/-- The byte at i of a row that is read. -/
theorem u8_at {w : World} {A : Option Addr} {l : List Int} (h : Kd.C (Kd.int .u8) w A l.length l) {i : Int} (h0 : 0 ≤ i) (h1 : i < (l.length : Int)) : ∃ ad, A = some ad ∧ w.cell? (ad.add i.toNat) = some (.int .u8 (rd l i)) := by
  obtain ⟨ad, cs, hA, hlen, hR, hcell⟩ := ReadsRow.get_ h 0 i h0 h1
  have hcs : cs = [.int .u8 (l.getD i.toNat 0)] := hR
  subst hcs
  have := hcell 0 _ rfl
  refine ⟨ad, hA, ?_⟩
  have e : i.toNat * (Kd.int .u8).sz + 0 = i.toNat := by show i.toNat * 1 + 0 = i.toNat; omega
  rw [e] at this
  exact this
def InvP (w0 : World) (gv gl : Nat) (lv : Value) (l : List Int) (xs : List Int) (w : World) : Prop :=
  ∃ v, w.heap[gv]? = some (Obj.cells #[v] 22 (0, 0)) ∧ w.heap[gl]? = some (Obj.cells #[lv] 22 (0, 0)) ∧ Kd.R (Kd.int .u8) 5 w w0.heap.size (fun _ => True) v xs ∧ Below w0.heap.size w0 w ∧ w0.heap.size ≤ gv ∧ w0.heap.size ≤ gl ∧ gv ≠ gl
def dP (l : List Int) (xs : List Int) (i : Int) : Option (List Int) := if 0 ≤ i then (if i < (l.length : Int) then (if xs.length < 140737488355328 then some (xs ++ [rd l i]) else none) else none) else none
set_option maxHeartbeats 4000000 in
set_option maxRecDepth 100000 in
theorem put_closure (w0 : World) (gv gl : Nat) (A : Option Addr) (c0 : Nat) (l : List Int) (hC : Kd.C (Kd.int .u8) w0 A l.length l) (hc0 : l.length ≤ c0) (xs : List Int) (i : Int) (xs2 : List Int) (w : World) (hd : dP l xs i = some xs2) (hI : InvP w0 gv gl (.slice A l.length c0) l xs w) :
    Calls Try.prog 19 #[.int .i64 i, .pointer (some ⟨gv, 0, none⟩), .pointer (some ⟨gl, 0, none⟩)] w fun e w' => e = .returned (.tuple #[]) ∧ InvP w0 gv gl (.slice A l.length c0) l xs2 w' ∧ Keep42 w w' := by
  unfold dP at hd
  by_cases h0 : 0 ≤ i
  · rw [if_pos h0] at hd
    by_cases h1 : i < (l.length : Int)
    · rw [if_pos h1] at hd
      by_cases c : xs.length < 140737488355328
      · rw [if_pos c] at hd
        obtain rfl := Option.some.inj hd
        clear hd
        obtain ⟨v, hv, hl, hr, hb0, hle, hle2, hne⟩ := hI
        have BK := Aside0.mk hv
        have BL := Aside0.mk hl
        have HR := Aside0.mk hr
        have HB := Aside0.mk hb0
        have LM := Aside0.mk c
        have HL := Aside0.mk hle
        have HL2 := Aside0.mk hle2
        have HN := Aside0.mk hne
        have HC := Aside0.mk (Kd.C_below hC hb0)
        have cv := cell_of_one hv
        have cl := cell_of_one hl
        have cva := cell_of_one (blk_alloc BK.out (Obj.cells #[.int .u8 (rd l i)] 5))
        obtain ⟨ad, rfl, hcell⟩ := u8_at HC.out h0 h1
        clear hv hl hr hb0 c hle hle2 hne hC
        go_enter Try.func19, Try.ntmps19
        go_wp2
        go_region_law ((refine Kd.R_append_step (W := w.drew) (Kd.int .u8) (w0 := w0) w0.heap.size rfl (.tmp 4) (.tmp 9) 22 5 (.int .u8 0) 1 rfl Try.underlying22 inf5 rfl (by decide) (by decide) v xs (rd l i) [.int .u8 (rd l i)] (fun _ => True) (fun _ => False) rfl rfl ?aP (fun _ hk => hk.elim) ?aF ?aO ?aB ?aS ?aL ?_; (case aP => exact rfl); (case aB => exact HB.out.drew); (case aF => exact (fun _ _ => trivial)); (case aO => exact Kd.R_drew HR.out); (case aS => exact (below_size HB.out.drew)); (case aL => have := LM.out; omega); intro v2 w2 ho hb hg hat; have BK2 := Aside0.mk (blk_grown (blk_drew BK.out) hg (Kd.R_ne HR.out BK.out (by decide))); have BL2 := Aside0.mk (blk_grown (blk_drew BL.out) hg (Kd.R_ne HR.out BL.out (by decide))); have HR2 := Aside0.mk ho; have HB2 := Aside0.mk hb; have HG := Aside0.mk hg; have fz := blk_frozen BK2.out 0; have cv2 := cell_of_one BK2.out; clear ho hb hg hat; obtain ⟨A2, c2, e2⟩ := Kd.R_slice HR2.out; subst e2))
        all_goals (try go_wp2)
        all_goals go_end0
        all_goals
          refine ⟨rfl, ⟨_, one_setCell BK2.out, blk_far BL2.out (fun e => HN.out e.symm) _, (by have h_ := Kd.R_set HR2.out BK2.out (by decide) 0 (Value.slice A2 (xs ++ [rd l i]).length c2); simpa using h_), HB2.out.setCell HL.out _, HL.out, HL2.out, HN.out⟩, ?_⟩
          intro g cs hgc
          exact blk_far (blk_grown (blk_drew hgc) HG.out (Kd.R_ne HR.out hgc (by decide))) (blk_ne hgc BK.out (by decide)) _
      · rw [if_neg c] at hd
        cases hd
    · rw [if_neg h1] at hd
      cases hd
  · rw [if_neg h0] at hd
    cases hd
/-- What Take has written: a row of its own; what comes next; the list: each in its variable. -/
def InvT (w0 : World) (gl gk go : Nat) (lv : Value) (xk : List Int × Int) (w : World) : Prop :=
  ∃ v, w.heap[go]? = some (Obj.cells #[v] 22 (0, 0)) ∧ w.heap[gl]? = some (Obj.cells #[lv] 22 (0, 0)) ∧ w.heap[gk]? = some (Obj.cells #[.int .i64 xk.2] 3 (0, 0)) ∧ Kd.R (Kd.int .u8) 5 w w0.heap.size (fun _ => True) v xk.1 ∧ Below w0.heap.size w0 w ∧ w0.heap.size ≤ gk
def dT (l : List Int) (xk : List Int × Int) (i : Int) : Option (List Int × Int) := if 0 ≤ i then (if i < (xk.1.length : Int) then (if 0 ≤ xk.2 then (if xk.2 < (l.length : Int) then some (xk.1.set i.toNat (rd l xk.2), wrap64 (xk.2 + 1)) else none) else none) else none) else none
set_option maxHeartbeats 4000000 in
set_option maxRecDepth 100000 in
theorem take_closure (w0 : World) (gl gk go : Nat) (A : Option Addr) (c0 : Nat) (l : List Int) (hC : Kd.C (Kd.int .u8) w0 A l.length l) (hc0 : l.length ≤ c0) (xk : List Int × Int) (i : Int) (xk2 : List Int × Int) (w : World) (hd : dT l xk i = some xk2) (hI : InvT w0 gl gk go (.slice A l.length c0) xk w) :
    Calls Try.prog 21 #[.int .i64 i, .pointer (some ⟨gl, 0, none⟩), .pointer (some ⟨gk, 0, none⟩), .pointer (some ⟨go, 0, none⟩)] w fun e w' => e = .returned (.tuple #[]) ∧ InvT w0 gl gk go (.slice A l.length c0) xk2 w' ∧ Keep42 w w' := by
  obtain ⟨xs, k⟩ := xk
  unfold dT at hd
  simp only at hd
  by_cases h0 : 0 ≤ i
  · rw [if_pos h0] at hd
    by_cases h1 : i < (xs.length : Int)
    · rw [if_pos h1] at hd
      by_cases k0 : 0 ≤ k
      · rw [if_pos k0] at hd
        by_cases k1 : k < (l.length : Int)
        · rw [if_pos k1] at hd
          obtain rfl := Option.some.inj hd
          clear hd
          obtain ⟨v, ho, hl, hk, hr, hb0, hle⟩ := hI
          simp only at hk hr
          obtain ⟨g, cap, rfl, hg1, hg2, cells, hg3⟩ := Kd.R_form hr (by omega)
          obtain ⟨cx, fx⟩ := Kd.R_cell 0 hr i h0 h1
          have BO := Aside0.mk ho
          have BL := Aside0.mk hl
          have BK := Aside0.mk hk
          have BG := Aside0.mk hg3
          have HR := Aside0.mk hr
          have HB := Aside0.mk hb0
          have HL := Aside0.mk hle
          have HG1 := Aside0.mk hg1
          have cO := cell_of_one ho
          have cL := cell_of_one hl
          have cK := cell_of_one hk
          obtain ⟨ad, rfl, hcell⟩ := u8_at (Kd.C_below hC hb0) k0 k1
          have ea : (⟨g, 0, none⟩ : Addr).add i.toNat = ⟨g, i.toNat, none⟩ := by unfold Addr.add; split <;> simp_all
          have nk : g ≠ gk := blk_ne hg3 hk (by decide)
          have bk2 := blk_far hk (p := ⟨g, i.toNat, none⟩) (fun e => nk e.symm) (.int .u8 (rd l k))
          have cK2 := cell_of_one bk2
          have fK2 := free_of_one bk2
          have BK2 := Aside0.mk bk2
          have NK := Aside0.mk nk
          have EA := Aside0.mk ea
          clear ho hl hk hg3 hr hb0 hle hC hg1 hg2 nk bk2
          go_enter Try.func21, Try.ntmps21
          go_wp2
          go_region
          go_wp2
          go_end0
          obtain ⟨HP, HGR⟩ := Kd.R_put HR.out i (rd l k)
          have bo2 := blk_far BO.out (p := ⟨g, i.toNat, none⟩) (fun e => absurd (show (22 : Nat) = 5 from by have := BO.out; rw [e] at this; rw [BG.out] at this; simp at this) (by decide)) (.int .u8 (rd l k))
          have bl2 := blk_far BL.out (p := ⟨g, i.toNat, none⟩) (fun e => absurd (show (22 : Nat) = 5 from by have := BL.out; rw [e] at this; rw [BG.out] at this; simp at this) (by decide)) (.int .u8 (rd l k))
          refine ⟨rfl, ⟨_, blk_far (blk_drew bo2) (blk_ne BO.out BK.out (by decide)) _, blk_far (blk_drew bl2) (blk_ne BL.out BK.out (by decide)) _, one_setCell (blk_drew BK2.out), ?_, ?_, HL.out⟩, ?_⟩
          · have h_ := Kd.R_set (Kd.R_drew HP) (blk_drew BK2.out) (by decide) 0 (.int .i64 (wrap64 (k + 1)))
            exact h_
          · exact ((HB.out.setCell (p := ⟨g, i.toNat, none⟩) HG1.out _).drew).setCell HL.out _
          · intro g2 cs hgc
            exact blk_far (blk_drew (blk_far hgc (p := ⟨g, i.toNat, none⟩) (blk_ne hgc BG.out (by decide)) _)) (blk_ne hgc BK.out (by decide)) _
        · rw [if_neg k1] at hd
          cases hd
      · rw [if_neg k0] at hd
        cases hd
    · rw [if_neg h1] at hd
      cases hd
  · rw [if_neg h0] at hd
    cases hd
end Go.Proofs.Ytdakfabdegiboaa.Q
