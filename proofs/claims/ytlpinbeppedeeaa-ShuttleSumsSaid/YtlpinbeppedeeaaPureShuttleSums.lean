/- A sum of 16 bits is the rest of a polynomial; two texts that differ in three bits or fewer have unlike sums of 32 bits. No condition beside the types' own ranges. -/
import Derived.Test.YtlpinbeppedeeaaLink3
namespace Go.Proofs.Ytlpinbeppedeeaa.Pure
open Go.RowKit Go.Proofs.Ytlpinbeppedeeaa.Q Go.Proofs.YtlpinbeppedeeaaW.PrintWords Go.Proofs.YtlpinbeppedeeaaW.PrintLast Go.Proofs.YtlpinbeppedeeaaW.PrintMore
set_option linter.unusedVariables false
theorem nats (l : List Int) (h : ∀ x ∈ l, (Lit.int .u8 x).wf = true) : ∃ b : List Nat, l = I b ∧ ∀ x ∈ b, x < 256 := by
  refine ⟨l.map Int.toNat, ?_, ?_⟩
  · unfold I
    rw [List.map_map]
    refine ((List.map_congr_left (fun x hx => ?_)).trans (List.map_id l)).symm
    have := wf_u8 (h x hx)
    show ((x.toNat : Nat) : Int) = id x
    simp only [id]
    omega
  · intro x hx
    obtain ⟨y, hy, rfl⟩ := List.mem_map.mp hx
    have := wf_u8 (h y hy)
    omega
theorem cut_f (l : List Int) : shuttletop_cut.f l 30 = some (l.take 30) := by
  have h : mn (l.length : Int) 30 ≤ l.length ∧ 0 ≤ mn (l.length : Int) 30 ∧ mn (l.length : Int) 30 ≤ 30 ∧ (mn (l.length : Int) 30 = 30 ∨ mn (l.length : Int) 30 = l.length) := by unfold mn; split <;> omega
  generalize hm : mn (l.length : Int) 30 = m at h
  unfold shuttletop_cut.f
  rw [hm, Option.bind_some, if_pos h.2.1, if_pos h.1, if_pos (by rw [List.length_take]; simp; omega), List.nil_append]
  rcases h.2.2.2 with e | e
  · rw [e]; rfl
  · rw [e, Int.toNat_natCast, List.take_of_length_le (Nat.le_refl _), List.take_of_length_le (by omega)]
theorem first16 (b : List Nat) : ∀ (m i k : Nat) (x0 x1 x5 : List Int), i + m = 16 →
    shuttletop_ShuttleSums.l0 (k + m) x0 x1 x5 (I (List.range i)) (i : Int) = shuttletop_ShuttleSums.l0 k x0 x1 x5 (I (List.range 16)) 16 := by
  intro m
  induction m with
  | zero =>
    intro i k x0 x1 x5 hi
    obtain rfl : i = 16 := by omega
    rfl
  | succ m ih =>
    intro i k x0 x1 x5 hi
    rw [← Nat.add_assoc, shuttletop_ShuttleSums.l0, if_pos (by omega), if_pos (by rw [I_len, List.length_range]; exact Nat.lt_of_lt_of_le (show i < 100 by omega) (by decide)),
      show wrap64 ((i : Int) + 1) = ((i + 1 : Nat) : Int) by unfold wrap64; omega, show I (List.range i) ++ [(i : Int)] = I (List.range (i + 1)) by rw [List.range_succ, I_app]; rfl]
    exact ih (i + 1) k x0 x1 x5 (by omega)
theorem xor8 (u : Nat) : (((((((u ^^^ 128) ^^^ 64) ^^^ 32) ^^^ 16) ^^^ 8) ^^^ 4) ^^^ 2) ^^^ 1 = u ^^^ 255 := by
  simp only [Nat.xor_assoc]
  rfl
theorem togs16 (u v : Nat) (r : List Nat) : togs (u :: v :: r) (List.range 16) = (u ^^^ 255) :: (v ^^^ 255) :: r := by
  rw [← xor8 u, ← xor8 v]
  rfl
def checkF : Bool := (List.range 256).all fun c => bits8 (c ^^^ 255) == (bits8 c).map (· ^^^ 1)
theorem checkF_true : checkF = true := by decide +kernel
theorem bits8_flip (c : Nat) (hc : c < 256) : bits8 (c ^^^ 255) = (bits8 c).map (· ^^^ 1) := by
  have h := List.all_eq_true.mp checkF_true c (List.mem_range.mpr hc)
  simpa using h
theorem rest_is (b : List Nat) (hb : ∀ x ∈ b, x < 256) (hl : b.length ≤ 30) (k : Nat) (hk : 500 ≤ k) :
    (bits_Turn.f k (I (ofN (b ++ [0, 0]))) (I (List.range 16))).bind (fun t => gf2_Rest.f k t 69665) = some (((D 65535 (ofN b) : Nat) : Int), true) := by
  have hb2 : ∀ x ∈ b ++ [0, 0], x < 256 := by
    intro x hx
    rcases List.mem_append.mp hx with h | h
    · exact hb x h
    · simp at h; omega
  have hlen : (b ++ [0, 0]).length = b.length + 2 := by simp
  rw [turn_f _ _ (by rw [I_len, ofN_len, hlen]; omega) (by rw [I_len, List.length_range]; decide) k (by omega), Option.bind_some,
    turns (List.range 16) (b ++ [0, 0]) hb2 (fun p hp => by have := List.mem_range.mp hp; rw [hlen]; omega)]
  obtain ⟨u, v, r, e⟩ : ∃ u v r, b ++ [0, 0] = u :: v :: r := by
    match b with
    | [] => exact ⟨0, 0, [], rfl⟩
    | [x] => exact ⟨x, 0, [0], rfl⟩
    | x :: y :: l => exact ⟨x, y, l ++ [0, 0], rfl⟩
  have hu : u < 256 := hb2 u (by rw [e]; simp)
  have hv : v < 256 := hb2 v (by rw [e]; simp)
  have e2 : ofN ((u ^^^ 255) :: (v ^^^ 255) :: r) = (bits8 u ++ bits8 v).map (· ^^^ 1) ++ ofN r := by
    rw [ofN, ofN, bits8_flip u hu, bits8_flip v hv, List.map_append, List.append_assoc]
  have e3 : (bits8 u ++ bits8 v) ++ ofN r = ofN b ++ List.replicate 16 0 := by
    have h1 : ofN (b ++ [0, 0]) = ofN b ++ List.replicate 16 0 := by rw [ofN_app]; rfl
    rw [e] at h1
    rw [← h1, ofN, ofN, List.append_assoc]
  have hk2 := crc_rest (ofN b) (bits8 u ++ bits8 v) (ofN r) (ofN_lt b) rfl e3
  rw [e, togs16, rest_bits _ (ofN_lt _) (by
    have h2 : r.length = b.length := by have := congrArg List.length e; rw [hlen] at this; simp at this; omega
    rw [ofN_len, List.length_cons, List.length_cons, h2]; omega) k (by omega), e2, hk2]
theorem togs_len (ps : List Nat) : ∀ b, (togs b ps).length = b.length := by
  induction ps with
  | nil => intro b; rfl
  | cons p ps ih => intro b; show (togs (tog b p) ps).length = _; rw [ih, tog_len]
theorem togs_lt (ps : List Nat) : ∀ b, (∀ x ∈ b, x < 256) → ∀ x ∈ togs b ps, x < 256 := by
  induction ps with
  | nil => intro b h; exact h
  | cons p ps ih => intro b h; exact ih (tog b p) (tog_lt b p h)
theorem ShuttleSums : shuttletop_ShuttleSums.Pure := by
  intro l0 l1 _ _ hw0 _ _ _
  refine ⟨1000, ?_⟩
  obtain ⟨b, hb, hlt⟩ := nats (l0.take 30) (fun x hx => hw0 x (List.mem_of_mem_take hx))
  have hl : b.length ≤ 30 := by
    have := congrArg List.length hb
    rw [List.length_take, I_len] at this
    omega
  have hb2 : ∀ x ∈ b ++ [0, 0], x < 256 := by
    intro x hx
    rcases List.mem_append.mp hx with h | h
    · exact hlt x h
    · simp at h; omega
  have hlen : (b ++ [0, 0]).length = b.length + 2 := by simp
  have ec : (I b).take 30 = I b := List.take_of_length_le (by rw [I_len]; exact hl)
  unfold shuttletop_ShuttleSums.f
  rw [cut_f, Option.bind_some, hb, cut_f, Option.bind_some, ec, Option.bind_some, if_pos (by rw [I_len]; simp; omega), show I b ++ [0, 0] = I (b ++ [0, 0]) by rw [I_app]; rfl,
    of_f _ hb2 (by omega) 1000 (by decide), Option.bind_some]
  have h16 := first16 b 16 0 984 (I b) l1 (I (ofN (b ++ [0, 0]))) (by decide)
  refine (show shuttletop_ShuttleSums.l0 1000 (I b) l1 (I (ofN (b ++ [0, 0]))) [] 0 = _ from h16).trans ?_
  rw [show (984 : Nat) = 983 + 1 from rfl, shuttletop_ShuttleSums.l0, if_neg (by decide)]
  have hr := rest_is b hlt hl 983 (by decide)
  obtain ⟨t, ht, hr⟩ := Option.bind_eq_some_iff.mp hr
  have hD : D 65535 (ofN b) < 65536 := D_lt _ _ (by decide)
  have hwr : IntKind.u16.wrap ((D 65535 (ofN b) : Nat) : Int) = ((D 65535 (ofN b) : Nat) : Int) := by rw [u16_w]; omega
  rw [ht, Option.bind_some, hr, Option.bind_some, shuttletop_stands.f, Option.bind_some, if_pos rfl, if_pos rfl, sum16_f b hlt (by omega) 983 (by decide), Option.bind_some, if_pos hwr]
  rw [show (983 : Nat) = 982 + 1 from rfl, shuttletop_ShuttleSums.j1, I_len]
  by_cases hz : b.length = 0
  · have e : (((b.length : Nat) : Int) == 0) = true := by rw [hz]; rfl
    rw [e, if_pos rfl, shuttletop_stands.f, Option.bind_some, if_pos rfl, if_pos rfl, sum16_f b hlt (by omega) 982 (by decide), Option.bind_some, hwr, beq_self_eq_true]
  · have e : (((b.length : Nat) : Int) == 0) = false := by rw [beq_eq_false_iff_ne]; omega
    rw [e, if_neg (by decide), of_f b hlt (by omega) 982 (by decide), Option.bind_some]
    have en : wrap64 (8 * ((b.length : Nat) : Int)) = ((8 * b.length : Nat) : Int) := by unfold wrap64; omega
    obtain ⟨ps, hps, hp3, hpl⟩ := places_f l1 (8 * b.length) (by omega) (by omega) 982 (by decide)
    have htl : ∀ x ∈ togs b ps, x < 256 := togs_lt ps b hlt
    have hlen2 : (togs b ps).length = b.length := togs_len ps b
    rw [en, hps, Option.bind_some, turn_f _ _ (by rw [I_len, ofN_len]; omega) (by rw [I_len]; omega) 982 (by decide), Option.bind_some, turns ps b hlt hpl, bytes_f _ htl (by omega) (by omega), Option.bind_some, if_pos rfl,
      sum_f _ htl (by omega), Option.bind_some, sum_f b hlt (by omega), Option.bind_some]
    congr 1
    by_cases hc : togs b ps = b
    · rw [hc, beq_self_eq_true, beq_self_eq_true, beq_self_eq_true]
    · have h1 : ((((4294967295 ^^^ St 4294967295 (togs b ps) : Nat) : Int)) == (((4294967295 ^^^ St 4294967295 b : Nat) : Int))) = false := by
        rw [beq_eq_false_iff_ne]
        intro h
        exact hc (st_eq b hl _ ps hp3 hpl (xor_left (Int.ofNat.inj h)))
      have h2 : ((strOfNums (I (togs b ps))).toList == (strOfNums (I b)).toList) = false := by
        rw [beq_eq_false_iff_ne]
        intro h
        exact hc (str_inj _ _ htl hlt h)
      rw [h1, h2, beq_self_eq_true]
end Go.Proofs.Ytlpinbeppedeeaa.Pure
