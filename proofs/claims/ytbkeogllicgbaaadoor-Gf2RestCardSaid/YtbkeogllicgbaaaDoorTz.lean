/- math/bits.TrailingZeros64, walked: of every number of 64 bits it tells how many noughts stand at its end. Condition: the library's table lies in its variable as its initialiser lays it. -/
import Derived.Test.YtbkeogllicgbaaaDoorProg
import Derived.Below
import Derived.Deep.Draws
import Derived.Deep.AppendLies
import Derived.Maps.AppendAt
import Derived.OwnWalk
import Derived.Laws.BytesArg
import Derived.Laws.MakeOwn
import Derived.Laws.OwnMore
import Derived.Deep.OwnRows
import Derived.Tactics
import Derived.Lib.ConvBytes
import Derived.Laws.Slices
import Derived.WalkKit
import Derived.KernelRfl
import Derived.RowKit3
import Derived.Deep.LoopGhost
import Derived.Deep.QuietTactic
import Derived.BigQuiet
import Derived.WideLaws
import Derived.Deep.DeepCutAuto
import Derived.Deep.CutBlock
import Derived.Deep.RegionHeld3
import Derived.Laws.Rows
import Derived.Lib.AppendStr
import Derived.ArgAppend
import Derived.Laws.IdiomCopy
import Derived.OrdersHeld
import Derived.Laws.BitsLemmas
import Derived.RowKit
import Derived.Test.YtbkeogllicgbaaaDoorWWords
import Derived.Test.YtbkeogllicgbaaaDoorWLast
import Derived.Test.YtbkeogllicgbaaaDoorWTab
import Derived.Test.YtbkeogllicgbaaaDoorWFour
import Derived.Test.YtbkeogllicgbaaaDoorWQPut
import Derived.Test.YtbkeogllicgbaaaDoorWApart
import Derived.Test.YtbkeogllicgbaaaDoorWArr
import Derived.Test.YtbkeogllicgbaaaDoorWZeros
import Derived.Test.YtbkeogllicgbaaaDoorWFoot
import Derived.Test.YtbkeogllicgbaaaDoorWKept
import Derived.Test.YtbkeogllicgbaaaDoorWShare
import Derived.Test.YtbkeogllicgbaaaDoorWN
import Derived.Test.YtbkeogllicgbaaaDoorWFootNe
import Derived.Test.YtbkeogllicgbaaaDoorWAt
import Derived.Test.YtbkeogllicgbaaaDoorWEqStruct
import Derived.Test.YtbkeogllicgbaaaDoorWRepsOne
import Derived.Test.YtbkeogllicgbaaaDoorWInv
import Derived.Test.YtbkeogllicgbaaaDoorWInvWords
import Derived.Test.YtbkeogllicgbaaaDoorWGuard
import Derived.Test.YtbkeogllicgbaaaDoorWNEv
import Derived.Test.YtbkeogllicgbaaaDoorWMore
import Derived.Lib.TrailingZeros
import Derived.Test.YtbkeogllicgbaaaDoorLen
import Derived.Laws.Bits64b
namespace Go.Proofs.YtbkeogllicgbaaaDoor.Q
open Go.RowKit Go.Proofs.YtbkeogllicgbaaaDoorW.PrintWords Go.Proofs.YtbkeogllicgbaaaDoorW.PrintLast Go.Proofs.YtbkeogllicgbaaaDoorW.PrintMore
theorem rr_len {α : Type} {R : α → List Value → Prop} {size : Nat} {w : World} {A : Option Addr} {n : Nat} {ps : List α} (h : ReadsRow R size w A ps.length ps) (e : ps.length = n) : ReadsRow R size w A n ps := e ▸ h
theorem own_string_n {P : Program} {w : World} {base n : Nat} {e' src dst e : TypeId} {v : Value} {xs : List Int} (hs : P.underlying src = some (.slice e)) (he : P.underlying e = some (.int .u8)) (hd : P.underlying dst = some .string)
    (h : w.ownsRow base e' 1 v n (nums .u8 xs)) : ∀ m : Nat, (convert src dst v).run P (w.drewN m) = .ok (.string (strOfNums xs)) (w.drewN m) :=
  fun m => own_string hs he hd (by simpa [World.ownsRow] using h)
/-- The library's table, in its variable. -/
def TabOk (w : World) : Prop := ∀ j, j < 64 → w.cell? ⟨0, j, none⟩ = some (.int .u8 (Lib.deBruijn64tab.getD j 0))
theorem TabOk.size {w : World} (h : TabOk w) : 0 < w.heap.size := World.block_lt_of_cell? _ _ (h 0 (by decide))
theorem TabA.below {w W : World} (hT : Aside0 (TabOk w)) (hB : Below w.heap.size w W) : Aside0 (TabOk W) :=
  ⟨fun j hj => (hB.cell (p := ⟨0, j, none⟩) hT.out.size).trans (hT.out j hj)⟩
theorem TabA.drewN {w : World} {n : Nat} (hT : Aside0 (TabOk w)) : Aside0 (TabOk (w.drewN n)) := ⟨fun j hj => by simpa using hT.out j hj⟩
theorem TabA.drew {w : World} (hT : Aside0 (TabOk w)) : Aside0 (TabOk w.drew) := ⟨fun j hj => by simpa using hT.out j hj⟩
theorem TabA.alloc {w : World} {o : Obj} (hT : Aside0 (TabOk w)) : Aside0 (TabOk (w.alloc o)) := TabA.below hT ((Below.refl _ _).alloc (Nat.le_refl _) _)
theorem u64_w (n : Int) : IntKind.u64.wrap n = n % 18446744073709551616 := by simp [IntKind.wrap, IntKind.bits, IntKind.signed]

def bits_TrailingZeros64.f (a0 : Int) : Option (Int) := if 0 ≤ a0 ∧ a0 < 18446744073709551616 then some (Lib.ctz 64 a0.toNat : Int) else none

set_option maxHeartbeats 1000000 in
theorem tz_core (x k idx : Nat) (w : World) (hx0 : ((x : Int) == 0) = false)
    (key : IntKind.u64.wrap (bits BinOp.and IntKind.u64 (x : Int) (IntKind.u64.wrap (-(x : Int))) * 285870213051353865) / 288230376151711744 = (idx : Int))
    (hi : idx < 64) (hk : k < 64) (hcell : w.cell? ⟨0, idx, none⟩ = some (.int .u8 k)) :
    Calls Tryd.prog 19 #[.int .u64 x] w fun e w' => e = .returned (.int .i64 k) ∧ w' = w := by
  go_enter Tryd.func19, Tryd.ntmps19
  go_wp2_with (simp only [key])
  go_ret
  exact ⟨rfl, rfl⟩
theorem tz_zero (w : World) : Calls Tryd.prog 19 #[.int .u64 0] w fun e w' => e = .returned (.int .i64 64) ∧ w' = w := by
  go_enter Tryd.func19, Tryd.ntmps19
  go_wp2
  go_ret
  exact ⟨rfl, rfl⟩
theorem tz_key (x a : Nat) (hx : x < 18446744073709551616) (hx0 : x ≠ 0) (hlow : x &&& (18446744073709551616 - x) = a) :
    IntKind.u64.wrap (bits BinOp.and IntKind.u64 (x : Int) (IntKind.u64.wrap (-(x : Int))) * 285870213051353865) / 288230376151711744 = ((a * 285870213051353865 % 18446744073709551616 / 288230376151711744 : Nat) : Int) := by
  have e1 : IntKind.u64.wrap (-(x : Int)) = ((18446744073709551616 - x : Nat) : Int) := by rw [u64_w]; omega
  rw [e1, bits_and_u64_nat x _ hx (by omega), hlow, u64_w]
  omega
theorem bits_TrailingZeros64.calls (a0 : Int) (r : Int) (w : World) (hT : Aside0 (TabOk w)) (h : bits_TrailingZeros64.f a0 = some r) :
    Calls Tryd.prog 19 #[.int .u64 a0] w fun e w' => e = .returned (.int .i64 r) ∧ Drawn0 w w' := by
  unfold bits_TrailingZeros64.f at h
  by_cases c : 0 ≤ a0 ∧ a0 < 18446744073709551616
  · rw [if_pos c] at h
    obtain rfl := Option.some.inj h
    obtain ⟨x, rfl⟩ := Int.eq_ofNat_of_zero_le c.1
    have hx : x < 18446744073709551616 := by omega
    rw [Int.toNat_natCast]
    by_cases hx0 : x = 0
    · subst hx0
      exact (tz_zero w).mono fun e w' ⟨h1, h2⟩ => ⟨h1, h2 ▸ Drawn0.refl _⟩
    · obtain ⟨hlow, hk⟩ := Lib.lowest_bit 64 x hx0 hx
      obtain ⟨hi, htab⟩ := Lib.deBruijn64_at _ hk
      have hcell := hT.out _ hi
      rw [htab] at hcell
      exact (tz_core x _ _ w (by simp; omega) (tz_key x _ hx hx0 hlow) hi hk hcell).mono fun e w' ⟨h1, h2⟩ => ⟨h1, h2 ▸ Drawn0.refl _⟩
  · rw [if_neg c] at h
    cases h

def bits_Len64.f (_k : Nat) (a0 : Int) : Option (Int) := if 0 ≤ a0 ∧ a0 < 18446744073709551616 then some (Lib.bitLen a0.toNat : Int) else none
theorem bits_Len64.mono : ∀ a0 k, LeO (bits_Len64.f k a0) (bits_Len64.f (k + 1) a0) := fun _ _ => LeO.refl _
theorem bits_Len64.calls (k : Nat) (a0 : Int) (r : Int) (w : World) (h : bits_Len64.f k a0 = some r) :
    Calls Tryd.prog 20 #[.int .u64 a0] w fun e w' => e = .returned (.int .i64 r) ∧ Drawn0 w w' := by
  unfold bits_Len64.f at h
  by_cases c : 0 ≤ a0 ∧ a0 < 18446744073709551616
  · rw [if_pos c] at h
    obtain rfl := Option.some.inj h
    exact (len64_core a0 w c.1 (by omega)).mono fun e w' ⟨h1, h2⟩ => ⟨h1, h2 ▸ Drawn0.refl _⟩
  · rw [if_neg c] at h
    cases h
end Go.Proofs.YtbkeogllicgbaaaDoor.Q
