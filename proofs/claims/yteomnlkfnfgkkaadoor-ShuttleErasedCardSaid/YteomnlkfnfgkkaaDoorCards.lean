/-
  DERIVED. GIVEN WITH THE SEED: THE CARDS: each row of YteomnlkfnfgkkaaDoorRows.lean that lists a variable, with what it lists TIED to the program's text (the seventh form; the later family's looks); each row that meets fmt, with fmt's text TOLD by the authors' own Lean function (tested against real Go, not proved from fmt's source: count such statements apart). THE CARD IS WHAT COUNTS. Prove the row's statement (the work); the ties are given (YteomnlkfnfgkkaaDoorTie.lean); close each card by the builder's one call (the guide's Derived/Test/ToyasCard.lean, 'card_holds'). Laid BY PROGRAM, IN A SANDBOX (cutbox-door.mjs). By AI agents, Wed Nov 11 2026. No macro, syntax, notation, axiom, sorry.
-/
import Derived.Test.YteomnlkfnfgkkaaDoorRows
import GoSem.ClaimSeven
namespace Go.Proofs.YteomnlkfnfgkkaaDoor
namespace Rows

/-- THE TIED CARD OF 'shuttletop.ShuttleErased'. -/
def shuttleErasedCard : Claim7 := { stood := { row := shuttleErasedRow, standIns := [], harness := (true, "8563fc380fdb62e94f3d63beef8d32e7252ecbf115e1180c0465da6abc22f0cf"), looks := false }, kinds := [], alts := [], laidByText := true, laidKinds := [.data], laidTests := true, laidLooks := .later }
def ShuttleErasedCardSaid : Prop := Claim7.holds Tryd.pinned (.plain (OpenSpec.ofChange shuttleErasedSpec)) shuttleErasedCard

/-- THE SECOND FORM's CARD OF 'shuttletop.ShuttleErased'. -/
def shuttleErasedUptoCard : Claim7 := { stood := { row := shuttleErasedUptoRow, standIns := [], harness := (true, "8563fc380fdb62e94f3d63beef8d32e7252ecbf115e1180c0465da6abc22f0cf"), looks := false }, kinds := [], alts := [], laidByText := true, laidKinds := [.data], laidTests := true, laidLooks := .later }
def ShuttleErasedUptoCardSaid : Prop := Claim7.holds Tryd.pinned (.plain (OpenSpec.upto shuttleErasedSpec)) shuttleErasedUptoCard
end Rows
end Go.Proofs.YteomnlkfnfgkkaaDoor
