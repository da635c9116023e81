/-
  DERIVED. GIVEN WITH THE SEED: THE CARDS: each row of YtbkeogllicgbaaaDoorRows.lean that lists a variable, with what it lists TIED to the program's text (the seventh form; the later family's looks); each row that meets fmt, with fmt's text TOLD by the authors' own Lean function (tested against real Go, not proved from fmt's source: count such statements apart). THE CARD IS WHAT COUNTS. Prove the row's statement (the work); the ties are given (YtbkeogllicgbaaaDoorTie.lean); close each card by the builder's one call (the guide's Derived/Test/ToyasCard.lean, 'card_holds'). Laid BY PROGRAM, IN A SANDBOX (cutbox-door.mjs). By AI agents, Wed Nov 11 2026. No macro, syntax, notation, axiom, sorry.
-/
import Derived.Test.YtbkeogllicgbaaaDoorRows
import GoSem.ClaimSeven
namespace Go.Proofs.YtbkeogllicgbaaaDoor
namespace Rows

/-- THE TIED CARD OF 'shuttlelaw03.Gf2Over'. -/
def gf2OverCard : Claim7 := { stood := { row := gf2OverRow, standIns := [], harness := (true, "09271cb4c122cbd280144ef6a7a2fe39073ac32e38e51ea2d5b49d5ef532e77a"), looks := false }, kinds := [], alts := [], laidByText := true, laidKinds := [.data], laidTests := true, laidLooks := .later }
def Gf2OverCardSaid : Prop := Claim7.holds Tryd.pinned (.plain (OpenSpec.ofChange gf2OverSpec)) gf2OverCard

/-- THE TIED CARD OF 'shuttlelaw03.Gf2Common'. -/
def gf2CommonCard : Claim7 := { stood := { row := gf2CommonRow, standIns := [], harness := (true, "09271cb4c122cbd280144ef6a7a2fe39073ac32e38e51ea2d5b49d5ef532e77a"), looks := false }, kinds := [], alts := [], laidByText := true, laidKinds := [.data], laidTests := true, laidLooks := .later }
def Gf2CommonCardSaid : Prop := Claim7.holds Tryd.pinned (.plain (OpenSpec.ofChange gf2CommonSpec)) gf2CommonCard

/-- THE TIED CARD OF 'shuttlelaw03.Gf2Times'. -/
def gf2TimesCard : Claim7 := { stood := { row := gf2TimesRow, standIns := [], harness := (true, "09271cb4c122cbd280144ef6a7a2fe39073ac32e38e51ea2d5b49d5ef532e77a"), looks := false }, kinds := [], alts := [], laidByText := true, laidKinds := [.data], laidTests := true, laidLooks := .later }
def Gf2TimesCardSaid : Prop := Claim7.holds Tryd.pinned (.plain (OpenSpec.ofChange gf2TimesSpec)) gf2TimesCard

/-- THE TIED CARD OF 'shuttlelaw03.Gf2Spreads'. -/
def gf2SpreadsCard : Claim7 := { stood := { row := gf2SpreadsRow, standIns := [], harness := (true, "09271cb4c122cbd280144ef6a7a2fe39073ac32e38e51ea2d5b49d5ef532e77a"), looks := false }, kinds := [], alts := [], laidByText := true, laidKinds := [.data], laidTests := true, laidLooks := .later }
def Gf2SpreadsCardSaid : Prop := Claim7.holds Tryd.pinned (.plain (OpenSpec.ofChange gf2SpreadsSpec)) gf2SpreadsCard

/-- THE TIED CARD OF 'shuttlelaw03.Gf2Rest'. -/
def gf2RestCard : Claim7 := { stood := { row := gf2RestRow, standIns := [], harness := (true, "09271cb4c122cbd280144ef6a7a2fe39073ac32e38e51ea2d5b49d5ef532e77a"), looks := false }, kinds := [], alts := [], laidByText := true, laidKinds := [.data], laidTests := true, laidLooks := .later }
def Gf2RestCardSaid : Prop := Claim7.holds Tryd.pinned (.plain (OpenSpec.ofChange gf2RestSpec)) gf2RestCard

/-- THE SECOND FORM's CARD OF 'shuttlelaw03.Gf2Over'. -/
def gf2OverUptoCard : Claim7 := { stood := { row := gf2OverUptoRow, standIns := [], harness := (true, "09271cb4c122cbd280144ef6a7a2fe39073ac32e38e51ea2d5b49d5ef532e77a"), looks := false }, kinds := [], alts := [], laidByText := true, laidKinds := [.data], laidTests := true, laidLooks := .later }
def Gf2OverUptoCardSaid : Prop := Claim7.holds Tryd.pinned (.plain (OpenSpec.upto gf2OverSpec)) gf2OverUptoCard

/-- THE SECOND FORM's CARD OF 'shuttlelaw03.Gf2Common'. -/
def gf2CommonUptoCard : Claim7 := { stood := { row := gf2CommonUptoRow, standIns := [], harness := (true, "09271cb4c122cbd280144ef6a7a2fe39073ac32e38e51ea2d5b49d5ef532e77a"), looks := false }, kinds := [], alts := [], laidByText := true, laidKinds := [.data], laidTests := true, laidLooks := .later }
def Gf2CommonUptoCardSaid : Prop := Claim7.holds Tryd.pinned (.plain (OpenSpec.upto gf2CommonSpec)) gf2CommonUptoCard

/-- THE SECOND FORM's CARD OF 'shuttlelaw03.Gf2Times'. -/
def gf2TimesUptoCard : Claim7 := { stood := { row := gf2TimesUptoRow, standIns := [], harness := (true, "09271cb4c122cbd280144ef6a7a2fe39073ac32e38e51ea2d5b49d5ef532e77a"), looks := false }, kinds := [], alts := [], laidByText := true, laidKinds := [.data], laidTests := true, laidLooks := .later }
def Gf2TimesUptoCardSaid : Prop := Claim7.holds Tryd.pinned (.plain (OpenSpec.upto gf2TimesSpec)) gf2TimesUptoCard

/-- THE SECOND FORM's CARD OF 'shuttlelaw03.Gf2Spreads'. -/
def gf2SpreadsUptoCard : Claim7 := { stood := { row := gf2SpreadsUptoRow, standIns := [], harness := (true, "09271cb4c122cbd280144ef6a7a2fe39073ac32e38e51ea2d5b49d5ef532e77a"), looks := false }, kinds := [], alts := [], laidByText := true, laidKinds := [.data], laidTests := true, laidLooks := .later }
def Gf2SpreadsUptoCardSaid : Prop := Claim7.holds Tryd.pinned (.plain (OpenSpec.upto gf2SpreadsSpec)) gf2SpreadsUptoCard

/-- THE SECOND FORM's CARD OF 'shuttlelaw03.Gf2Rest'. -/
def gf2RestUptoCard : Claim7 := { stood := { row := gf2RestUptoRow, standIns := [], harness := (true, "09271cb4c122cbd280144ef6a7a2fe39073ac32e38e51ea2d5b49d5ef532e77a"), looks := false }, kinds := [], alts := [], laidByText := true, laidKinds := [.data], laidTests := true, laidLooks := .later }
def Gf2RestUptoCardSaid : Prop := Claim7.holds Tryd.pinned (.plain (OpenSpec.upto gf2RestSpec)) gf2RestUptoCard
end Rows
end Go.Proofs.YtbkeogllicgbaaaDoor
