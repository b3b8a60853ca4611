/-
  DERIVED. GIVEN WITH THE SEED: THE CARDS: each row of YtiacppcnballeaaDoorRows.lean that lists a variable, with what it lists TIED to the program's text (the seventh form; the later family's looks); each row that meets fmt, with fmt's text TOLD by the authors' own Lean function (tested against real Go, not proved from fmt's source: count such statements apart). THE CARD IS WHAT COUNTS. Prove the row's statement (the work); the ties are given (YtiacppcnballeaaDoorTie.lean); close each card by the builder's one call (the guide's Derived/Test/ToyasCard.lean, 'card_holds'). Laid BY PROGRAM, IN A SANDBOX (cutbox-door.mjs). By AI agents, Wed Nov 11 2026. No macro, syntax, notation, axiom, sorry.
-/
import Derived.Test.YtiacppcnballeaaDoorRows
import GoSem.ClaimSeven
namespace Go.Proofs.YtiacppcnballeaaDoor
namespace Rows

/-- THE TIED CARD OF 'civiltimelaw05.JulianDays'. -/
def julianDaysCard : Claim7 := { stood := { row := julianDaysRow, standIns := [], harness := (true, "59a7e0fb7945964d8a24b2c3db351ef67f75079c02d16c168b43ff13bf95a116"), looks := false }, kinds := [], alts := [], laidByText := true, laidKinds := [.data], laidTests := true, laidLooks := .later }
def JulianDaysCardSaid : Prop := Claim7.holds Tryd.pinned (.plain (OpenSpec.ofChange julianDaysSpec)) julianDaysCard

/-- THE TIED CARD OF 'civiltimelaw05.JulianCycles'. -/
def julianCyclesCard : Claim7 := { stood := { row := julianCyclesRow, standIns := [], harness := (true, "59a7e0fb7945964d8a24b2c3db351ef67f75079c02d16c168b43ff13bf95a116"), looks := false }, kinds := [], alts := [], laidByText := true, laidKinds := [.data], laidTests := true, laidLooks := .later }
def JulianCyclesCardSaid : Prop := Claim7.holds Tryd.pinned (.plain (OpenSpec.ofChange julianCyclesSpec)) julianCyclesCard

/-- THE TIED CARD OF 'civiltimelaw05.JulianWeekdays'. -/
def julianWeekdaysCard : Claim7 := { stood := { row := julianWeekdaysRow, standIns := [], harness := (true, "59a7e0fb7945964d8a24b2c3db351ef67f75079c02d16c168b43ff13bf95a116"), looks := false }, kinds := [], alts := [], laidByText := true, laidKinds := [.data], laidTests := true, laidLooks := .later }
def JulianWeekdaysCardSaid : Prop := Claim7.holds Tryd.pinned (.plain (OpenSpec.ofChange julianWeekdaysSpec)) julianWeekdaysCard

/-- THE TIED CARD OF 'civiltimelaw05.JulianDates'. -/
def julianDatesCard : Claim7 := { stood := { row := julianDatesRow, standIns := [], harness := (true, "59a7e0fb7945964d8a24b2c3db351ef67f75079c02d16c168b43ff13bf95a116"), looks := false }, kinds := [], alts := [], laidByText := true, laidKinds := [.data], laidTests := true, laidLooks := .later }
def JulianDatesCardSaid : Prop := Claim7.holds Tryd.pinned (.plain (OpenSpec.ofChange julianDatesSpec)) julianDatesCard

/-- THE TIED CARD OF 'civiltimelaw05.JulianBack'. -/
def julianBackCard : Claim7 := { stood := { row := julianBackRow, standIns := [], harness := (true, "59a7e0fb7945964d8a24b2c3db351ef67f75079c02d16c168b43ff13bf95a116"), looks := false }, kinds := [], alts := [], laidByText := true, laidKinds := [.data], laidTests := true, laidLooks := .later }
def JulianBackCardSaid : Prop := Claim7.holds Tryd.pinned (.plain (OpenSpec.ofChange julianBackSpec)) julianBackCard

/-- THE TIED CARD OF 'civiltimelaw05.JulianSteps'. -/
def julianStepsCard : Claim7 := { stood := { row := julianStepsRow, standIns := [], harness := (true, "59a7e0fb7945964d8a24b2c3db351ef67f75079c02d16c168b43ff13bf95a116"), looks := false }, kinds := [], alts := [], laidByText := true, laidKinds := [.data], laidTests := true, laidLooks := .later }
def JulianStepsCardSaid : Prop := Claim7.holds Tryd.pinned (.plain (OpenSpec.ofChange julianStepsSpec)) julianStepsCard

/-- THE TIED CARD OF 'civiltimelaw05.JulianOffsets'. -/
def julianOffsetsCard : Claim7 := { stood := { row := julianOffsetsRow, standIns := [], harness := (true, "59a7e0fb7945964d8a24b2c3db351ef67f75079c02d16c168b43ff13bf95a116"), looks := false }, kinds := [], alts := [], laidByText := true, laidKinds := [.data], laidTests := true, laidLooks := .later }
def JulianOffsetsCardSaid : Prop := Claim7.holds Tryd.pinned (.plain (OpenSpec.ofChange julianOffsetsSpec)) julianOffsetsCard

/-- THE TIED CARD OF 'civiltimelaw05.JulianMixed'. -/
def julianMixedCard : Claim7 := { stood := { row := julianMixedRow, standIns := [], harness := (true, "59a7e0fb7945964d8a24b2c3db351ef67f75079c02d16c168b43ff13bf95a116"), looks := false }, kinds := [], alts := [], laidByText := true, laidKinds := [.data], laidTests := true, laidLooks := .later }
def JulianMixedCardSaid : Prop := Claim7.holds Tryd.pinned (.plain (OpenSpec.ofChange julianMixedSpec)) julianMixedCard

/-- THE TIED CARD OF 'civiltimelaw05.JulianFinds'. -/
def julianFindsCard : Claim7 := { stood := { row := julianFindsRow, standIns := [], harness := (true, "59a7e0fb7945964d8a24b2c3db351ef67f75079c02d16c168b43ff13bf95a116"), looks := false }, kinds := [], alts := [], laidByText := true, laidKinds := [.data], laidTests := true, laidLooks := .later }
def JulianFindsCardSaid : Prop := Claim7.holds Tryd.pinned (.plain (OpenSpec.ofChange julianFindsSpec)) julianFindsCard

/-- THE SECOND FORM's CARD OF 'civiltimelaw05.JulianDays'. -/
def julianDaysUptoCard : Claim7 := { stood := { row := julianDaysUptoRow, standIns := [], harness := (true, "59a7e0fb7945964d8a24b2c3db351ef67f75079c02d16c168b43ff13bf95a116"), looks := false }, kinds := [], alts := [], laidByText := true, laidKinds := [.data], laidTests := true, laidLooks := .later }
def JulianDaysUptoCardSaid : Prop := Claim7.holds Tryd.pinned (.plain (OpenSpec.upto julianDaysSpec)) julianDaysUptoCard

/-- THE SECOND FORM's CARD OF 'civiltimelaw05.JulianCycles'. -/
def julianCyclesUptoCard : Claim7 := { stood := { row := julianCyclesUptoRow, standIns := [], harness := (true, "59a7e0fb7945964d8a24b2c3db351ef67f75079c02d16c168b43ff13bf95a116"), looks := false }, kinds := [], alts := [], laidByText := true, laidKinds := [.data], laidTests := true, laidLooks := .later }
def JulianCyclesUptoCardSaid : Prop := Claim7.holds Tryd.pinned (.plain (OpenSpec.upto julianCyclesSpec)) julianCyclesUptoCard

/-- THE SECOND FORM's CARD OF 'civiltimelaw05.JulianWeekdays'. -/
def julianWeekdaysUptoCard : Claim7 := { stood := { row := julianWeekdaysUptoRow, standIns := [], harness := (true, "59a7e0fb7945964d8a24b2c3db351ef67f75079c02d16c168b43ff13bf95a116"), looks := false }, kinds := [], alts := [], laidByText := true, laidKinds := [.data], laidTests := true, laidLooks := .later }
def JulianWeekdaysUptoCardSaid : Prop := Claim7.holds Tryd.pinned (.plain (OpenSpec.upto julianWeekdaysSpec)) julianWeekdaysUptoCard

/-- THE SECOND FORM's CARD OF 'civiltimelaw05.JulianDates'. -/
def julianDatesUptoCard : Claim7 := { stood := { row := julianDatesUptoRow, standIns := [], harness := (true, "59a7e0fb7945964d8a24b2c3db351ef67f75079c02d16c168b43ff13bf95a116"), looks := false }, kinds := [], alts := [], laidByText := true, laidKinds := [.data], laidTests := true, laidLooks := .later }
def JulianDatesUptoCardSaid : Prop := Claim7.holds Tryd.pinned (.plain (OpenSpec.upto julianDatesSpec)) julianDatesUptoCard

/-- THE SECOND FORM's CARD OF 'civiltimelaw05.JulianBack'. -/
def julianBackUptoCard : Claim7 := { stood := { row := julianBackUptoRow, standIns := [], harness := (true, "59a7e0fb7945964d8a24b2c3db351ef67f75079c02d16c168b43ff13bf95a116"), looks := false }, kinds := [], alts := [], laidByText := true, laidKinds := [.data], laidTests := true, laidLooks := .later }
def JulianBackUptoCardSaid : Prop := Claim7.holds Tryd.pinned (.plain (OpenSpec.upto julianBackSpec)) julianBackUptoCard

/-- THE SECOND FORM's CARD OF 'civiltimelaw05.JulianSteps'. -/
def julianStepsUptoCard : Claim7 := { stood := { row := julianStepsUptoRow, standIns := [], harness := (true, "59a7e0fb7945964d8a24b2c3db351ef67f75079c02d16c168b43ff13bf95a116"), looks := false }, kinds := [], alts := [], laidByText := true, laidKinds := [.data], laidTests := true, laidLooks := .later }
def JulianStepsUptoCardSaid : Prop := Claim7.holds Tryd.pinned (.plain (OpenSpec.upto julianStepsSpec)) julianStepsUptoCard

/-- THE SECOND FORM's CARD OF 'civiltimelaw05.JulianOffsets'. -/
def julianOffsetsUptoCard : Claim7 := { stood := { row := julianOffsetsUptoRow, standIns := [], harness := (true, "59a7e0fb7945964d8a24b2c3db351ef67f75079c02d16c168b43ff13bf95a116"), looks := false }, kinds := [], alts := [], laidByText := true, laidKinds := [.data], laidTests := true, laidLooks := .later }
def JulianOffsetsUptoCardSaid : Prop := Claim7.holds Tryd.pinned (.plain (OpenSpec.upto julianOffsetsSpec)) julianOffsetsUptoCard

/-- THE SECOND FORM's CARD OF 'civiltimelaw05.JulianMixed'. -/
def julianMixedUptoCard : Claim7 := { stood := { row := julianMixedUptoRow, standIns := [], harness := (true, "59a7e0fb7945964d8a24b2c3db351ef67f75079c02d16c168b43ff13bf95a116"), looks := false }, kinds := [], alts := [], laidByText := true, laidKinds := [.data], laidTests := true, laidLooks := .later }
def JulianMixedUptoCardSaid : Prop := Claim7.holds Tryd.pinned (.plain (OpenSpec.upto julianMixedSpec)) julianMixedUptoCard

/-- THE SECOND FORM's CARD OF 'civiltimelaw05.JulianFinds'. -/
def julianFindsUptoCard : Claim7 := { stood := { row := julianFindsUptoRow, standIns := [], harness := (true, "59a7e0fb7945964d8a24b2c3db351ef67f75079c02d16c168b43ff13bf95a116"), looks := false }, kinds := [], alts := [], laidByText := true, laidKinds := [.data], laidTests := true, laidLooks := .later }
def JulianFindsUptoCardSaid : Prop := Claim7.holds Tryd.pinned (.plain (OpenSpec.upto julianFindsSpec)) julianFindsUptoCard
end Rows
end Go.Proofs.YtiacppcnballeaaDoor
