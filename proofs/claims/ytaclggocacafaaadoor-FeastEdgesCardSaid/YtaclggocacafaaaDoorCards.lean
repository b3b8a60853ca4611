/-
  DERIVED. GIVEN WITH THE SEED: THE CARDS: each row of YtaclggocacafaaaDoorRows.lean that lists a variable, with what it lists TIED to the program's text (the seventh form; the later family's looks); each row that meets fmt, with fmt's text TOLD by the authors' own Lean function (tested against real Go, not proved from fmt's source: count such statements apart). THE CARD IS WHAT COUNTS. Prove the row's statement (the work); the ties are given (YtaclggocacafaaaDoorTie.lean); close each card by the builder's one call (the guide's Derived/Test/ToyasCard.lean, 'card_holds'). Laid BY PROGRAM, IN A SANDBOX (cutbox-door.mjs). By AI agents, Wed Nov 11 2026. No macro, syntax, notation, axiom, sorry.
-/
import Derived.Test.YtaclggocacafaaaDoorRows
import GoSem.ClaimSeven
namespace Go.Proofs.YtaclggocacafaaaDoor
namespace Rows

/-- THE TIED CARD OF 'civiltimelaw08.FeastNumbers'. -/
def feastNumbersCard : Claim7 := { stood := { row := feastNumbersRow, standIns := [], harness := (true, "fdc65ef5412964c36036250f14d155f022304c1adabf5c593c812176c3f45f52"), looks := false }, kinds := [], alts := [], laidByText := true, laidKinds := [.data], laidTests := true, laidLooks := .later }
def FeastNumbersCardSaid : Prop := Claim7.holds Tryd.pinned (.plain (OpenSpec.ofChange feastNumbersSpec)) feastNumbersCard

/-- THE TIED CARD OF 'civiltimelaw08.FeastDays'. -/
def feastDaysCard : Claim7 := { stood := { row := feastDaysRow, standIns := [], harness := (true, "fdc65ef5412964c36036250f14d155f022304c1adabf5c593c812176c3f45f52"), looks := false }, kinds := [], alts := [], laidByText := true, laidKinds := [.data], laidTests := true, laidLooks := .later }
def FeastDaysCardSaid : Prop := Claim7.holds Tryd.pinned (.plain (OpenSpec.ofChange feastDaysSpec)) feastDaysCard

/-- THE TIED CARD OF 'civiltimelaw08.FeastSundays'. -/
def feastSundaysCard : Claim7 := { stood := { row := feastSundaysRow, standIns := [], harness := (true, "fdc65ef5412964c36036250f14d155f022304c1adabf5c593c812176c3f45f52"), looks := false }, kinds := [], alts := [], laidByText := true, laidKinds := [.data], laidTests := true, laidLooks := .later }
def FeastSundaysCardSaid : Prop := Claim7.holds Tryd.pinned (.plain (OpenSpec.ofChange feastSundaysSpec)) feastSundaysCard

/-- THE TIED CARD OF 'civiltimelaw08.FeastJulian'. -/
def feastJulianCard : Claim7 := { stood := { row := feastJulianRow, standIns := [], harness := (true, "fdc65ef5412964c36036250f14d155f022304c1adabf5c593c812176c3f45f52"), looks := false }, kinds := [], alts := [], laidByText := true, laidKinds := [.data], laidTests := true, laidLooks := .later }
def FeastJulianCardSaid : Prop := Claim7.holds Tryd.pinned (.plain (OpenSpec.ofChange feastJulianSpec)) feastJulianCard

/-- THE TIED CARD OF 'civiltimelaw08.FeastFinds'. -/
def feastFindsCard : Claim7 := { stood := { row := feastFindsRow, standIns := [], harness := (true, "fdc65ef5412964c36036250f14d155f022304c1adabf5c593c812176c3f45f52"), looks := false }, kinds := [], alts := [], laidByText := true, laidKinds := [.data], laidTests := true, laidLooks := .later }
def FeastFindsCardSaid : Prop := Claim7.holds Tryd.pinned (.plain (OpenSpec.ofChange feastFindsSpec)) feastFindsCard

/-- THE TIED CARD OF 'civiltimelaw08.FeastMoves'. -/
def feastMovesCard : Claim7 := { stood := { row := feastMovesRow, standIns := [], harness := (true, "fdc65ef5412964c36036250f14d155f022304c1adabf5c593c812176c3f45f52"), looks := false }, kinds := [], alts := [], laidByText := true, laidKinds := [.data], laidTests := true, laidLooks := .later }
def FeastMovesCardSaid : Prop := Claim7.holds Tryd.pinned (.plain (OpenSpec.ofChange feastMovesSpec)) feastMovesCard

/-- THE TIED CARD OF 'civiltimelaw08.FeastYears'. -/
def feastYearsCard : Claim7 := { stood := { row := feastYearsRow, standIns := [], harness := (true, "fdc65ef5412964c36036250f14d155f022304c1adabf5c593c812176c3f45f52"), looks := false }, kinds := [], alts := [], laidByText := true, laidKinds := [.data], laidTests := true, laidLooks := .later }
def FeastYearsCardSaid : Prop := Claim7.holds Tryd.pinned (.plain (OpenSpec.ofChange feastYearsSpec)) feastYearsCard

/-- THE TIED CARD OF 'civiltimelaw08.FeastEdges'. -/
def feastEdgesCard : Claim7 := { stood := { row := feastEdgesRow, standIns := [], harness := (true, "fdc65ef5412964c36036250f14d155f022304c1adabf5c593c812176c3f45f52"), looks := false }, kinds := [], alts := [], laidByText := true, laidKinds := [.data], laidTests := true, laidLooks := .later }
def FeastEdgesCardSaid : Prop := Claim7.holds Tryd.pinned (.plain (OpenSpec.ofChange feastEdgesSpec)) feastEdgesCard

/-- THE SECOND FORM's CARD OF 'civiltimelaw08.FeastNumbers'. -/
def feastNumbersUptoCard : Claim7 := { stood := { row := feastNumbersUptoRow, standIns := [], harness := (true, "fdc65ef5412964c36036250f14d155f022304c1adabf5c593c812176c3f45f52"), looks := false }, kinds := [], alts := [], laidByText := true, laidKinds := [.data], laidTests := true, laidLooks := .later }
def FeastNumbersUptoCardSaid : Prop := Claim7.holds Tryd.pinned (.plain (OpenSpec.upto feastNumbersSpec)) feastNumbersUptoCard

/-- THE SECOND FORM's CARD OF 'civiltimelaw08.FeastDays'. -/
def feastDaysUptoCard : Claim7 := { stood := { row := feastDaysUptoRow, standIns := [], harness := (true, "fdc65ef5412964c36036250f14d155f022304c1adabf5c593c812176c3f45f52"), looks := false }, kinds := [], alts := [], laidByText := true, laidKinds := [.data], laidTests := true, laidLooks := .later }
def FeastDaysUptoCardSaid : Prop := Claim7.holds Tryd.pinned (.plain (OpenSpec.upto feastDaysSpec)) feastDaysUptoCard

/-- THE SECOND FORM's CARD OF 'civiltimelaw08.FeastSundays'. -/
def feastSundaysUptoCard : Claim7 := { stood := { row := feastSundaysUptoRow, standIns := [], harness := (true, "fdc65ef5412964c36036250f14d155f022304c1adabf5c593c812176c3f45f52"), looks := false }, kinds := [], alts := [], laidByText := true, laidKinds := [.data], laidTests := true, laidLooks := .later }
def FeastSundaysUptoCardSaid : Prop := Claim7.holds Tryd.pinned (.plain (OpenSpec.upto feastSundaysSpec)) feastSundaysUptoCard

/-- THE SECOND FORM's CARD OF 'civiltimelaw08.FeastJulian'. -/
def feastJulianUptoCard : Claim7 := { stood := { row := feastJulianUptoRow, standIns := [], harness := (true, "fdc65ef5412964c36036250f14d155f022304c1adabf5c593c812176c3f45f52"), looks := false }, kinds := [], alts := [], laidByText := true, laidKinds := [.data], laidTests := true, laidLooks := .later }
def FeastJulianUptoCardSaid : Prop := Claim7.holds Tryd.pinned (.plain (OpenSpec.upto feastJulianSpec)) feastJulianUptoCard

/-- THE SECOND FORM's CARD OF 'civiltimelaw08.FeastFinds'. -/
def feastFindsUptoCard : Claim7 := { stood := { row := feastFindsUptoRow, standIns := [], harness := (true, "fdc65ef5412964c36036250f14d155f022304c1adabf5c593c812176c3f45f52"), looks := false }, kinds := [], alts := [], laidByText := true, laidKinds := [.data], laidTests := true, laidLooks := .later }
def FeastFindsUptoCardSaid : Prop := Claim7.holds Tryd.pinned (.plain (OpenSpec.upto feastFindsSpec)) feastFindsUptoCard

/-- THE SECOND FORM's CARD OF 'civiltimelaw08.FeastMoves'. -/
def feastMovesUptoCard : Claim7 := { stood := { row := feastMovesUptoRow, standIns := [], harness := (true, "fdc65ef5412964c36036250f14d155f022304c1adabf5c593c812176c3f45f52"), looks := false }, kinds := [], alts := [], laidByText := true, laidKinds := [.data], laidTests := true, laidLooks := .later }
def FeastMovesUptoCardSaid : Prop := Claim7.holds Tryd.pinned (.plain (OpenSpec.upto feastMovesSpec)) feastMovesUptoCard

/-- THE SECOND FORM's CARD OF 'civiltimelaw08.FeastYears'. -/
def feastYearsUptoCard : Claim7 := { stood := { row := feastYearsUptoRow, standIns := [], harness := (true, "fdc65ef5412964c36036250f14d155f022304c1adabf5c593c812176c3f45f52"), looks := false }, kinds := [], alts := [], laidByText := true, laidKinds := [.data], laidTests := true, laidLooks := .later }
def FeastYearsUptoCardSaid : Prop := Claim7.holds Tryd.pinned (.plain (OpenSpec.upto feastYearsSpec)) feastYearsUptoCard

/-- THE SECOND FORM's CARD OF 'civiltimelaw08.FeastEdges'. -/
def feastEdgesUptoCard : Claim7 := { stood := { row := feastEdgesUptoRow, standIns := [], harness := (true, "fdc65ef5412964c36036250f14d155f022304c1adabf5c593c812176c3f45f52"), looks := false }, kinds := [], alts := [], laidByText := true, laidKinds := [.data], laidTests := true, laidLooks := .later }
def FeastEdgesUptoCardSaid : Prop := Claim7.holds Tryd.pinned (.plain (OpenSpec.upto feastEdgesSpec)) feastEdgesUptoCard
end Rows
end Go.Proofs.YtaclggocacafaaaDoor
