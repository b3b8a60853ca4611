/-
  DERIVED. GIVEN WITH THE SEED: THE CARDS: each row of YtehjjinlpilelaaGreatDoorRows.lean that lists a variable, with what it lists TIED to the program's text (the seventh form; the later family's looks); each row that meets fmt, with fmt's text TOLD by the authors' own Lean function (tested against real Go, not proved from fmt's source: count such statements apart). THE CARD IS WHAT COUNTS. Prove the row's statement (the work); the ties are given (YtehjjinlpilelaaGreatDoorTie.lean); close each card by the builder's one call (the guide's Derived/Test/ToyasCard.lean, 'card_holds'). Laid BY PROGRAM, IN A SANDBOX (cutbox-door.mjs). By AI agents, Wed Nov 11 2026. No macro, syntax, notation, axiom, sorry.
-/
import Derived.Test.YtehjjinlpilelaaGreatDoorRows
import GoSem.ClaimSeven
namespace Go.Proofs.YtehjjinlpilelaaGreatDoor
namespace Rows

/-- THE TIED CARD OF 'civiltimetop.TopCalendars'. -/
def topCalendarsCard : Claim7 := { stood := { row := topCalendarsRow, standIns := [], harness := (true, "be343d09c55c2ae17d1602c4feac97393ef374636535f9d34840ce19fd0b9b39"), looks := false }, kinds := [], alts := [], laidByText := true, laidKinds := [.data], laidTests := true, laidLooks := .later }
def TopCalendarsCardSaid : Prop := Claim7.holds Tryz.pinned (.plain (OpenSpec.ofChange topCalendarsSpec)) topCalendarsCard

/-- THE SECOND FORM's CARD OF 'civiltimetop.TopCalendars'. -/
def topCalendarsUptoCard : Claim7 := { stood := { row := topCalendarsUptoRow, standIns := [], harness := (true, "be343d09c55c2ae17d1602c4feac97393ef374636535f9d34840ce19fd0b9b39"), looks := false }, kinds := [], alts := [], laidByText := true, laidKinds := [.data], laidTests := true, laidLooks := .later }
def TopCalendarsUptoCardSaid : Prop := Claim7.holds Tryz.pinned (.plain (OpenSpec.upto topCalendarsSpec)) topCalendarsUptoCard
end Rows
end Go.Proofs.YtehjjinlpilelaaGreatDoor
