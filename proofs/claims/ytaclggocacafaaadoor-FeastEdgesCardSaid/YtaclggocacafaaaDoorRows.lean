/-
  NARROWER THAN 'FOR EVERY INPUT', by the rows' own cells (each row's printed sentence says how): FeastNumbers: laid · FeastDays: laid · FeastSundays: laid · FeastJulian: laid · FeastFinds: laid · FeastMoves: laid · FeastYears: laid · FeastEdges: laid.
  DERIVED. THE GIVEN ROWS OF THIS SEAT. 8 by the template 'for every input the law returns true; each argument reads behind the call as it read before'; 0 by the template 'total and deterministic' (their statements: YtaclggocacafaaaDoorTotals.lean).
  GIVEN WITH THE SEED: the statements are not yours to turn. If you find one false, say at which input.
  Laid BY PROGRAM, IN A SANDBOX (cutbox-rows.mjs): the forced cells as the released guide's own fill.sh prints them over the translation 599846ad18c02b78… (all of the seat's roots in one cut). By AI agents, Wed Nov 11 2026. No macro, syntax, notation, axiom, sorry.
-/
import Derived.Test.YtaclggocacafaaaDoorChecked
import GoSem.Claim
import GoSem.ClaimJoined
import GoSem.ClaimMapViews
import Derived.JoinedTies
import Derived.KernelRfl
namespace Go.Proofs.YtaclggocacafaaaDoor
/- THE CELL 'sum', in the pinned program and in every row, IS THE sha256 OF THE DUMP (.gsa) THAT YtaclggocacafaaaDoorProg.lean LOADS. Nothing in Lean hashes anything: it is a label: what it is worth is what the hold of that sum in a sandbox is worth. -/
noncomputable def Tryd.pinned : Pinned := { name := "ytaclggocacafaaadoor", sum := "599846ad18c02b788e8db21879a746ea810959ea325a2423479514787fbd06a0", checked := Tryd.checked }
namespace Rows
def none {H : Type} : Left H := { results := [], args := [] }

/- WHAT THE LISTED PACKAGE-LEVEL VARIABLES READ AS WHEN THE CALL BEGINS. Each datum BY PROGRAM (the guide's laid-datum.mjs) off the statement by which the dump's own 'gosem.cut.vars' lays the variable. In a bare row this is a premise. The card (YtaclggocacafaaaDoorCards.lean) ties it to the program's text. -/
def laid_civiltime_julian_lengths {H : Type} : DataW H := .agg [.lit (.int .i64 0), .lit (.int .i64 31), .lit (.int .i64 28), .lit (.int .i64 31), .lit (.int .i64 30), .lit (.int .i64 31), .lit (.int .i64 30), .lit (.int .i64 31), .lit (.int .i64 31), .lit (.int .i64 30), .lit (.int .i64 31), .lit (.int .i64 30), .lit (.int .i64 31)]

/-- 'civiltimelaw08.FeastNumbers': WHATEVER THE INPUT: true; the input reads as it did. -/
def feastNumbersSpec : ChangeSpec := { name := "feastNumbers", fn := fun _ => fun
  | [d] => { results := [.lit (.bool true)], args := [d] }
  | _ => none }
def feastNumbersRow : OpenClaim := { program := "ytaclggocacafaaadoor", sum := "599846ad18c02b788e8db21879a746ea810959ea325a2423479514787fbd06a0", func := "civiltime/civiltimelaw08.FeastNumbers", spec := "feastNumbers", named := ["civiltime/julian.lengths"], apart := false, laid := [("civiltime/julian.lengths", laid_civiltime_julian_lengths)] }
def FeastNumbersSaid : Prop := feastNumbersRow.holds Tryd.pinned (OpenSpec.ofChange feastNumbersSpec)

/-- ITS FALSE NEIGHBOUR: 'it returns false'. Refute it at one input. -/
def feastNumbersWrong : ChangeSpec := { name := "feastNumbers", fn := fun _ => fun
  | [d] => { results := [.lit (.bool false)], args := [d] }
  | _ => none }
def FeastNumbersWrongFalsely : Prop := feastNumbersRow.holds Tryd.pinned (OpenSpec.ofChange feastNumbersWrong)

/-- 'civiltimelaw08.FeastDays': WHATEVER THE INPUT: true; the input reads as it did. -/
def feastDaysSpec : ChangeSpec := { name := "feastDays", fn := fun _ => fun
  | [d] => { results := [.lit (.bool true)], args := [d] }
  | _ => none }
def feastDaysRow : OpenClaim := { program := "ytaclggocacafaaadoor", sum := "599846ad18c02b788e8db21879a746ea810959ea325a2423479514787fbd06a0", func := "civiltime/civiltimelaw08.FeastDays", spec := "feastDays", named := ["civiltime/julian.lengths"], apart := false, laid := [("civiltime/julian.lengths", laid_civiltime_julian_lengths)] }
def FeastDaysSaid : Prop := feastDaysRow.holds Tryd.pinned (OpenSpec.ofChange feastDaysSpec)

/-- ITS FALSE NEIGHBOUR: 'it returns false'. Refute it at one input. -/
def feastDaysWrong : ChangeSpec := { name := "feastDays", fn := fun _ => fun
  | [d] => { results := [.lit (.bool false)], args := [d] }
  | _ => none }
def FeastDaysWrongFalsely : Prop := feastDaysRow.holds Tryd.pinned (OpenSpec.ofChange feastDaysWrong)

/-- 'civiltimelaw08.FeastSundays': WHATEVER THE INPUT: true; the input reads as it did. -/
def feastSundaysSpec : ChangeSpec := { name := "feastSundays", fn := fun _ => fun
  | [d] => { results := [.lit (.bool true)], args := [d] }
  | _ => none }
def feastSundaysRow : OpenClaim := { program := "ytaclggocacafaaadoor", sum := "599846ad18c02b788e8db21879a746ea810959ea325a2423479514787fbd06a0", func := "civiltime/civiltimelaw08.FeastSundays", spec := "feastSundays", named := ["civiltime/julian.lengths"], apart := false, laid := [("civiltime/julian.lengths", laid_civiltime_julian_lengths)] }
def FeastSundaysSaid : Prop := feastSundaysRow.holds Tryd.pinned (OpenSpec.ofChange feastSundaysSpec)

/-- ITS FALSE NEIGHBOUR: 'it returns false'. Refute it at one input. -/
def feastSundaysWrong : ChangeSpec := { name := "feastSundays", fn := fun _ => fun
  | [d] => { results := [.lit (.bool false)], args := [d] }
  | _ => none }
def FeastSundaysWrongFalsely : Prop := feastSundaysRow.holds Tryd.pinned (OpenSpec.ofChange feastSundaysWrong)

/-- 'civiltimelaw08.FeastJulian': WHATEVER THE INPUT: true; the input reads as it did. -/
def feastJulianSpec : ChangeSpec := { name := "feastJulian", fn := fun _ => fun
  | [d] => { results := [.lit (.bool true)], args := [d] }
  | _ => none }
def feastJulianRow : OpenClaim := { program := "ytaclggocacafaaadoor", sum := "599846ad18c02b788e8db21879a746ea810959ea325a2423479514787fbd06a0", func := "civiltime/civiltimelaw08.FeastJulian", spec := "feastJulian", named := ["civiltime/julian.lengths"], apart := false, laid := [("civiltime/julian.lengths", laid_civiltime_julian_lengths)] }
def FeastJulianSaid : Prop := feastJulianRow.holds Tryd.pinned (OpenSpec.ofChange feastJulianSpec)

/-- ITS FALSE NEIGHBOUR: 'it returns false'. Refute it at one input. -/
def feastJulianWrong : ChangeSpec := { name := "feastJulian", fn := fun _ => fun
  | [d] => { results := [.lit (.bool false)], args := [d] }
  | _ => none }
def FeastJulianWrongFalsely : Prop := feastJulianRow.holds Tryd.pinned (OpenSpec.ofChange feastJulianWrong)

/-- 'civiltimelaw08.FeastFinds': WHATEVER THE INPUT: true; the input reads as it did. -/
def feastFindsSpec : ChangeSpec := { name := "feastFinds", fn := fun _ => fun
  | [d] => { results := [.lit (.bool true)], args := [d] }
  | _ => none }
def feastFindsRow : OpenClaim := { program := "ytaclggocacafaaadoor", sum := "599846ad18c02b788e8db21879a746ea810959ea325a2423479514787fbd06a0", func := "civiltime/civiltimelaw08.FeastFinds", spec := "feastFinds", named := ["civiltime/julian.lengths"], apart := false, laid := [("civiltime/julian.lengths", laid_civiltime_julian_lengths)] }
def FeastFindsSaid : Prop := feastFindsRow.holds Tryd.pinned (OpenSpec.ofChange feastFindsSpec)

/-- ITS FALSE NEIGHBOUR: 'it returns false'. Refute it at one input. -/
def feastFindsWrong : ChangeSpec := { name := "feastFinds", fn := fun _ => fun
  | [d] => { results := [.lit (.bool false)], args := [d] }
  | _ => none }
def FeastFindsWrongFalsely : Prop := feastFindsRow.holds Tryd.pinned (OpenSpec.ofChange feastFindsWrong)

/-- 'civiltimelaw08.FeastMoves': WHATEVER THE INPUT: true; the input reads as it did. -/
def feastMovesSpec : ChangeSpec := { name := "feastMoves", fn := fun _ => fun
  | [d1, d2] => { results := [.lit (.bool true)], args := [d1, d2] }
  | _ => none }
def feastMovesRow : OpenClaim := { program := "ytaclggocacafaaadoor", sum := "599846ad18c02b788e8db21879a746ea810959ea325a2423479514787fbd06a0", func := "civiltime/civiltimelaw08.FeastMoves", spec := "feastMoves", named := ["civiltime/julian.lengths"], apart := false, laid := [("civiltime/julian.lengths", laid_civiltime_julian_lengths)] }
def FeastMovesSaid : Prop := feastMovesRow.holds Tryd.pinned (OpenSpec.ofChange feastMovesSpec)

/-- ITS FALSE NEIGHBOUR: 'it returns false'. Refute it at one input. -/
def feastMovesWrong : ChangeSpec := { name := "feastMoves", fn := fun _ => fun
  | [d1, d2] => { results := [.lit (.bool false)], args := [d1, d2] }
  | _ => none }
def FeastMovesWrongFalsely : Prop := feastMovesRow.holds Tryd.pinned (OpenSpec.ofChange feastMovesWrong)

/-- 'civiltimelaw08.FeastYears': WHATEVER THE INPUT: true; the input reads as it did. -/
def feastYearsSpec : ChangeSpec := { name := "feastYears", fn := fun _ => fun
  | [d1, d2, d3, d4, d5] => { results := [.lit (.bool true)], args := [d1, d2, d3, d4, d5] }
  | _ => none }
def feastYearsRow : OpenClaim := { program := "ytaclggocacafaaadoor", sum := "599846ad18c02b788e8db21879a746ea810959ea325a2423479514787fbd06a0", func := "civiltime/civiltimelaw08.FeastYears", spec := "feastYears", unfollowed := true, recurses := true, named := ["civiltime/julian.lengths"], apart := false, laid := [("civiltime/julian.lengths", laid_civiltime_julian_lengths)] }
def FeastYearsSaid : Prop := feastYearsRow.holds Tryd.pinned (OpenSpec.ofChange feastYearsSpec)

/-- ITS FALSE NEIGHBOUR: 'it returns false'. Refute it at one input. -/
def feastYearsWrong : ChangeSpec := { name := "feastYears", fn := fun _ => fun
  | [d1, d2, d3, d4, d5] => { results := [.lit (.bool false)], args := [d1, d2, d3, d4, d5] }
  | _ => none }
def FeastYearsWrongFalsely : Prop := feastYearsRow.holds Tryd.pinned (OpenSpec.ofChange feastYearsWrong)

/-- 'civiltimelaw08.FeastEdges': WHATEVER THE INPUT: true; the input reads as it did. -/
def feastEdgesSpec : ChangeSpec := { name := "feastEdges", fn := fun _ => fun
  | [d1, d2] => { results := [.lit (.bool true)], args := [d1, d2] }
  | _ => none }
def feastEdgesRow : OpenClaim := { program := "ytaclggocacafaaadoor", sum := "599846ad18c02b788e8db21879a746ea810959ea325a2423479514787fbd06a0", func := "civiltime/civiltimelaw08.FeastEdges", spec := "feastEdges", unfollowed := true, recurses := true, named := ["civiltime/julian.lengths"], apart := false, laid := [("civiltime/julian.lengths", laid_civiltime_julian_lengths)] }
def FeastEdgesSaid : Prop := feastEdgesRow.holds Tryd.pinned (OpenSpec.ofChange feastEdgesSpec)

/-- ITS FALSE NEIGHBOUR: 'it returns false'. Refute it at one input. -/
def feastEdgesWrong : ChangeSpec := { name := "feastEdges", fn := fun _ => fun
  | [d1, d2] => { results := [.lit (.bool false)], args := [d1, d2] }
  | _ => none }
def FeastEdgesWrongFalsely : Prop := feastEdgesRow.holds Tryd.pinned (OpenSpec.ofChange feastEdgesWrong)

/- THE SECOND FORM. 'bulk': how many values and letters a reading holds, each counted each time it is reached (what is shared counts as often as it is met; a slice's spare places count too). A statement '..UptoSaid' is the law's where the arguments, and the package variables that the reading takes, are together of bulk at most 1048576: NARROWER than '..Said'. Prove '..Said' where nothing that the law and all that it calls make is longer than what came in: it says more and counts as full. Else prove '..UptoSaid'. A law counts once. -/
mutual
def uptoBulk {H : Type} : DataW H → Nat
  | .lit (.string bytes) => bytes.length + 1
  | .lit _ => 1
  | .nil => 1
  | .ptr d => uptoBulk d + 1
  | .slice elems spare => uptoBulkAll elems + uptoBulkAll spare + 1
  | .agg parts => uptoBulkAll parts + 1
  | .iface _ d => uptoBulk d + 1
  | .map entries => uptoBulkEntries entries + 1
  | .held _ => 1
def uptoBulkAll {H : Type} : List (DataW H) → Nat
  | [] => 0
  | d :: r => uptoBulk d + uptoBulkAll r
def uptoBulkEntries {H : Type} : List (Lit × DataW H) → Nat
  | [] => 0
  | x :: r => uptoBulkEntry x + uptoBulkEntries r
def uptoBulkEntry {H : Type} : Lit × DataW H → Nat
  | (.string bytes, d) => bytes.length + uptoBulk d + 1
  | (_, d) => uptoBulk d + 1
 end
def uptoSmall : (H : Type) → List (DataW H) → Bool := fun _ ds => decide (uptoBulkAll ds ≤ 1048576)
def OpenSpec.upto (s : _root_.Go.ChangeSpec) : _root_.Go.OpenSpec := { _root_.Go.OpenSpec.ofChange s with cond := some uptoSmall }

/-- 'civiltimelaw08.FeastNumbers', WHERE WHAT IT READS IS OF BULK AT MOST 1048576: true; the input reads as it did. -/
def feastNumbersUptoRow : OpenClaim := { program := "ytaclggocacafaaadoor", sum := "599846ad18c02b788e8db21879a746ea810959ea325a2423479514787fbd06a0", func := "civiltime/civiltimelaw08.FeastNumbers", spec := "feastNumbers", named := ["civiltime/julian.lengths"], apart := false, laid := [("civiltime/julian.lengths", laid_civiltime_julian_lengths)], narrowed := true }
def FeastNumbersUptoSaid : Prop := feastNumbersUptoRow.holds Tryd.pinned (OpenSpec.upto feastNumbersSpec)

/-- 'civiltimelaw08.FeastDays', WHERE WHAT IT READS IS OF BULK AT MOST 1048576: true; the input reads as it did. -/
def feastDaysUptoRow : OpenClaim := { program := "ytaclggocacafaaadoor", sum := "599846ad18c02b788e8db21879a746ea810959ea325a2423479514787fbd06a0", func := "civiltime/civiltimelaw08.FeastDays", spec := "feastDays", named := ["civiltime/julian.lengths"], apart := false, laid := [("civiltime/julian.lengths", laid_civiltime_julian_lengths)], narrowed := true }
def FeastDaysUptoSaid : Prop := feastDaysUptoRow.holds Tryd.pinned (OpenSpec.upto feastDaysSpec)

/-- 'civiltimelaw08.FeastSundays', WHERE WHAT IT READS IS OF BULK AT MOST 1048576: true; the input reads as it did. -/
def feastSundaysUptoRow : OpenClaim := { program := "ytaclggocacafaaadoor", sum := "599846ad18c02b788e8db21879a746ea810959ea325a2423479514787fbd06a0", func := "civiltime/civiltimelaw08.FeastSundays", spec := "feastSundays", named := ["civiltime/julian.lengths"], apart := false, laid := [("civiltime/julian.lengths", laid_civiltime_julian_lengths)], narrowed := true }
def FeastSundaysUptoSaid : Prop := feastSundaysUptoRow.holds Tryd.pinned (OpenSpec.upto feastSundaysSpec)

/-- 'civiltimelaw08.FeastJulian', WHERE WHAT IT READS IS OF BULK AT MOST 1048576: true; the input reads as it did. -/
def feastJulianUptoRow : OpenClaim := { program := "ytaclggocacafaaadoor", sum := "599846ad18c02b788e8db21879a746ea810959ea325a2423479514787fbd06a0", func := "civiltime/civiltimelaw08.FeastJulian", spec := "feastJulian", named := ["civiltime/julian.lengths"], apart := false, laid := [("civiltime/julian.lengths", laid_civiltime_julian_lengths)], narrowed := true }
def FeastJulianUptoSaid : Prop := feastJulianUptoRow.holds Tryd.pinned (OpenSpec.upto feastJulianSpec)

/-- 'civiltimelaw08.FeastFinds', WHERE WHAT IT READS IS OF BULK AT MOST 1048576: true; the input reads as it did. -/
def feastFindsUptoRow : OpenClaim := { program := "ytaclggocacafaaadoor", sum := "599846ad18c02b788e8db21879a746ea810959ea325a2423479514787fbd06a0", func := "civiltime/civiltimelaw08.FeastFinds", spec := "feastFinds", named := ["civiltime/julian.lengths"], apart := false, laid := [("civiltime/julian.lengths", laid_civiltime_julian_lengths)], narrowed := true }
def FeastFindsUptoSaid : Prop := feastFindsUptoRow.holds Tryd.pinned (OpenSpec.upto feastFindsSpec)

/-- 'civiltimelaw08.FeastMoves', WHERE WHAT IT READS IS OF BULK AT MOST 1048576: true; the input reads as it did. -/
def feastMovesUptoRow : OpenClaim := { program := "ytaclggocacafaaadoor", sum := "599846ad18c02b788e8db21879a746ea810959ea325a2423479514787fbd06a0", func := "civiltime/civiltimelaw08.FeastMoves", spec := "feastMoves", named := ["civiltime/julian.lengths"], apart := false, laid := [("civiltime/julian.lengths", laid_civiltime_julian_lengths)], narrowed := true }
def FeastMovesUptoSaid : Prop := feastMovesUptoRow.holds Tryd.pinned (OpenSpec.upto feastMovesSpec)

/-- 'civiltimelaw08.FeastYears', WHERE WHAT IT READS IS OF BULK AT MOST 1048576: true; the input reads as it did. -/
def feastYearsUptoRow : OpenClaim := { program := "ytaclggocacafaaadoor", sum := "599846ad18c02b788e8db21879a746ea810959ea325a2423479514787fbd06a0", func := "civiltime/civiltimelaw08.FeastYears", spec := "feastYears", unfollowed := true, recurses := true, named := ["civiltime/julian.lengths"], apart := false, laid := [("civiltime/julian.lengths", laid_civiltime_julian_lengths)], narrowed := true }
def FeastYearsUptoSaid : Prop := feastYearsUptoRow.holds Tryd.pinned (OpenSpec.upto feastYearsSpec)

/-- 'civiltimelaw08.FeastEdges', WHERE WHAT IT READS IS OF BULK AT MOST 1048576: true; the input reads as it did. -/
def feastEdgesUptoRow : OpenClaim := { program := "ytaclggocacafaaadoor", sum := "599846ad18c02b788e8db21879a746ea810959ea325a2423479514787fbd06a0", func := "civiltime/civiltimelaw08.FeastEdges", spec := "feastEdges", unfollowed := true, recurses := true, named := ["civiltime/julian.lengths"], apart := false, laid := [("civiltime/julian.lengths", laid_civiltime_julian_lengths)], narrowed := true }
def FeastEdgesUptoSaid : Prop := feastEdgesUptoRow.holds Tryd.pinned (OpenSpec.upto feastEdgesSpec)

end Rows
end Go.Proofs.YtaclggocacafaaaDoor
