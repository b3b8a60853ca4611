/-
  NARROWER THAN 'FOR EVERY INPUT', by the rows' own cells (each row's printed sentence says how): JulianDays: laid · JulianCycles: laid · JulianWeekdays: laid · JulianDates: laid · JulianBack: laid · JulianSteps: laid · JulianOffsets: laid · JulianMixed: laid · JulianFinds: laid.
  DERIVED. THE GIVEN ROWS OF THIS SEAT. 9 by the template 'for every input the law returns true; each argument reads behind the call as it read before'; 0 by the template 'total and deterministic' (their statements: YtiacppcnballeaaDoorTotals.lean).
  GIVEN WITH THE SEED: the statements are not yours to turn. If you find one false, say at which input.
  Laid BY PROGRAM, IN A SANDBOX (cutbox-rows.mjs): the forced cells as the released guide's own fill.sh prints them over the translation aec73d181b1d15f4… (all of the seat's roots in one cut). By AI agents, Wed Nov 11 2026. No macro, syntax, notation, axiom, sorry.
-/
import Derived.Test.YtiacppcnballeaaDoorChecked
import GoSem.Claim
import GoSem.ClaimJoined
import GoSem.ClaimMapViews
import Derived.JoinedTies
import Derived.KernelRfl
namespace Go.Proofs.YtiacppcnballeaaDoor
/- THE CELL 'sum', in the pinned program and in every row, IS THE sha256 OF THE DUMP (.gsa) THAT YtiacppcnballeaaDoorProg.lean LOADS. Nothing in Lean hashes anything: it is a label: what it is worth is what the hold of that sum in a sandbox is worth. -/
noncomputable def Tryd.pinned : Pinned := { name := "ytiacppcnballeaadoor", sum := "aec73d181b1d15f4f929afecb5157d14ce11d9fdb7510a9b5c1dde2e8d278ceb", checked := Tryd.checked }
namespace Rows
def none {H : Type} : Left H := { results := [], args := [] }

/- WHAT THE LISTED PACKAGE-LEVEL VARIABLES READ AS WHEN THE CALL BEGINS. Each datum BY PROGRAM (the guide's laid-datum.mjs) off the statement by which the dump's own 'gosem.cut.vars' lays the variable. In a bare row this is a premise. The card (YtiacppcnballeaaDoorCards.lean) ties it to the program's text. -/
def laid_civiltime_julian_lengths {H : Type} : DataW H := .agg [.lit (.int .i64 0), .lit (.int .i64 31), .lit (.int .i64 28), .lit (.int .i64 31), .lit (.int .i64 30), .lit (.int .i64 31), .lit (.int .i64 30), .lit (.int .i64 31), .lit (.int .i64 31), .lit (.int .i64 30), .lit (.int .i64 31), .lit (.int .i64 30), .lit (.int .i64 31)]

/-- 'civiltimelaw05.JulianDays': WHATEVER THE INPUT: true; the input reads as it did. -/
def julianDaysSpec : ChangeSpec := { name := "julianDays", fn := fun _ => fun
  | [d] => { results := [.lit (.bool true)], args := [d] }
  | _ => none }
def julianDaysRow : OpenClaim := { program := "ytiacppcnballeaadoor", sum := "aec73d181b1d15f4f929afecb5157d14ce11d9fdb7510a9b5c1dde2e8d278ceb", func := "civiltime/civiltimelaw05.JulianDays", spec := "julianDays", named := ["civiltime/julian.lengths"], apart := false, laid := [("civiltime/julian.lengths", laid_civiltime_julian_lengths)] }
def JulianDaysSaid : Prop := julianDaysRow.holds Tryd.pinned (OpenSpec.ofChange julianDaysSpec)

/-- ITS FALSE NEIGHBOUR: 'it returns false'. Refute it at one input. -/
def julianDaysWrong : ChangeSpec := { name := "julianDays", fn := fun _ => fun
  | [d] => { results := [.lit (.bool false)], args := [d] }
  | _ => none }
def JulianDaysWrongFalsely : Prop := julianDaysRow.holds Tryd.pinned (OpenSpec.ofChange julianDaysWrong)

/-- 'civiltimelaw05.JulianCycles': WHATEVER THE INPUT: true; the input reads as it did. -/
def julianCyclesSpec : ChangeSpec := { name := "julianCycles", fn := fun _ => fun
  | [d] => { results := [.lit (.bool true)], args := [d] }
  | _ => none }
def julianCyclesRow : OpenClaim := { program := "ytiacppcnballeaadoor", sum := "aec73d181b1d15f4f929afecb5157d14ce11d9fdb7510a9b5c1dde2e8d278ceb", func := "civiltime/civiltimelaw05.JulianCycles", spec := "julianCycles", named := ["civiltime/julian.lengths"], apart := false, laid := [("civiltime/julian.lengths", laid_civiltime_julian_lengths)] }
def JulianCyclesSaid : Prop := julianCyclesRow.holds Tryd.pinned (OpenSpec.ofChange julianCyclesSpec)

/-- ITS FALSE NEIGHBOUR: 'it returns false'. Refute it at one input. -/
def julianCyclesWrong : ChangeSpec := { name := "julianCycles", fn := fun _ => fun
  | [d] => { results := [.lit (.bool false)], args := [d] }
  | _ => none }
def JulianCyclesWrongFalsely : Prop := julianCyclesRow.holds Tryd.pinned (OpenSpec.ofChange julianCyclesWrong)

/-- 'civiltimelaw05.JulianWeekdays': WHATEVER THE INPUT: true; the input reads as it did. -/
def julianWeekdaysSpec : ChangeSpec := { name := "julianWeekdays", fn := fun _ => fun
  | [d] => { results := [.lit (.bool true)], args := [d] }
  | _ => none }
def julianWeekdaysRow : OpenClaim := { program := "ytiacppcnballeaadoor", sum := "aec73d181b1d15f4f929afecb5157d14ce11d9fdb7510a9b5c1dde2e8d278ceb", func := "civiltime/civiltimelaw05.JulianWeekdays", spec := "julianWeekdays", named := ["civiltime/julian.lengths"], apart := false, laid := [("civiltime/julian.lengths", laid_civiltime_julian_lengths)] }
def JulianWeekdaysSaid : Prop := julianWeekdaysRow.holds Tryd.pinned (OpenSpec.ofChange julianWeekdaysSpec)

/-- ITS FALSE NEIGHBOUR: 'it returns false'. Refute it at one input. -/
def julianWeekdaysWrong : ChangeSpec := { name := "julianWeekdays", fn := fun _ => fun
  | [d] => { results := [.lit (.bool false)], args := [d] }
  | _ => none }
def JulianWeekdaysWrongFalsely : Prop := julianWeekdaysRow.holds Tryd.pinned (OpenSpec.ofChange julianWeekdaysWrong)

/-- 'civiltimelaw05.JulianDates': WHATEVER THE INPUT: true; the input reads as it did. -/
def julianDatesSpec : ChangeSpec := { name := "julianDates", fn := fun _ => fun
  | [d] => { results := [.lit (.bool true)], args := [d] }
  | _ => none }
def julianDatesRow : OpenClaim := { program := "ytiacppcnballeaadoor", sum := "aec73d181b1d15f4f929afecb5157d14ce11d9fdb7510a9b5c1dde2e8d278ceb", func := "civiltime/civiltimelaw05.JulianDates", spec := "julianDates", named := ["civiltime/julian.lengths"], apart := false, laid := [("civiltime/julian.lengths", laid_civiltime_julian_lengths)] }
def JulianDatesSaid : Prop := julianDatesRow.holds Tryd.pinned (OpenSpec.ofChange julianDatesSpec)

/-- ITS FALSE NEIGHBOUR: 'it returns false'. Refute it at one input. -/
def julianDatesWrong : ChangeSpec := { name := "julianDates", fn := fun _ => fun
  | [d] => { results := [.lit (.bool false)], args := [d] }
  | _ => none }
def JulianDatesWrongFalsely : Prop := julianDatesRow.holds Tryd.pinned (OpenSpec.ofChange julianDatesWrong)

/-- 'civiltimelaw05.JulianBack': WHATEVER THE INPUT: true; the input reads as it did. -/
def julianBackSpec : ChangeSpec := { name := "julianBack", fn := fun _ => fun
  | [d1, d2] => { results := [.lit (.bool true)], args := [d1, d2] }
  | _ => none }
def julianBackRow : OpenClaim := { program := "ytiacppcnballeaadoor", sum := "aec73d181b1d15f4f929afecb5157d14ce11d9fdb7510a9b5c1dde2e8d278ceb", func := "civiltime/civiltimelaw05.JulianBack", spec := "julianBack", named := ["civiltime/julian.lengths"], apart := false, laid := [("civiltime/julian.lengths", laid_civiltime_julian_lengths)] }
def JulianBackSaid : Prop := julianBackRow.holds Tryd.pinned (OpenSpec.ofChange julianBackSpec)

/-- ITS FALSE NEIGHBOUR: 'it returns false'. Refute it at one input. -/
def julianBackWrong : ChangeSpec := { name := "julianBack", fn := fun _ => fun
  | [d1, d2] => { results := [.lit (.bool false)], args := [d1, d2] }
  | _ => none }
def JulianBackWrongFalsely : Prop := julianBackRow.holds Tryd.pinned (OpenSpec.ofChange julianBackWrong)

/-- 'civiltimelaw05.JulianSteps': WHATEVER THE INPUT: true; the input reads as it did. -/
def julianStepsSpec : ChangeSpec := { name := "julianSteps", fn := fun _ => fun
  | [d] => { results := [.lit (.bool true)], args := [d] }
  | _ => none }
def julianStepsRow : OpenClaim := { program := "ytiacppcnballeaadoor", sum := "aec73d181b1d15f4f929afecb5157d14ce11d9fdb7510a9b5c1dde2e8d278ceb", func := "civiltime/civiltimelaw05.JulianSteps", spec := "julianSteps", named := ["civiltime/julian.lengths"], apart := false, laid := [("civiltime/julian.lengths", laid_civiltime_julian_lengths)] }
def JulianStepsSaid : Prop := julianStepsRow.holds Tryd.pinned (OpenSpec.ofChange julianStepsSpec)

/-- ITS FALSE NEIGHBOUR: 'it returns false'. Refute it at one input. -/
def julianStepsWrong : ChangeSpec := { name := "julianSteps", fn := fun _ => fun
  | [d] => { results := [.lit (.bool false)], args := [d] }
  | _ => none }
def JulianStepsWrongFalsely : Prop := julianStepsRow.holds Tryd.pinned (OpenSpec.ofChange julianStepsWrong)

/-- 'civiltimelaw05.JulianOffsets': WHATEVER THE INPUT: true; the input reads as it did. -/
def julianOffsetsSpec : ChangeSpec := { name := "julianOffsets", fn := fun _ => fun
  | [d] => { results := [.lit (.bool true)], args := [d] }
  | _ => none }
def julianOffsetsRow : OpenClaim := { program := "ytiacppcnballeaadoor", sum := "aec73d181b1d15f4f929afecb5157d14ce11d9fdb7510a9b5c1dde2e8d278ceb", func := "civiltime/civiltimelaw05.JulianOffsets", spec := "julianOffsets", named := ["civiltime/julian.lengths"], apart := false, laid := [("civiltime/julian.lengths", laid_civiltime_julian_lengths)] }
def JulianOffsetsSaid : Prop := julianOffsetsRow.holds Tryd.pinned (OpenSpec.ofChange julianOffsetsSpec)

/-- ITS FALSE NEIGHBOUR: 'it returns false'. Refute it at one input. -/
def julianOffsetsWrong : ChangeSpec := { name := "julianOffsets", fn := fun _ => fun
  | [d] => { results := [.lit (.bool false)], args := [d] }
  | _ => none }
def JulianOffsetsWrongFalsely : Prop := julianOffsetsRow.holds Tryd.pinned (OpenSpec.ofChange julianOffsetsWrong)

/-- 'civiltimelaw05.JulianMixed': WHATEVER THE INPUT: true; the input reads as it did. -/
def julianMixedSpec : ChangeSpec := { name := "julianMixed", fn := fun _ => fun
  | [d1, d2, d3] => { results := [.lit (.bool true)], args := [d1, d2, d3] }
  | _ => none }
def julianMixedRow : OpenClaim := { program := "ytiacppcnballeaadoor", sum := "aec73d181b1d15f4f929afecb5157d14ce11d9fdb7510a9b5c1dde2e8d278ceb", func := "civiltime/civiltimelaw05.JulianMixed", spec := "julianMixed", named := ["civiltime/julian.lengths"], apart := false, laid := [("civiltime/julian.lengths", laid_civiltime_julian_lengths)] }
def JulianMixedSaid : Prop := julianMixedRow.holds Tryd.pinned (OpenSpec.ofChange julianMixedSpec)

/-- ITS FALSE NEIGHBOUR: 'it returns false'. Refute it at one input. -/
def julianMixedWrong : ChangeSpec := { name := "julianMixed", fn := fun _ => fun
  | [d1, d2, d3] => { results := [.lit (.bool false)], args := [d1, d2, d3] }
  | _ => none }
def JulianMixedWrongFalsely : Prop := julianMixedRow.holds Tryd.pinned (OpenSpec.ofChange julianMixedWrong)

/-- 'civiltimelaw05.JulianFinds': WHATEVER THE INPUT: true; the input reads as it did. -/
def julianFindsSpec : ChangeSpec := { name := "julianFinds", fn := fun _ => fun
  | [d1, d2] => { results := [.lit (.bool true)], args := [d1, d2] }
  | _ => none }
def julianFindsRow : OpenClaim := { program := "ytiacppcnballeaadoor", sum := "aec73d181b1d15f4f929afecb5157d14ce11d9fdb7510a9b5c1dde2e8d278ceb", func := "civiltime/civiltimelaw05.JulianFinds", spec := "julianFinds", named := ["civiltime/julian.lengths"], apart := false, laid := [("civiltime/julian.lengths", laid_civiltime_julian_lengths)] }
def JulianFindsSaid : Prop := julianFindsRow.holds Tryd.pinned (OpenSpec.ofChange julianFindsSpec)

/-- ITS FALSE NEIGHBOUR: 'it returns false'. Refute it at one input. -/
def julianFindsWrong : ChangeSpec := { name := "julianFinds", fn := fun _ => fun
  | [d1, d2] => { results := [.lit (.bool false)], args := [d1, d2] }
  | _ => none }
def JulianFindsWrongFalsely : Prop := julianFindsRow.holds Tryd.pinned (OpenSpec.ofChange julianFindsWrong)

/- THE SECOND FORM. 'bulk': how many values and letters a reading holds, each counted each time it is reached (what is shared counts as often as it is met; a slice's spare places count too). A statement '..UptoSaid' is the law's where the arguments, and the package variables that the reading takes, are together of bulk at most 1048576: NARROWER than '..Said'. Prove '..Said' where nothing that the law and all that it calls make is longer than what came in: it says more and counts as full. Else prove '..UptoSaid'. A law counts once. -/
mutual
def uptoBulk {H : Type} : DataW H → Nat
  | .lit (.string bytes) => bytes.length + 1
  | .lit _ => 1
  | .nil => 1
  | .ptr d => uptoBulk d + 1
  | .slice elems spare => uptoBulkAll elems + uptoBulkAll spare + 1
  | .agg parts => uptoBulkAll parts + 1
  | .iface _ d => uptoBulk d + 1
  | .map entries => uptoBulkEntries entries + 1
  | .held _ => 1
def uptoBulkAll {H : Type} : List (DataW H) → Nat
  | [] => 0
  | d :: r => uptoBulk d + uptoBulkAll r
def uptoBulkEntries {H : Type} : List (Lit × DataW H) → Nat
  | [] => 0
  | x :: r => uptoBulkEntry x + uptoBulkEntries r
def uptoBulkEntry {H : Type} : Lit × DataW H → Nat
  | (.string bytes, d) => bytes.length + uptoBulk d + 1
  | (_, d) => uptoBulk d + 1
 end
def uptoSmall : (H : Type) → List (DataW H) → Bool := fun _ ds => decide (uptoBulkAll ds ≤ 1048576)
def OpenSpec.upto (s : _root_.Go.ChangeSpec) : _root_.Go.OpenSpec := { _root_.Go.OpenSpec.ofChange s with cond := some uptoSmall }

/-- 'civiltimelaw05.JulianDays', WHERE WHAT IT READS IS OF BULK AT MOST 1048576: true; the input reads as it did. -/
def julianDaysUptoRow : OpenClaim := { program := "ytiacppcnballeaadoor", sum := "aec73d181b1d15f4f929afecb5157d14ce11d9fdb7510a9b5c1dde2e8d278ceb", func := "civiltime/civiltimelaw05.JulianDays", spec := "julianDays", named := ["civiltime/julian.lengths"], apart := false, laid := [("civiltime/julian.lengths", laid_civiltime_julian_lengths)], narrowed := true }
def JulianDaysUptoSaid : Prop := julianDaysUptoRow.holds Tryd.pinned (OpenSpec.upto julianDaysSpec)

/-- 'civiltimelaw05.JulianCycles', WHERE WHAT IT READS IS OF BULK AT MOST 1048576: true; the input reads as it did. -/
def julianCyclesUptoRow : OpenClaim := { program := "ytiacppcnballeaadoor", sum := "aec73d181b1d15f4f929afecb5157d14ce11d9fdb7510a9b5c1dde2e8d278ceb", func := "civiltime/civiltimelaw05.JulianCycles", spec := "julianCycles", named := ["civiltime/julian.lengths"], apart := false, laid := [("civiltime/julian.lengths", laid_civiltime_julian_lengths)], narrowed := true }
def JulianCyclesUptoSaid : Prop := julianCyclesUptoRow.holds Tryd.pinned (OpenSpec.upto julianCyclesSpec)

/-- 'civiltimelaw05.JulianWeekdays', WHERE WHAT IT READS IS OF BULK AT MOST 1048576: true; the input reads as it did. -/
def julianWeekdaysUptoRow : OpenClaim := { program := "ytiacppcnballeaadoor", sum := "aec73d181b1d15f4f929afecb5157d14ce11d9fdb7510a9b5c1dde2e8d278ceb", func := "civiltime/civiltimelaw05.JulianWeekdays", spec := "julianWeekdays", named := ["civiltime/julian.lengths"], apart := false, laid := [("civiltime/julian.lengths", laid_civiltime_julian_lengths)], narrowed := true }
def JulianWeekdaysUptoSaid : Prop := julianWeekdaysUptoRow.holds Tryd.pinned (OpenSpec.upto julianWeekdaysSpec)

/-- 'civiltimelaw05.JulianDates', WHERE WHAT IT READS IS OF BULK AT MOST 1048576: true; the input reads as it did. -/
def julianDatesUptoRow : OpenClaim := { program := "ytiacppcnballeaadoor", sum := "aec73d181b1d15f4f929afecb5157d14ce11d9fdb7510a9b5c1dde2e8d278ceb", func := "civiltime/civiltimelaw05.JulianDates", spec := "julianDates", named := ["civiltime/julian.lengths"], apart := false, laid := [("civiltime/julian.lengths", laid_civiltime_julian_lengths)], narrowed := true }
def JulianDatesUptoSaid : Prop := julianDatesUptoRow.holds Tryd.pinned (OpenSpec.upto julianDatesSpec)

/-- 'civiltimelaw05.JulianBack', WHERE WHAT IT READS IS OF BULK AT MOST 1048576: true; the input reads as it did. -/
def julianBackUptoRow : OpenClaim := { program := "ytiacppcnballeaadoor", sum := "aec73d181b1d15f4f929afecb5157d14ce11d9fdb7510a9b5c1dde2e8d278ceb", func := "civiltime/civiltimelaw05.JulianBack", spec := "julianBack", named := ["civiltime/julian.lengths"], apart := false, laid := [("civiltime/julian.lengths", laid_civiltime_julian_lengths)], narrowed := true }
def JulianBackUptoSaid : Prop := julianBackUptoRow.holds Tryd.pinned (OpenSpec.upto julianBackSpec)

/-- 'civiltimelaw05.JulianSteps', WHERE WHAT IT READS IS OF BULK AT MOST 1048576: true; the input reads as it did. -/
def julianStepsUptoRow : OpenClaim := { program := "ytiacppcnballeaadoor", sum := "aec73d181b1d15f4f929afecb5157d14ce11d9fdb7510a9b5c1dde2e8d278ceb", func := "civiltime/civiltimelaw05.JulianSteps", spec := "julianSteps", named := ["civiltime/julian.lengths"], apart := false, laid := [("civiltime/julian.lengths", laid_civiltime_julian_lengths)], narrowed := true }
def JulianStepsUptoSaid : Prop := julianStepsUptoRow.holds Tryd.pinned (OpenSpec.upto julianStepsSpec)

/-- 'civiltimelaw05.JulianOffsets', WHERE WHAT IT READS IS OF BULK AT MOST 1048576: true; the input reads as it did. -/
def julianOffsetsUptoRow : OpenClaim := { program := "ytiacppcnballeaadoor", sum := "aec73d181b1d15f4f929afecb5157d14ce11d9fdb7510a9b5c1dde2e8d278ceb", func := "civiltime/civiltimelaw05.JulianOffsets", spec := "julianOffsets", named := ["civiltime/julian.lengths"], apart := false, laid := [("civiltime/julian.lengths", laid_civiltime_julian_lengths)], narrowed := true }
def JulianOffsetsUptoSaid : Prop := julianOffsetsUptoRow.holds Tryd.pinned (OpenSpec.upto julianOffsetsSpec)

/-- 'civiltimelaw05.JulianMixed', WHERE WHAT IT READS IS OF BULK AT MOST 1048576: true; the input reads as it did. -/
def julianMixedUptoRow : OpenClaim := { program := "ytiacppcnballeaadoor", sum := "aec73d181b1d15f4f929afecb5157d14ce11d9fdb7510a9b5c1dde2e8d278ceb", func := "civiltime/civiltimelaw05.JulianMixed", spec := "julianMixed", named := ["civiltime/julian.lengths"], apart := false, laid := [("civiltime/julian.lengths", laid_civiltime_julian_lengths)], narrowed := true }
def JulianMixedUptoSaid : Prop := julianMixedUptoRow.holds Tryd.pinned (OpenSpec.upto julianMixedSpec)

/-- 'civiltimelaw05.JulianFinds', WHERE WHAT IT READS IS OF BULK AT MOST 1048576: true; the input reads as it did. -/
def julianFindsUptoRow : OpenClaim := { program := "ytiacppcnballeaadoor", sum := "aec73d181b1d15f4f929afecb5157d14ce11d9fdb7510a9b5c1dde2e8d278ceb", func := "civiltime/civiltimelaw05.JulianFinds", spec := "julianFinds", named := ["civiltime/julian.lengths"], apart := false, laid := [("civiltime/julian.lengths", laid_civiltime_julian_lengths)], narrowed := true }
def JulianFindsUptoSaid : Prop := julianFindsUptoRow.holds Tryd.pinned (OpenSpec.upto julianFindsSpec)

end Rows
end Go.Proofs.YtiacppcnballeaaDoor
