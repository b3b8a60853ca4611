/-
  No cell of these rows narrows 'for every input' (looked for: loops, veiled, ifaces, maps, wideKeys, modest, calm, conditions, laid).
  DERIVED. THE GIVEN ROWS OF THIS SEAT. 11 by the template 'for every input the law returns true; each argument reads behind the call as it read before'; 0 by the template 'total and deterministic' (their statements: YtpoehjnhinapoaaTotals.lean).
  GIVEN WITH THE SEED: the statements are not yours to turn. If you find one false, say at which input.
  Laid BY PROGRAM, IN A SANDBOX (cutbox-rows.mjs): the forced cells as the released guide's own fill.sh prints them over the translation 9ebba04a4974143b… (all of the seat's roots in one cut). By AI agents, Wed Nov 11 2026. No macro, syntax, notation, axiom, sorry.
-/
import Derived.Test.YtpoehjnhinapoaaChecked
import GoSem.Claim
import GoSem.ClaimJoined
import GoSem.ClaimMapViews
import Derived.JoinedTies
import Derived.KernelRfl
namespace Go.Proofs.Ytpoehjnhinapoaa
/- THE CELL 'sum', in the pinned program and in every row, IS THE sha256 OF THE DUMP (.gsa) THAT YtpoehjnhinapoaaProg.lean LOADS. Nothing in Lean hashes anything: it is a label: what it is worth is what the hold of that sum in a sandbox is worth. -/
noncomputable def Try.pinned : Pinned := { name := "ytpoehjnhinapoaa", sum := "9ebba04a4974143b90f351c42376ab1ec151dcdae5ab831296cbc7e7ae9984d2", checked := Try.checked }
namespace Rows
def none {H : Type} : Left H := { results := [], args := [] }

/-- 'civiltimelaw07.HebrewDays': WHATEVER THE INPUT: true; the input reads as it did. -/
def hebrewDaysSpec : ChangeSpec := { name := "hebrewDays", fn := fun _ => fun
  | [d] => { results := [.lit (.bool true)], args := [d] }
  | _ => none }
def hebrewDaysRow : OpenClaim := { program := "ytpoehjnhinapoaa", sum := "9ebba04a4974143b90f351c42376ab1ec151dcdae5ab831296cbc7e7ae9984d2", func := "civiltime/civiltimelaw07.HebrewDays", spec := "hebrewDays", apart := false }
def HebrewDaysSaid : Prop := hebrewDaysRow.holds Try.pinned (OpenSpec.ofChange hebrewDaysSpec)

/-- ITS FALSE NEIGHBOUR: 'it returns false'. Refute it at one input. -/
def hebrewDaysWrong : ChangeSpec := { name := "hebrewDays", fn := fun _ => fun
  | [d] => { results := [.lit (.bool false)], args := [d] }
  | _ => none }
def HebrewDaysWrongFalsely : Prop := hebrewDaysRow.holds Try.pinned (OpenSpec.ofChange hebrewDaysWrong)

/-- 'civiltimelaw07.HebrewCycles': WHATEVER THE INPUT: true; the input reads as it did. -/
def hebrewCyclesSpec : ChangeSpec := { name := "hebrewCycles", fn := fun _ => fun
  | [d] => { results := [.lit (.bool true)], args := [d] }
  | _ => none }
def hebrewCyclesRow : OpenClaim := { program := "ytpoehjnhinapoaa", sum := "9ebba04a4974143b90f351c42376ab1ec151dcdae5ab831296cbc7e7ae9984d2", func := "civiltime/civiltimelaw07.HebrewCycles", spec := "hebrewCycles", apart := false }
def HebrewCyclesSaid : Prop := hebrewCyclesRow.holds Try.pinned (OpenSpec.ofChange hebrewCyclesSpec)

/-- ITS FALSE NEIGHBOUR: 'it returns false'. Refute it at one input. -/
def hebrewCyclesWrong : ChangeSpec := { name := "hebrewCycles", fn := fun _ => fun
  | [d] => { results := [.lit (.bool false)], args := [d] }
  | _ => none }
def HebrewCyclesWrongFalsely : Prop := hebrewCyclesRow.holds Try.pinned (OpenSpec.ofChange hebrewCyclesWrong)

/-- 'civiltimelaw07.HebrewYears': WHATEVER THE INPUT: true; the input reads as it did. -/
def hebrewYearsSpec : ChangeSpec := { name := "hebrewYears", fn := fun _ => fun
  | [d] => { results := [.lit (.bool true)], args := [d] }
  | _ => none }
def hebrewYearsRow : OpenClaim := { program := "ytpoehjnhinapoaa", sum := "9ebba04a4974143b90f351c42376ab1ec151dcdae5ab831296cbc7e7ae9984d2", func := "civiltime/civiltimelaw07.HebrewYears", spec := "hebrewYears", apart := false }
def HebrewYearsSaid : Prop := hebrewYearsRow.holds Try.pinned (OpenSpec.ofChange hebrewYearsSpec)

/-- ITS FALSE NEIGHBOUR: 'it returns false'. Refute it at one input. -/
def hebrewYearsWrong : ChangeSpec := { name := "hebrewYears", fn := fun _ => fun
  | [d] => { results := [.lit (.bool false)], args := [d] }
  | _ => none }
def HebrewYearsWrongFalsely : Prop := hebrewYearsRow.holds Try.pinned (OpenSpec.ofChange hebrewYearsWrong)

/-- 'civiltimelaw07.HebrewNewYears': WHATEVER THE INPUT: true; the input reads as it did. -/
def hebrewNewYearsSpec : ChangeSpec := { name := "hebrewNewYears", fn := fun _ => fun
  | [d] => { results := [.lit (.bool true)], args := [d] }
  | _ => none }
def hebrewNewYearsRow : OpenClaim := { program := "ytpoehjnhinapoaa", sum := "9ebba04a4974143b90f351c42376ab1ec151dcdae5ab831296cbc7e7ae9984d2", func := "civiltime/civiltimelaw07.HebrewNewYears", spec := "hebrewNewYears", apart := false }
def HebrewNewYearsSaid : Prop := hebrewNewYearsRow.holds Try.pinned (OpenSpec.ofChange hebrewNewYearsSpec)

/-- ITS FALSE NEIGHBOUR: 'it returns false'. Refute it at one input. -/
def hebrewNewYearsWrong : ChangeSpec := { name := "hebrewNewYears", fn := fun _ => fun
  | [d] => { results := [.lit (.bool false)], args := [d] }
  | _ => none }
def HebrewNewYearsWrongFalsely : Prop := hebrewNewYearsRow.holds Try.pinned (OpenSpec.ofChange hebrewNewYearsWrong)

/-- 'civiltimelaw07.HebrewMonths': WHATEVER THE INPUT: true; the input reads as it did. -/
def hebrewMonthsSpec : ChangeSpec := { name := "hebrewMonths", fn := fun _ => fun
  | [d1, d2] => { results := [.lit (.bool true)], args := [d1, d2] }
  | _ => none }
def hebrewMonthsRow : OpenClaim := { program := "ytpoehjnhinapoaa", sum := "9ebba04a4974143b90f351c42376ab1ec151dcdae5ab831296cbc7e7ae9984d2", func := "civiltime/civiltimelaw07.HebrewMonths", spec := "hebrewMonths", apart := false }
def HebrewMonthsSaid : Prop := hebrewMonthsRow.holds Try.pinned (OpenSpec.ofChange hebrewMonthsSpec)

/-- ITS FALSE NEIGHBOUR: 'it returns false'. Refute it at one input. -/
def hebrewMonthsWrong : ChangeSpec := { name := "hebrewMonths", fn := fun _ => fun
  | [d1, d2] => { results := [.lit (.bool false)], args := [d1, d2] }
  | _ => none }
def HebrewMonthsWrongFalsely : Prop := hebrewMonthsRow.holds Try.pinned (OpenSpec.ofChange hebrewMonthsWrong)

/-- 'civiltimelaw07.HebrewMolads': WHATEVER THE INPUT: true; the input reads as it did. -/
def hebrewMoladsSpec : ChangeSpec := { name := "hebrewMolads", fn := fun _ => fun
  | [d1, d2] => { results := [.lit (.bool true)], args := [d1, d2] }
  | _ => none }
def hebrewMoladsRow : OpenClaim := { program := "ytpoehjnhinapoaa", sum := "9ebba04a4974143b90f351c42376ab1ec151dcdae5ab831296cbc7e7ae9984d2", func := "civiltime/civiltimelaw07.HebrewMolads", spec := "hebrewMolads", apart := false }
def HebrewMoladsSaid : Prop := hebrewMoladsRow.holds Try.pinned (OpenSpec.ofChange hebrewMoladsSpec)

/-- ITS FALSE NEIGHBOUR: 'it returns false'. Refute it at one input. -/
def hebrewMoladsWrong : ChangeSpec := { name := "hebrewMolads", fn := fun _ => fun
  | [d1, d2] => { results := [.lit (.bool false)], args := [d1, d2] }
  | _ => none }
def HebrewMoladsWrongFalsely : Prop := hebrewMoladsRow.holds Try.pinned (OpenSpec.ofChange hebrewMoladsWrong)

/-- 'civiltimelaw07.HebrewDates': WHATEVER THE INPUT: true; the input reads as it did. -/
def hebrewDatesSpec : ChangeSpec := { name := "hebrewDates", fn := fun _ => fun
  | [d] => { results := [.lit (.bool true)], args := [d] }
  | _ => none }
def hebrewDatesRow : OpenClaim := { program := "ytpoehjnhinapoaa", sum := "9ebba04a4974143b90f351c42376ab1ec151dcdae5ab831296cbc7e7ae9984d2", func := "civiltime/civiltimelaw07.HebrewDates", spec := "hebrewDates", apart := false }
def HebrewDatesSaid : Prop := hebrewDatesRow.holds Try.pinned (OpenSpec.ofChange hebrewDatesSpec)

/-- ITS FALSE NEIGHBOUR: 'it returns false'. Refute it at one input. -/
def hebrewDatesWrong : ChangeSpec := { name := "hebrewDates", fn := fun _ => fun
  | [d] => { results := [.lit (.bool false)], args := [d] }
  | _ => none }
def HebrewDatesWrongFalsely : Prop := hebrewDatesRow.holds Try.pinned (OpenSpec.ofChange hebrewDatesWrong)

/-- 'civiltimelaw07.HebrewBack': WHATEVER THE INPUT: true; the input reads as it did. -/
def hebrewBackSpec : ChangeSpec := { name := "hebrewBack", fn := fun _ => fun
  | [d1, d2] => { results := [.lit (.bool true)], args := [d1, d2] }
  | _ => none }
def hebrewBackRow : OpenClaim := { program := "ytpoehjnhinapoaa", sum := "9ebba04a4974143b90f351c42376ab1ec151dcdae5ab831296cbc7e7ae9984d2", func := "civiltime/civiltimelaw07.HebrewBack", spec := "hebrewBack", apart := false }
def HebrewBackSaid : Prop := hebrewBackRow.holds Try.pinned (OpenSpec.ofChange hebrewBackSpec)

/-- ITS FALSE NEIGHBOUR: 'it returns false'. Refute it at one input. -/
def hebrewBackWrong : ChangeSpec := { name := "hebrewBack", fn := fun _ => fun
  | [d1, d2] => { results := [.lit (.bool false)], args := [d1, d2] }
  | _ => none }
def HebrewBackWrongFalsely : Prop := hebrewBackRow.holds Try.pinned (OpenSpec.ofChange hebrewBackWrong)

/-- 'civiltimelaw07.HebrewNext': WHATEVER THE INPUT: true; the input reads as it did. -/
def hebrewNextSpec : ChangeSpec := { name := "hebrewNext", fn := fun _ => fun
  | [d] => { results := [.lit (.bool true)], args := [d] }
  | _ => none }
def hebrewNextRow : OpenClaim := { program := "ytpoehjnhinapoaa", sum := "9ebba04a4974143b90f351c42376ab1ec151dcdae5ab831296cbc7e7ae9984d2", func := "civiltime/civiltimelaw07.HebrewNext", spec := "hebrewNext", apart := false }
def HebrewNextSaid : Prop := hebrewNextRow.holds Try.pinned (OpenSpec.ofChange hebrewNextSpec)

/-- ITS FALSE NEIGHBOUR: 'it returns false'. Refute it at one input. -/
def hebrewNextWrong : ChangeSpec := { name := "hebrewNext", fn := fun _ => fun
  | [d] => { results := [.lit (.bool false)], args := [d] }
  | _ => none }
def HebrewNextWrongFalsely : Prop := hebrewNextRow.holds Try.pinned (OpenSpec.ofChange hebrewNextWrong)

/-- 'civiltimelaw07.HebrewAnniversaries': WHATEVER THE INPUT: true; the input reads as it did. -/
def hebrewAnniversariesSpec : ChangeSpec := { name := "hebrewAnniversaries", fn := fun _ => fun
  | [d1, d2] => { results := [.lit (.bool true)], args := [d1, d2] }
  | _ => none }
def hebrewAnniversariesRow : OpenClaim := { program := "ytpoehjnhinapoaa", sum := "9ebba04a4974143b90f351c42376ab1ec151dcdae5ab831296cbc7e7ae9984d2", func := "civiltime/civiltimelaw07.HebrewAnniversaries", spec := "hebrewAnniversaries", apart := false }
def HebrewAnniversariesSaid : Prop := hebrewAnniversariesRow.holds Try.pinned (OpenSpec.ofChange hebrewAnniversariesSpec)

/-- ITS FALSE NEIGHBOUR: 'it returns false'. Refute it at one input. -/
def hebrewAnniversariesWrong : ChangeSpec := { name := "hebrewAnniversaries", fn := fun _ => fun
  | [d1, d2] => { results := [.lit (.bool false)], args := [d1, d2] }
  | _ => none }
def HebrewAnniversariesWrongFalsely : Prop := hebrewAnniversariesRow.holds Try.pinned (OpenSpec.ofChange hebrewAnniversariesWrong)

/-- 'civiltimelaw07.HebrewYearly': WHATEVER THE INPUT: true; the input reads as it did. -/
def hebrewYearlySpec : ChangeSpec := { name := "hebrewYearly", fn := fun _ => fun
  | [d1, d2] => { results := [.lit (.bool true)], args := [d1, d2] }
  | _ => none }
def hebrewYearlyRow : OpenClaim := { program := "ytpoehjnhinapoaa", sum := "9ebba04a4974143b90f351c42376ab1ec151dcdae5ab831296cbc7e7ae9984d2", func := "civiltime/civiltimelaw07.HebrewYearly", spec := "hebrewYearly", apart := false }
def HebrewYearlySaid : Prop := hebrewYearlyRow.holds Try.pinned (OpenSpec.ofChange hebrewYearlySpec)

/-- ITS FALSE NEIGHBOUR: 'it returns false'. Refute it at one input. -/
def hebrewYearlyWrong : ChangeSpec := { name := "hebrewYearly", fn := fun _ => fun
  | [d1, d2] => { results := [.lit (.bool false)], args := [d1, d2] }
  | _ => none }
def HebrewYearlyWrongFalsely : Prop := hebrewYearlyRow.holds Try.pinned (OpenSpec.ofChange hebrewYearlyWrong)

/- THE SECOND FORM. 'bulk': how many values and letters a reading holds, each counted each time it is reached (what is shared counts as often as it is met; a slice's spare places count too). A statement '..UptoSaid' is the law's where the arguments, and the package variables that the reading takes, are together of bulk at most 1048576: NARROWER than '..Said'. Prove '..Said' where nothing that the law and all that it calls make is longer than what came in: it says more and counts as full. Else prove '..UptoSaid'. A law counts once. -/
mutual
def uptoBulk {H : Type} : DataW H → Nat
  | .lit (.string bytes) => bytes.length + 1
  | .lit _ => 1
  | .nil => 1
  | .ptr d => uptoBulk d + 1
  | .slice elems spare => uptoBulkAll elems + uptoBulkAll spare + 1
  | .agg parts => uptoBulkAll parts + 1
  | .iface _ d => uptoBulk d + 1
  | .map entries => uptoBulkEntries entries + 1
  | .held _ => 1
def uptoBulkAll {H : Type} : List (DataW H) → Nat
  | [] => 0
  | d :: r => uptoBulk d + uptoBulkAll r
def uptoBulkEntries {H : Type} : List (Lit × DataW H) → Nat
  | [] => 0
  | x :: r => uptoBulkEntry x + uptoBulkEntries r
def uptoBulkEntry {H : Type} : Lit × DataW H → Nat
  | (.string bytes, d) => bytes.length + uptoBulk d + 1
  | (_, d) => uptoBulk d + 1
 end
def uptoSmall : (H : Type) → List (DataW H) → Bool := fun _ ds => decide (uptoBulkAll ds ≤ 1048576)
def OpenSpec.upto (s : _root_.Go.ChangeSpec) : _root_.Go.OpenSpec := { _root_.Go.OpenSpec.ofChange s with cond := some uptoSmall }

/-- 'civiltimelaw07.HebrewDays', WHERE WHAT IT READS IS OF BULK AT MOST 1048576: true; the input reads as it did. -/
def hebrewDaysUptoRow : OpenClaim := { program := "ytpoehjnhinapoaa", sum := "9ebba04a4974143b90f351c42376ab1ec151dcdae5ab831296cbc7e7ae9984d2", func := "civiltime/civiltimelaw07.HebrewDays", spec := "hebrewDays", apart := false, narrowed := true }
def HebrewDaysUptoSaid : Prop := hebrewDaysUptoRow.holds Try.pinned (OpenSpec.upto hebrewDaysSpec)

/-- 'civiltimelaw07.HebrewCycles', WHERE WHAT IT READS IS OF BULK AT MOST 1048576: true; the input reads as it did. -/
def hebrewCyclesUptoRow : OpenClaim := { program := "ytpoehjnhinapoaa", sum := "9ebba04a4974143b90f351c42376ab1ec151dcdae5ab831296cbc7e7ae9984d2", func := "civiltime/civiltimelaw07.HebrewCycles", spec := "hebrewCycles", apart := false, narrowed := true }
def HebrewCyclesUptoSaid : Prop := hebrewCyclesUptoRow.holds Try.pinned (OpenSpec.upto hebrewCyclesSpec)

/-- 'civiltimelaw07.HebrewYears', WHERE WHAT IT READS IS OF BULK AT MOST 1048576: true; the input reads as it did. -/
def hebrewYearsUptoRow : OpenClaim := { program := "ytpoehjnhinapoaa", sum := "9ebba04a4974143b90f351c42376ab1ec151dcdae5ab831296cbc7e7ae9984d2", func := "civiltime/civiltimelaw07.HebrewYears", spec := "hebrewYears", apart := false, narrowed := true }
def HebrewYearsUptoSaid : Prop := hebrewYearsUptoRow.holds Try.pinned (OpenSpec.upto hebrewYearsSpec)

/-- 'civiltimelaw07.HebrewNewYears', WHERE WHAT IT READS IS OF BULK AT MOST 1048576: true; the input reads as it did. -/
def hebrewNewYearsUptoRow : OpenClaim := { program := "ytpoehjnhinapoaa", sum := "9ebba04a4974143b90f351c42376ab1ec151dcdae5ab831296cbc7e7ae9984d2", func := "civiltime/civiltimelaw07.HebrewNewYears", spec := "hebrewNewYears", apart := false, narrowed := true }
def HebrewNewYearsUptoSaid : Prop := hebrewNewYearsUptoRow.holds Try.pinned (OpenSpec.upto hebrewNewYearsSpec)

/-- 'civiltimelaw07.HebrewMonths', WHERE WHAT IT READS IS OF BULK AT MOST 1048576: true; the input reads as it did. -/
def hebrewMonthsUptoRow : OpenClaim := { program := "ytpoehjnhinapoaa", sum := "9ebba04a4974143b90f351c42376ab1ec151dcdae5ab831296cbc7e7ae9984d2", func := "civiltime/civiltimelaw07.HebrewMonths", spec := "hebrewMonths", apart := false, narrowed := true }
def HebrewMonthsUptoSaid : Prop := hebrewMonthsUptoRow.holds Try.pinned (OpenSpec.upto hebrewMonthsSpec)

/-- 'civiltimelaw07.HebrewMolads', WHERE WHAT IT READS IS OF BULK AT MOST 1048576: true; the input reads as it did. -/
def hebrewMoladsUptoRow : OpenClaim := { program := "ytpoehjnhinapoaa", sum := "9ebba04a4974143b90f351c42376ab1ec151dcdae5ab831296cbc7e7ae9984d2", func := "civiltime/civiltimelaw07.HebrewMolads", spec := "hebrewMolads", apart := false, narrowed := true }
def HebrewMoladsUptoSaid : Prop := hebrewMoladsUptoRow.holds Try.pinned (OpenSpec.upto hebrewMoladsSpec)

/-- 'civiltimelaw07.HebrewDates', WHERE WHAT IT READS IS OF BULK AT MOST 1048576: true; the input reads as it did. -/
def hebrewDatesUptoRow : OpenClaim := { program := "ytpoehjnhinapoaa", sum := "9ebba04a4974143b90f351c42376ab1ec151dcdae5ab831296cbc7e7ae9984d2", func := "civiltime/civiltimelaw07.HebrewDates", spec := "hebrewDates", apart := false, narrowed := true }
def HebrewDatesUptoSaid : Prop := hebrewDatesUptoRow.holds Try.pinned (OpenSpec.upto hebrewDatesSpec)

/-- 'civiltimelaw07.HebrewBack', WHERE WHAT IT READS IS OF BULK AT MOST 1048576: true; the input reads as it did. -/
def hebrewBackUptoRow : OpenClaim := { program := "ytpoehjnhinapoaa", sum := "9ebba04a4974143b90f351c42376ab1ec151dcdae5ab831296cbc7e7ae9984d2", func := "civiltime/civiltimelaw07.HebrewBack", spec := "hebrewBack", apart := false, narrowed := true }
def HebrewBackUptoSaid : Prop := hebrewBackUptoRow.holds Try.pinned (OpenSpec.upto hebrewBackSpec)

/-- 'civiltimelaw07.HebrewNext', WHERE WHAT IT READS IS OF BULK AT MOST 1048576: true; the input reads as it did. -/
def hebrewNextUptoRow : OpenClaim := { program := "ytpoehjnhinapoaa", sum := "9ebba04a4974143b90f351c42376ab1ec151dcdae5ab831296cbc7e7ae9984d2", func := "civiltime/civiltimelaw07.HebrewNext", spec := "hebrewNext", apart := false, narrowed := true }
def HebrewNextUptoSaid : Prop := hebrewNextUptoRow.holds Try.pinned (OpenSpec.upto hebrewNextSpec)

/-- 'civiltimelaw07.HebrewAnniversaries', WHERE WHAT IT READS IS OF BULK AT MOST 1048576: true; the input reads as it did. -/
def hebrewAnniversariesUptoRow : OpenClaim := { program := "ytpoehjnhinapoaa", sum := "9ebba04a4974143b90f351c42376ab1ec151dcdae5ab831296cbc7e7ae9984d2", func := "civiltime/civiltimelaw07.HebrewAnniversaries", spec := "hebrewAnniversaries", apart := false, narrowed := true }
def HebrewAnniversariesUptoSaid : Prop := hebrewAnniversariesUptoRow.holds Try.pinned (OpenSpec.upto hebrewAnniversariesSpec)

/-- 'civiltimelaw07.HebrewYearly', WHERE WHAT IT READS IS OF BULK AT MOST 1048576: true; the input reads as it did. -/
def hebrewYearlyUptoRow : OpenClaim := { program := "ytpoehjnhinapoaa", sum := "9ebba04a4974143b90f351c42376ab1ec151dcdae5ab831296cbc7e7ae9984d2", func := "civiltime/civiltimelaw07.HebrewYearly", spec := "hebrewYearly", apart := false, narrowed := true }
def HebrewYearlyUptoSaid : Prop := hebrewYearlyUptoRow.holds Try.pinned (OpenSpec.upto hebrewYearlySpec)

end Rows
end Go.Proofs.Ytpoehjnhinapoaa
