/-
  No cell of these rows narrows 'for every input' (looked for: loops, veiled, ifaces, maps, wideKeys, modest, calm, conditions, laid).
  DERIVED. THE GIVEN ROWS OF THIS SEAT. 9 by the template 'for every input the law returns true; each argument reads behind the call as it read before'; 0 by the template 'total and deterministic' (their statements: YtajpbajffmiceaaTotals.lean).
  GIVEN WITH THE SEED: the statements are not yours to turn. If you find one false, say at which input.
  Laid BY PROGRAM, IN A SANDBOX (cutbox-rows.mjs): the forced cells as the released guide's own fill.sh prints them over the translation 589025bb9cf068ca… (all of the seat's roots in one cut). By AI agents, Wed Nov 11 2026. No macro, syntax, notation, axiom, sorry.
-/
import Derived.Test.YtajpbajffmiceaaChecked
import GoSem.Claim
import GoSem.ClaimJoined
import GoSem.ClaimMapViews
import Derived.JoinedTies
import Derived.KernelRfl
namespace Go.Proofs.Ytajpbajffmiceaa
/- THE CELL 'sum', in the pinned program and in every row, IS THE sha256 OF THE DUMP (.gsa) THAT YtajpbajffmiceaaProg.lean LOADS. Nothing in Lean hashes anything: it is a label: what it is worth is what the hold of that sum in a sandbox is worth. -/
noncomputable def Try.pinned : Pinned := { name := "ytajpbajffmiceaa", sum := "589025bb9cf068ca1807241f18d1755b41fa116e48a7601f7fbe96565f24003a", checked := Try.checked }
namespace Rows
def none {H : Type} : Left H := { results := [], args := [] }

/-- 'civiltimelaw03.WeekDates': WHATEVER THE INPUT: true; the input reads as it did. -/
def weekDatesSpec : ChangeSpec := { name := "weekDates", fn := fun _ => fun
  | [d1, d2] => { results := [.lit (.bool true)], args := [d1, d2] }
  | _ => none }
def weekDatesRow : OpenClaim := { program := "ytajpbajffmiceaa", sum := "589025bb9cf068ca1807241f18d1755b41fa116e48a7601f7fbe96565f24003a", func := "civiltime/civiltimelaw03.WeekDates", spec := "weekDates", apart := false }
def WeekDatesSaid : Prop := weekDatesRow.holds Try.pinned (OpenSpec.ofChange weekDatesSpec)

/-- ITS FALSE NEIGHBOUR: 'it returns false'. Refute it at one input. -/
def weekDatesWrong : ChangeSpec := { name := "weekDates", fn := fun _ => fun
  | [d1, d2] => { results := [.lit (.bool false)], args := [d1, d2] }
  | _ => none }
def WeekDatesWrongFalsely : Prop := weekDatesRow.holds Try.pinned (OpenSpec.ofChange weekDatesWrong)

/-- 'civiltimelaw03.WeekYears': WHATEVER THE INPUT: true; the input reads as it did. -/
def weekYearsSpec : ChangeSpec := { name := "weekYears", fn := fun _ => fun
  | [d1, d2] => { results := [.lit (.bool true)], args := [d1, d2] }
  | _ => none }
def weekYearsRow : OpenClaim := { program := "ytajpbajffmiceaa", sum := "589025bb9cf068ca1807241f18d1755b41fa116e48a7601f7fbe96565f24003a", func := "civiltime/civiltimelaw03.WeekYears", spec := "weekYears", apart := false }
def WeekYearsSaid : Prop := weekYearsRow.holds Try.pinned (OpenSpec.ofChange weekYearsSpec)

/-- ITS FALSE NEIGHBOUR: 'it returns false'. Refute it at one input. -/
def weekYearsWrong : ChangeSpec := { name := "weekYears", fn := fun _ => fun
  | [d1, d2] => { results := [.lit (.bool false)], args := [d1, d2] }
  | _ => none }
def WeekYearsWrongFalsely : Prop := weekYearsRow.holds Try.pinned (OpenSpec.ofChange weekYearsWrong)

/-- 'civiltimelaw03.WeekNext': WHATEVER THE INPUT: true; the input reads as it did. -/
def weekNextSpec : ChangeSpec := { name := "weekNext", fn := fun _ => fun
  | [d1, d2] => { results := [.lit (.bool true)], args := [d1, d2] }
  | _ => none }
def weekNextRow : OpenClaim := { program := "ytajpbajffmiceaa", sum := "589025bb9cf068ca1807241f18d1755b41fa116e48a7601f7fbe96565f24003a", func := "civiltime/civiltimelaw03.WeekNext", spec := "weekNext", apart := false }
def WeekNextSaid : Prop := weekNextRow.holds Try.pinned (OpenSpec.ofChange weekNextSpec)

/-- ITS FALSE NEIGHBOUR: 'it returns false'. Refute it at one input. -/
def weekNextWrong : ChangeSpec := { name := "weekNext", fn := fun _ => fun
  | [d1, d2] => { results := [.lit (.bool false)], args := [d1, d2] }
  | _ => none }
def WeekNextWrongFalsely : Prop := weekNextRow.holds Try.pinned (OpenSpec.ofChange weekNextWrong)

/-- 'civiltimelaw03.WeekOrdinals': WHATEVER THE INPUT: true; the input reads as it did. -/
def weekOrdinalsSpec : ChangeSpec := { name := "weekOrdinals", fn := fun _ => fun
  | [d1, d2, d3] => { results := [.lit (.bool true)], args := [d1, d2, d3] }
  | _ => none }
def weekOrdinalsRow : OpenClaim := { program := "ytajpbajffmiceaa", sum := "589025bb9cf068ca1807241f18d1755b41fa116e48a7601f7fbe96565f24003a", func := "civiltime/civiltimelaw03.WeekOrdinals", spec := "weekOrdinals", apart := false }
def WeekOrdinalsSaid : Prop := weekOrdinalsRow.holds Try.pinned (OpenSpec.ofChange weekOrdinalsSpec)

/-- ITS FALSE NEIGHBOUR: 'it returns false'. Refute it at one input. -/
def weekOrdinalsWrong : ChangeSpec := { name := "weekOrdinals", fn := fun _ => fun
  | [d1, d2, d3] => { results := [.lit (.bool false)], args := [d1, d2, d3] }
  | _ => none }
def WeekOrdinalsWrongFalsely : Prop := weekOrdinalsRow.holds Try.pinned (OpenSpec.ofChange weekOrdinalsWrong)

/-- 'civiltimelaw03.WeekMinimal': WHATEVER THE INPUT: true; the input reads as it did. -/
def weekMinimalSpec : ChangeSpec := { name := "weekMinimal", fn := fun _ => fun
  | [d1, d2, d3] => { results := [.lit (.bool true)], args := [d1, d2, d3] }
  | _ => none }
def weekMinimalRow : OpenClaim := { program := "ytajpbajffmiceaa", sum := "589025bb9cf068ca1807241f18d1755b41fa116e48a7601f7fbe96565f24003a", func := "civiltime/civiltimelaw03.WeekMinimal", spec := "weekMinimal", apart := false }
def WeekMinimalSaid : Prop := weekMinimalRow.holds Try.pinned (OpenSpec.ofChange weekMinimalSpec)

/-- ITS FALSE NEIGHBOUR: 'it returns false'. Refute it at one input. -/
def weekMinimalWrong : ChangeSpec := { name := "weekMinimal", fn := fun _ => fun
  | [d1, d2, d3] => { results := [.lit (.bool false)], args := [d1, d2, d3] }
  | _ => none }
def WeekMinimalWrongFalsely : Prop := weekMinimalRow.holds Try.pinned (OpenSpec.ofChange weekMinimalWrong)

/-- 'civiltimelaw03.WeekDays': WHATEVER THE INPUT: true; the input reads as it did. -/
def weekDaysSpec : ChangeSpec := { name := "weekDays", fn := fun _ => fun
  | [d1, d2] => { results := [.lit (.bool true)], args := [d1, d2] }
  | _ => none }
def weekDaysRow : OpenClaim := { program := "ytajpbajffmiceaa", sum := "589025bb9cf068ca1807241f18d1755b41fa116e48a7601f7fbe96565f24003a", func := "civiltime/civiltimelaw03.WeekDays", spec := "weekDays", apart := false }
def WeekDaysSaid : Prop := weekDaysRow.holds Try.pinned (OpenSpec.ofChange weekDaysSpec)

/-- ITS FALSE NEIGHBOUR: 'it returns false'. Refute it at one input. -/
def weekDaysWrong : ChangeSpec := { name := "weekDays", fn := fun _ => fun
  | [d1, d2] => { results := [.lit (.bool false)], args := [d1, d2] }
  | _ => none }
def WeekDaysWrongFalsely : Prop := weekDaysRow.holds Try.pinned (OpenSpec.ofChange weekDaysWrong)

/-- 'civiltimelaw03.WeekTexts': WHATEVER THE INPUT: true; the input reads as it did. -/
def weekTextsSpec : ChangeSpec := { name := "weekTexts", fn := fun _ => fun
  | [d1, d2] => { results := [.lit (.bool true)], args := [d1, d2] }
  | _ => none }
def weekTextsRow : OpenClaim := { program := "ytajpbajffmiceaa", sum := "589025bb9cf068ca1807241f18d1755b41fa116e48a7601f7fbe96565f24003a", func := "civiltime/civiltimelaw03.WeekTexts", spec := "weekTexts", apart := false }
def WeekTextsSaid : Prop := weekTextsRow.holds Try.pinned (OpenSpec.ofChange weekTextsSpec)

/-- ITS FALSE NEIGHBOUR: 'it returns false'. Refute it at one input. -/
def weekTextsWrong : ChangeSpec := { name := "weekTexts", fn := fun _ => fun
  | [d1, d2] => { results := [.lit (.bool false)], args := [d1, d2] }
  | _ => none }
def WeekTextsWrongFalsely : Prop := weekTextsRow.holds Try.pinned (OpenSpec.ofChange weekTextsWrong)

/-- 'civiltimelaw03.WeekParses': WHATEVER THE INPUT: true; the input reads as it did. -/
def weekParsesSpec : ChangeSpec := { name := "weekParses", fn := fun _ => fun
  | [d1, d2] => { results := [.lit (.bool true)], args := [d1, d2] }
  | _ => none }
def weekParsesRow : OpenClaim := { program := "ytajpbajffmiceaa", sum := "589025bb9cf068ca1807241f18d1755b41fa116e48a7601f7fbe96565f24003a", func := "civiltime/civiltimelaw03.WeekParses", spec := "weekParses", apart := false }
def WeekParsesSaid : Prop := weekParsesRow.holds Try.pinned (OpenSpec.ofChange weekParsesSpec)

/-- ITS FALSE NEIGHBOUR: 'it returns false'. Refute it at one input. -/
def weekParsesWrong : ChangeSpec := { name := "weekParses", fn := fun _ => fun
  | [d1, d2] => { results := [.lit (.bool false)], args := [d1, d2] }
  | _ => none }
def WeekParsesWrongFalsely : Prop := weekParsesRow.holds Try.pinned (OpenSpec.ofChange weekParsesWrong)

/-- 'civiltimelaw03.WeekBack': WHATEVER THE INPUT: true; the input reads as it did. -/
def weekBackSpec : ChangeSpec := { name := "weekBack", fn := fun _ => fun
  | [d1, d2, d3] => { results := [.lit (.bool true)], args := [d1, d2, d3] }
  | _ => none }
def weekBackRow : OpenClaim := { program := "ytajpbajffmiceaa", sum := "589025bb9cf068ca1807241f18d1755b41fa116e48a7601f7fbe96565f24003a", func := "civiltime/civiltimelaw03.WeekBack", spec := "weekBack", apart := false }
def WeekBackSaid : Prop := weekBackRow.holds Try.pinned (OpenSpec.ofChange weekBackSpec)

/-- ITS FALSE NEIGHBOUR: 'it returns false'. Refute it at one input. -/
def weekBackWrong : ChangeSpec := { name := "weekBack", fn := fun _ => fun
  | [d1, d2, d3] => { results := [.lit (.bool false)], args := [d1, d2, d3] }
  | _ => none }
def WeekBackWrongFalsely : Prop := weekBackRow.holds Try.pinned (OpenSpec.ofChange weekBackWrong)

/- THE SECOND FORM. 'bulk': how many values and letters a reading holds, each counted each time it is reached (what is shared counts as often as it is met; a slice's spare places count too). A statement '..UptoSaid' is the law's where the arguments, and the package variables that the reading takes, are together of bulk at most 1048576: NARROWER than '..Said'. Prove '..Said' where nothing that the law and all that it calls make is longer than what came in: it says more and counts as full. Else prove '..UptoSaid'. A law counts once. -/
mutual
def uptoBulk {H : Type} : DataW H → Nat
  | .lit (.string bytes) => bytes.length + 1
  | .lit _ => 1
  | .nil => 1
  | .ptr d => uptoBulk d + 1
  | .slice elems spare => uptoBulkAll elems + uptoBulkAll spare + 1
  | .agg parts => uptoBulkAll parts + 1
  | .iface _ d => uptoBulk d + 1
  | .map entries => uptoBulkEntries entries + 1
  | .held _ => 1
def uptoBulkAll {H : Type} : List (DataW H) → Nat
  | [] => 0
  | d :: r => uptoBulk d + uptoBulkAll r
def uptoBulkEntries {H : Type} : List (Lit × DataW H) → Nat
  | [] => 0
  | x :: r => uptoBulkEntry x + uptoBulkEntries r
def uptoBulkEntry {H : Type} : Lit × DataW H → Nat
  | (.string bytes, d) => bytes.length + uptoBulk d + 1
  | (_, d) => uptoBulk d + 1
 end
def uptoSmall : (H : Type) → List (DataW H) → Bool := fun _ ds => decide (uptoBulkAll ds ≤ 1048576)
def OpenSpec.upto (s : _root_.Go.ChangeSpec) : _root_.Go.OpenSpec := { _root_.Go.OpenSpec.ofChange s with cond := some uptoSmall }

/-- 'civiltimelaw03.WeekDates', WHERE WHAT IT READS IS OF BULK AT MOST 1048576: true; the input reads as it did. -/
def weekDatesUptoRow : OpenClaim := { program := "ytajpbajffmiceaa", sum := "589025bb9cf068ca1807241f18d1755b41fa116e48a7601f7fbe96565f24003a", func := "civiltime/civiltimelaw03.WeekDates", spec := "weekDates", apart := false, narrowed := true }
def WeekDatesUptoSaid : Prop := weekDatesUptoRow.holds Try.pinned (OpenSpec.upto weekDatesSpec)

/-- 'civiltimelaw03.WeekYears', WHERE WHAT IT READS IS OF BULK AT MOST 1048576: true; the input reads as it did. -/
def weekYearsUptoRow : OpenClaim := { program := "ytajpbajffmiceaa", sum := "589025bb9cf068ca1807241f18d1755b41fa116e48a7601f7fbe96565f24003a", func := "civiltime/civiltimelaw03.WeekYears", spec := "weekYears", apart := false, narrowed := true }
def WeekYearsUptoSaid : Prop := weekYearsUptoRow.holds Try.pinned (OpenSpec.upto weekYearsSpec)

/-- 'civiltimelaw03.WeekNext', WHERE WHAT IT READS IS OF BULK AT MOST 1048576: true; the input reads as it did. -/
def weekNextUptoRow : OpenClaim := { program := "ytajpbajffmiceaa", sum := "589025bb9cf068ca1807241f18d1755b41fa116e48a7601f7fbe96565f24003a", func := "civiltime/civiltimelaw03.WeekNext", spec := "weekNext", apart := false, narrowed := true }
def WeekNextUptoSaid : Prop := weekNextUptoRow.holds Try.pinned (OpenSpec.upto weekNextSpec)

/-- 'civiltimelaw03.WeekOrdinals', WHERE WHAT IT READS IS OF BULK AT MOST 1048576: true; the input reads as it did. -/
def weekOrdinalsUptoRow : OpenClaim := { program := "ytajpbajffmiceaa", sum := "589025bb9cf068ca1807241f18d1755b41fa116e48a7601f7fbe96565f24003a", func := "civiltime/civiltimelaw03.WeekOrdinals", spec := "weekOrdinals", apart := false, narrowed := true }
def WeekOrdinalsUptoSaid : Prop := weekOrdinalsUptoRow.holds Try.pinned (OpenSpec.upto weekOrdinalsSpec)

/-- 'civiltimelaw03.WeekMinimal', WHERE WHAT IT READS IS OF BULK AT MOST 1048576: true; the input reads as it did. -/
def weekMinimalUptoRow : OpenClaim := { program := "ytajpbajffmiceaa", sum := "589025bb9cf068ca1807241f18d1755b41fa116e48a7601f7fbe96565f24003a", func := "civiltime/civiltimelaw03.WeekMinimal", spec := "weekMinimal", apart := false, narrowed := true }
def WeekMinimalUptoSaid : Prop := weekMinimalUptoRow.holds Try.pinned (OpenSpec.upto weekMinimalSpec)

/-- 'civiltimelaw03.WeekDays', WHERE WHAT IT READS IS OF BULK AT MOST 1048576: true; the input reads as it did. -/
def weekDaysUptoRow : OpenClaim := { program := "ytajpbajffmiceaa", sum := "589025bb9cf068ca1807241f18d1755b41fa116e48a7601f7fbe96565f24003a", func := "civiltime/civiltimelaw03.WeekDays", spec := "weekDays", apart := false, narrowed := true }
def WeekDaysUptoSaid : Prop := weekDaysUptoRow.holds Try.pinned (OpenSpec.upto weekDaysSpec)

/-- 'civiltimelaw03.WeekTexts', WHERE WHAT IT READS IS OF BULK AT MOST 1048576: true; the input reads as it did. -/
def weekTextsUptoRow : OpenClaim := { program := "ytajpbajffmiceaa", sum := "589025bb9cf068ca1807241f18d1755b41fa116e48a7601f7fbe96565f24003a", func := "civiltime/civiltimelaw03.WeekTexts", spec := "weekTexts", apart := false, narrowed := true }
def WeekTextsUptoSaid : Prop := weekTextsUptoRow.holds Try.pinned (OpenSpec.upto weekTextsSpec)

/-- 'civiltimelaw03.WeekParses', WHERE WHAT IT READS IS OF BULK AT MOST 1048576: true; the input reads as it did. -/
def weekParsesUptoRow : OpenClaim := { program := "ytajpbajffmiceaa", sum := "589025bb9cf068ca1807241f18d1755b41fa116e48a7601f7fbe96565f24003a", func := "civiltime/civiltimelaw03.WeekParses", spec := "weekParses", apart := false, narrowed := true }
def WeekParsesUptoSaid : Prop := weekParsesUptoRow.holds Try.pinned (OpenSpec.upto weekParsesSpec)

/-- 'civiltimelaw03.WeekBack', WHERE WHAT IT READS IS OF BULK AT MOST 1048576: true; the input reads as it did. -/
def weekBackUptoRow : OpenClaim := { program := "ytajpbajffmiceaa", sum := "589025bb9cf068ca1807241f18d1755b41fa116e48a7601f7fbe96565f24003a", func := "civiltime/civiltimelaw03.WeekBack", spec := "weekBack", apart := false, narrowed := true }
def WeekBackUptoSaid : Prop := weekBackUptoRow.holds Try.pinned (OpenSpec.upto weekBackSpec)

end Rows
end Go.Proofs.Ytajpbajffmiceaa
