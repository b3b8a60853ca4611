/-
  No cell of these rows narrows 'for every input' (looked for: loops, veiled, ifaces, maps, wideKeys, modest, calm, conditions, laid).
  DERIVED. THE GIVEN ROWS OF THIS SEAT. 9 by the template 'for every input the law returns true; each argument reads behind the call as it read before'; 0 by the template 'total and deterministic' (their statements: YtbfdmpjgdpglgaaTotals.lean).
  GIVEN WITH THE SEED: the statements are not yours to turn. If you find one false, say at which input.
  Laid BY PROGRAM, IN A SANDBOX (cutbox-rows.mjs): the forced cells as the released guide's own fill.sh prints them over the translation ea9557d2798ac92b… (all of the seat's roots in one cut). By AI agents, Wed Nov 11 2026. No macro, syntax, notation, axiom, sorry.
-/
import Derived.Test.YtbfdmpjgdpglgaaChecked
import GoSem.Claim
import GoSem.ClaimJoined
import GoSem.ClaimMapViews
import Derived.JoinedTies
import Derived.KernelRfl
namespace Go.Proofs.Ytbfdmpjgdpglgaa
/- THE CELL 'sum', in the pinned program and in every row, IS THE sha256 OF THE DUMP (.gsa) THAT YtbfdmpjgdpglgaaProg.lean LOADS. Nothing in Lean hashes anything: it is a label: what it is worth is what the hold of that sum in a sandbox is worth. -/
noncomputable def Try.pinned : Pinned := { name := "ytbfdmpjgdpglgaa", sum := "ea9557d2798ac92b7ac2e1b2953f1e4bb368a27f2025223209199e00dafdfdda", checked := Try.checked }
namespace Rows
def none {H : Type} : Left H := { results := [], args := [] }

/-- 'civiltimelaw06.IslamicDays': WHATEVER THE INPUT: true; the input reads as it did. -/
def islamicDaysSpec : ChangeSpec := { name := "islamicDays", fn := fun _ => fun
  | [d1, d2, d3] => { results := [.lit (.bool true)], args := [d1, d2, d3] }
  | _ => none }
def islamicDaysRow : OpenClaim := { program := "ytbfdmpjgdpglgaa", sum := "ea9557d2798ac92b7ac2e1b2953f1e4bb368a27f2025223209199e00dafdfdda", func := "civiltime/civiltimelaw06.IslamicDays", spec := "islamicDays", apart := false }
def IslamicDaysSaid : Prop := islamicDaysRow.holds Try.pinned (OpenSpec.ofChange islamicDaysSpec)

/-- ITS FALSE NEIGHBOUR: 'it returns false'. Refute it at one input. -/
def islamicDaysWrong : ChangeSpec := { name := "islamicDays", fn := fun _ => fun
  | [d1, d2, d3] => { results := [.lit (.bool false)], args := [d1, d2, d3] }
  | _ => none }
def IslamicDaysWrongFalsely : Prop := islamicDaysRow.holds Try.pinned (OpenSpec.ofChange islamicDaysWrong)

/-- 'civiltimelaw06.IslamicBack': WHATEVER THE INPUT: true; the input reads as it did. -/
def islamicBackSpec : ChangeSpec := { name := "islamicBack", fn := fun _ => fun
  | [d1, d2, d3] => { results := [.lit (.bool true)], args := [d1, d2, d3] }
  | _ => none }
def islamicBackRow : OpenClaim := { program := "ytbfdmpjgdpglgaa", sum := "ea9557d2798ac92b7ac2e1b2953f1e4bb368a27f2025223209199e00dafdfdda", func := "civiltime/civiltimelaw06.IslamicBack", spec := "islamicBack", apart := false }
def IslamicBackSaid : Prop := islamicBackRow.holds Try.pinned (OpenSpec.ofChange islamicBackSpec)

/-- ITS FALSE NEIGHBOUR: 'it returns false'. Refute it at one input. -/
def islamicBackWrong : ChangeSpec := { name := "islamicBack", fn := fun _ => fun
  | [d1, d2, d3] => { results := [.lit (.bool false)], args := [d1, d2, d3] }
  | _ => none }
def IslamicBackWrongFalsely : Prop := islamicBackRow.holds Try.pinned (OpenSpec.ofChange islamicBackWrong)

/-- 'civiltimelaw06.IslamicKinds': WHATEVER THE INPUT: true; the input reads as it did. -/
def islamicKindsSpec : ChangeSpec := { name := "islamicKinds", fn := fun _ => fun
  | [d1, d2, d3] => { results := [.lit (.bool true)], args := [d1, d2, d3] }
  | _ => none }
def islamicKindsRow : OpenClaim := { program := "ytbfdmpjgdpglgaa", sum := "ea9557d2798ac92b7ac2e1b2953f1e4bb368a27f2025223209199e00dafdfdda", func := "civiltime/civiltimelaw06.IslamicKinds", spec := "islamicKinds", apart := false }
def IslamicKindsSaid : Prop := islamicKindsRow.holds Try.pinned (OpenSpec.ofChange islamicKindsSpec)

/-- ITS FALSE NEIGHBOUR: 'it returns false'. Refute it at one input. -/
def islamicKindsWrong : ChangeSpec := { name := "islamicKinds", fn := fun _ => fun
  | [d1, d2, d3] => { results := [.lit (.bool false)], args := [d1, d2, d3] }
  | _ => none }
def IslamicKindsWrongFalsely : Prop := islamicKindsRow.holds Try.pinned (OpenSpec.ofChange islamicKindsWrong)

/-- 'civiltimelaw06.IslamicLengths': WHATEVER THE INPUT: true; the input reads as it did. -/
def islamicLengthsSpec : ChangeSpec := { name := "islamicLengths", fn := fun _ => fun
  | [d1, d2, d3] => { results := [.lit (.bool true)], args := [d1, d2, d3] }
  | _ => none }
def islamicLengthsRow : OpenClaim := { program := "ytbfdmpjgdpglgaa", sum := "ea9557d2798ac92b7ac2e1b2953f1e4bb368a27f2025223209199e00dafdfdda", func := "civiltime/civiltimelaw06.IslamicLengths", spec := "islamicLengths", apart := false }
def IslamicLengthsSaid : Prop := islamicLengthsRow.holds Try.pinned (OpenSpec.ofChange islamicLengthsSpec)

/-- ITS FALSE NEIGHBOUR: 'it returns false'. Refute it at one input. -/
def islamicLengthsWrong : ChangeSpec := { name := "islamicLengths", fn := fun _ => fun
  | [d1, d2, d3] => { results := [.lit (.bool false)], args := [d1, d2, d3] }
  | _ => none }
def IslamicLengthsWrongFalsely : Prop := islamicLengthsRow.holds Try.pinned (OpenSpec.ofChange islamicLengthsWrong)

/-- 'civiltimelaw06.IslamicCycle': WHATEVER THE INPUT: true; the input reads as it did. -/
def islamicCycleSpec : ChangeSpec := { name := "islamicCycle", fn := fun _ => fun
  | [d1, d2] => { results := [.lit (.bool true)], args := [d1, d2] }
  | _ => none }
def islamicCycleRow : OpenClaim := { program := "ytbfdmpjgdpglgaa", sum := "ea9557d2798ac92b7ac2e1b2953f1e4bb368a27f2025223209199e00dafdfdda", func := "civiltime/civiltimelaw06.IslamicCycle", spec := "islamicCycle", apart := false }
def IslamicCycleSaid : Prop := islamicCycleRow.holds Try.pinned (OpenSpec.ofChange islamicCycleSpec)

/-- ITS FALSE NEIGHBOUR: 'it returns false'. Refute it at one input. -/
def islamicCycleWrong : ChangeSpec := { name := "islamicCycle", fn := fun _ => fun
  | [d1, d2] => { results := [.lit (.bool false)], args := [d1, d2] }
  | _ => none }
def IslamicCycleWrongFalsely : Prop := islamicCycleRow.holds Try.pinned (OpenSpec.ofChange islamicCycleWrong)

/-- 'civiltimelaw06.IslamicGranules': WHATEVER THE INPUT: true; the input reads as it did. -/
def islamicGranulesSpec : ChangeSpec := { name := "islamicGranules", fn := fun _ => fun
  | [d1, d2, d3, d4] => { results := [.lit (.bool true)], args := [d1, d2, d3, d4] }
  | _ => none }
def islamicGranulesRow : OpenClaim := { program := "ytbfdmpjgdpglgaa", sum := "ea9557d2798ac92b7ac2e1b2953f1e4bb368a27f2025223209199e00dafdfdda", func := "civiltime/civiltimelaw06.IslamicGranules", spec := "islamicGranules", apart := false }
def IslamicGranulesSaid : Prop := islamicGranulesRow.holds Try.pinned (OpenSpec.ofChange islamicGranulesSpec)

/-- ITS FALSE NEIGHBOUR: 'it returns false'. Refute it at one input. -/
def islamicGranulesWrong : ChangeSpec := { name := "islamicGranules", fn := fun _ => fun
  | [d1, d2, d3, d4] => { results := [.lit (.bool false)], args := [d1, d2, d3, d4] }
  | _ => none }
def IslamicGranulesWrongFalsely : Prop := islamicGranulesRow.holds Try.pinned (OpenSpec.ofChange islamicGranulesWrong)

/-- 'civiltimelaw06.IslamicMonths': WHATEVER THE INPUT: true; the input reads as it did. -/
def islamicMonthsSpec : ChangeSpec := { name := "islamicMonths", fn := fun _ => fun
  | [d1, d2, d3] => { results := [.lit (.bool true)], args := [d1, d2, d3] }
  | _ => none }
def islamicMonthsRow : OpenClaim := { program := "ytbfdmpjgdpglgaa", sum := "ea9557d2798ac92b7ac2e1b2953f1e4bb368a27f2025223209199e00dafdfdda", func := "civiltime/civiltimelaw06.IslamicMonths", spec := "islamicMonths", apart := false }
def IslamicMonthsSaid : Prop := islamicMonthsRow.holds Try.pinned (OpenSpec.ofChange islamicMonthsSpec)

/-- ITS FALSE NEIGHBOUR: 'it returns false'. Refute it at one input. -/
def islamicMonthsWrong : ChangeSpec := { name := "islamicMonths", fn := fun _ => fun
  | [d1, d2, d3] => { results := [.lit (.bool false)], args := [d1, d2, d3] }
  | _ => none }
def IslamicMonthsWrongFalsely : Prop := islamicMonthsRow.holds Try.pinned (OpenSpec.ofChange islamicMonthsWrong)

/-- 'civiltimelaw06.IslamicMoved': WHATEVER THE INPUT: true; the input reads as it did. -/
def islamicMovedSpec : ChangeSpec := { name := "islamicMoved", fn := fun _ => fun
  | [d1, d2, d3] => { results := [.lit (.bool true)], args := [d1, d2, d3] }
  | _ => none }
def islamicMovedRow : OpenClaim := { program := "ytbfdmpjgdpglgaa", sum := "ea9557d2798ac92b7ac2e1b2953f1e4bb368a27f2025223209199e00dafdfdda", func := "civiltime/civiltimelaw06.IslamicMoved", spec := "islamicMoved", apart := false }
def IslamicMovedSaid : Prop := islamicMovedRow.holds Try.pinned (OpenSpec.ofChange islamicMovedSpec)

/-- ITS FALSE NEIGHBOUR: 'it returns false'. Refute it at one input. -/
def islamicMovedWrong : ChangeSpec := { name := "islamicMoved", fn := fun _ => fun
  | [d1, d2, d3] => { results := [.lit (.bool false)], args := [d1, d2, d3] }
  | _ => none }
def IslamicMovedWrongFalsely : Prop := islamicMovedRow.holds Try.pinned (OpenSpec.ofChange islamicMovedWrong)

/-- 'civiltimelaw06.IslamicWanders': WHATEVER THE INPUT: true; the input reads as it did. -/
def islamicWandersSpec : ChangeSpec := { name := "islamicWanders", fn := fun _ => fun
  | [d1, d2, d3] => { results := [.lit (.bool true)], args := [d1, d2, d3] }
  | _ => none }
def islamicWandersRow : OpenClaim := { program := "ytbfdmpjgdpglgaa", sum := "ea9557d2798ac92b7ac2e1b2953f1e4bb368a27f2025223209199e00dafdfdda", func := "civiltime/civiltimelaw06.IslamicWanders", spec := "islamicWanders", apart := false }
def IslamicWandersSaid : Prop := islamicWandersRow.holds Try.pinned (OpenSpec.ofChange islamicWandersSpec)

/-- ITS FALSE NEIGHBOUR: 'it returns false'. Refute it at one input. -/
def islamicWandersWrong : ChangeSpec := { name := "islamicWanders", fn := fun _ => fun
  | [d1, d2, d3] => { results := [.lit (.bool false)], args := [d1, d2, d3] }
  | _ => none }
def IslamicWandersWrongFalsely : Prop := islamicWandersRow.holds Try.pinned (OpenSpec.ofChange islamicWandersWrong)

/- THE SECOND FORM. 'bulk': how many values and letters a reading holds, each counted each time it is reached (what is shared counts as often as it is met; a slice's spare places count too). A statement '..UptoSaid' is the law's where the arguments, and the package variables that the reading takes, are together of bulk at most 1048576: NARROWER than '..Said'. Prove '..Said' where nothing that the law and all that it calls make is longer than what came in: it says more and counts as full. Else prove '..UptoSaid'. A law counts once. -/
mutual
def uptoBulk {H : Type} : DataW H → Nat
  | .lit (.string bytes) => bytes.length + 1
  | .lit _ => 1
  | .nil => 1
  | .ptr d => uptoBulk d + 1
  | .slice elems spare => uptoBulkAll elems + uptoBulkAll spare + 1
  | .agg parts => uptoBulkAll parts + 1
  | .iface _ d => uptoBulk d + 1
  | .map entries => uptoBulkEntries entries + 1
  | .held _ => 1
def uptoBulkAll {H : Type} : List (DataW H) → Nat
  | [] => 0
  | d :: r => uptoBulk d + uptoBulkAll r
def uptoBulkEntries {H : Type} : List (Lit × DataW H) → Nat
  | [] => 0
  | x :: r => uptoBulkEntry x + uptoBulkEntries r
def uptoBulkEntry {H : Type} : Lit × DataW H → Nat
  | (.string bytes, d) => bytes.length + uptoBulk d + 1
  | (_, d) => uptoBulk d + 1
 end
def uptoSmall : (H : Type) → List (DataW H) → Bool := fun _ ds => decide (uptoBulkAll ds ≤ 1048576)
def OpenSpec.upto (s : _root_.Go.ChangeSpec) : _root_.Go.OpenSpec := { _root_.Go.OpenSpec.ofChange s with cond := some uptoSmall }

/-- 'civiltimelaw06.IslamicDays', WHERE WHAT IT READS IS OF BULK AT MOST 1048576: true; the input reads as it did. -/
def islamicDaysUptoRow : OpenClaim := { program := "ytbfdmpjgdpglgaa", sum := "ea9557d2798ac92b7ac2e1b2953f1e4bb368a27f2025223209199e00dafdfdda", func := "civiltime/civiltimelaw06.IslamicDays", spec := "islamicDays", apart := false, narrowed := true }
def IslamicDaysUptoSaid : Prop := islamicDaysUptoRow.holds Try.pinned (OpenSpec.upto islamicDaysSpec)

/-- 'civiltimelaw06.IslamicBack', WHERE WHAT IT READS IS OF BULK AT MOST 1048576: true; the input reads as it did. -/
def islamicBackUptoRow : OpenClaim := { program := "ytbfdmpjgdpglgaa", sum := "ea9557d2798ac92b7ac2e1b2953f1e4bb368a27f2025223209199e00dafdfdda", func := "civiltime/civiltimelaw06.IslamicBack", spec := "islamicBack", apart := false, narrowed := true }
def IslamicBackUptoSaid : Prop := islamicBackUptoRow.holds Try.pinned (OpenSpec.upto islamicBackSpec)

/-- 'civiltimelaw06.IslamicKinds', WHERE WHAT IT READS IS OF BULK AT MOST 1048576: true; the input reads as it did. -/
def islamicKindsUptoRow : OpenClaim := { program := "ytbfdmpjgdpglgaa", sum := "ea9557d2798ac92b7ac2e1b2953f1e4bb368a27f2025223209199e00dafdfdda", func := "civiltime/civiltimelaw06.IslamicKinds", spec := "islamicKinds", apart := false, narrowed := true }
def IslamicKindsUptoSaid : Prop := islamicKindsUptoRow.holds Try.pinned (OpenSpec.upto islamicKindsSpec)

/-- 'civiltimelaw06.IslamicLengths', WHERE WHAT IT READS IS OF BULK AT MOST 1048576: true; the input reads as it did. -/
def islamicLengthsUptoRow : OpenClaim := { program := "ytbfdmpjgdpglgaa", sum := "ea9557d2798ac92b7ac2e1b2953f1e4bb368a27f2025223209199e00dafdfdda", func := "civiltime/civiltimelaw06.IslamicLengths", spec := "islamicLengths", apart := false, narrowed := true }
def IslamicLengthsUptoSaid : Prop := islamicLengthsUptoRow.holds Try.pinned (OpenSpec.upto islamicLengthsSpec)

/-- 'civiltimelaw06.IslamicCycle', WHERE WHAT IT READS IS OF BULK AT MOST 1048576: true; the input reads as it did. -/
def islamicCycleUptoRow : OpenClaim := { program := "ytbfdmpjgdpglgaa", sum := "ea9557d2798ac92b7ac2e1b2953f1e4bb368a27f2025223209199e00dafdfdda", func := "civiltime/civiltimelaw06.IslamicCycle", spec := "islamicCycle", apart := false, narrowed := true }
def IslamicCycleUptoSaid : Prop := islamicCycleUptoRow.holds Try.pinned (OpenSpec.upto islamicCycleSpec)

/-- 'civiltimelaw06.IslamicGranules', WHERE WHAT IT READS IS OF BULK AT MOST 1048576: true; the input reads as it did. -/
def islamicGranulesUptoRow : OpenClaim := { program := "ytbfdmpjgdpglgaa", sum := "ea9557d2798ac92b7ac2e1b2953f1e4bb368a27f2025223209199e00dafdfdda", func := "civiltime/civiltimelaw06.IslamicGranules", spec := "islamicGranules", apart := false, narrowed := true }
def IslamicGranulesUptoSaid : Prop := islamicGranulesUptoRow.holds Try.pinned (OpenSpec.upto islamicGranulesSpec)

/-- 'civiltimelaw06.IslamicMonths', WHERE WHAT IT READS IS OF BULK AT MOST 1048576: true; the input reads as it did. -/
def islamicMonthsUptoRow : OpenClaim := { program := "ytbfdmpjgdpglgaa", sum := "ea9557d2798ac92b7ac2e1b2953f1e4bb368a27f2025223209199e00dafdfdda", func := "civiltime/civiltimelaw06.IslamicMonths", spec := "islamicMonths", apart := false, narrowed := true }
def IslamicMonthsUptoSaid : Prop := islamicMonthsUptoRow.holds Try.pinned (OpenSpec.upto islamicMonthsSpec)

/-- 'civiltimelaw06.IslamicMoved', WHERE WHAT IT READS IS OF BULK AT MOST 1048576: true; the input reads as it did. -/
def islamicMovedUptoRow : OpenClaim := { program := "ytbfdmpjgdpglgaa", sum := "ea9557d2798ac92b7ac2e1b2953f1e4bb368a27f2025223209199e00dafdfdda", func := "civiltime/civiltimelaw06.IslamicMoved", spec := "islamicMoved", apart := false, narrowed := true }
def IslamicMovedUptoSaid : Prop := islamicMovedUptoRow.holds Try.pinned (OpenSpec.upto islamicMovedSpec)

/-- 'civiltimelaw06.IslamicWanders', WHERE WHAT IT READS IS OF BULK AT MOST 1048576: true; the input reads as it did. -/
def islamicWandersUptoRow : OpenClaim := { program := "ytbfdmpjgdpglgaa", sum := "ea9557d2798ac92b7ac2e1b2953f1e4bb368a27f2025223209199e00dafdfdda", func := "civiltime/civiltimelaw06.IslamicWanders", spec := "islamicWanders", apart := false, narrowed := true }
def IslamicWandersUptoSaid : Prop := islamicWandersUptoRow.holds Try.pinned (OpenSpec.upto islamicWandersSpec)

end Rows
end Go.Proofs.Ytbfdmpjgdpglgaa
