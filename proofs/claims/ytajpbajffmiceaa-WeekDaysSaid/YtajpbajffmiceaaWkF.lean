/- The reference's Day where the week or the weekday is none: two ways of one test. No conditions. -/
import Derived.Test.YtajpbajffmiceaaWkE
namespace Go.Proofs.Ytajpbajffmiceaa
open Go.ChangeShapes Go.WideShapes Go.ChangeAt Go.RowKit

set_option maxHeartbeats 8000000 in
theorem rwday_5 (f mi y k d : Int) (w : World) (hr : Wk.rB f mi = true) (y1 : 1 ≤ y) (y2 : y ≤ 9999) (c : Int) (hc : Wk.wks f mi y = c) (q : decide (y < 1) = false) (q2 : decide (y > 9999) = false) (q3 : decide (k < 1) = false) (q4 : decide (k > 60) = false) (q5 : decide (k > c) = true) :
    Calls Try.prog 29 #[.agg #[.int .i64 f, .int .i64 mi], .agg #[.int .i64 y, .int .i64 k, .int .i64 d]] w fun e w' => e = .returned (.tuple #[.int .i64 0, .int .i64 2]) ∧ Below w.heap.size w w' := by
  have hrH := Lib.hid hr
  have hcH := Lib.hid hc
  clear hc
  go_enter Try.func29, Try.ntmps29
  go_wp2_with fail
  refine (rwvalid_any _ _ _).mono ?_; rintro e w1 ⟨rfl, hb1⟩
  have hT := Lib.hid (TwoB.start hb1)
  have hb := below_box (below_box hb1)
  clear hb1
  obtain ⟨⟨lt, c0, c1⟩, ⟨lt2, e0, e1, e2, _, _, _⟩⟩ := hT.out
  go_wp2_with fail
  first
  | go_region_with (first | (go_at_call 21; refine (rwweeks_any _ _ _ _ hrH.out y1 (by omega)).mono ?_; rintro e w3 ⟨rfl, hb3⟩; rw [hcH.out]; have c0 := keep1 (below_undrew hb3) lt c0; have c1 := keep1 (below_undrew hb3) lt c1; have e0 := keep1 (below_undrew hb3) lt2 e0; have e1 := keep1 (below_undrew hb3) lt2 e1; have e2 := keep1 (below_undrew hb3) lt2 e2))
  | fail
  all_goals
    go_wp2_with fail
    go_ret2
    exact ⟨rfl, below_then hb (below_undrew hb3)⟩
end Go.Proofs.Ytajpbajffmiceaa
