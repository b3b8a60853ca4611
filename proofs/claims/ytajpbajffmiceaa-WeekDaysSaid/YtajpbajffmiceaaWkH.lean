/- The contract of the reference's Day, joined, and the walk of WeekDays. No conditions. -/
import Derived.Test.YtajpbajffmiceaaWkF
import Derived.Test.YtajpbajffmiceaaWkG
namespace Go.Proofs.Ytajpbajffmiceaa
open Go.ChangeShapes Go.WideShapes Go.ChangeAt Go.RowKit

theorem rwday_any (f mi y k d : Int) (w : World) :
    Calls Try.prog 29 #[.agg #[.int .i64 f, .int .i64 mi], .agg #[.int .i64 y, .int .i64 k, .int .i64 d]] w fun e w' => e = .returned (.tuple #[.int .i64 (Wk.dyN f mi y k d), .int .i64 (Wk.dyE f mi y k d)]) ∧ Below w.heap.size w w' := by
  rcases Wk.dy_ways f mi y k d with ⟨hr, e1, e2⟩ | ⟨hr, hy, e1, e2⟩ | ⟨hr, hy, e1, e2, h⟩ | ⟨hr, hy, k1, k2, d1, d2, h⟩
  · rw [e1, e2]; exact rwday_rule f mi y k d w hr
  · rw [e1, e2]
    have hy' : ¬ (1 ≤ y ∧ y ≤ 9999) := fun q => by rw [Wk.yB_iff.2 q] at hy; cases hy
    refine rwday_early f mi y k d w hr ?_
    simp only [decide_eq_true_eq, decide_eq_false_iff_not]; omega
  · rw [e1, e2]
    have yb := Wk.yB_iff.1 hy
    have hc := (Wk.wks_52 hr y).1
    have hn : ¬ (1 ≤ y ∧ y ≤ 9999 ∧ 1 ≤ k ∧ k ≤ Wk.wks f mi y ∧ 1 ≤ d ∧ d ≤ 7) := by omega
    rcases Wk.rdy_ways (c := Wk.wks f mi y) hn with q | q | q | q | ⟨q, q2, q3, q4, q5⟩ | ⟨q, q2, q3, q4, q5, q6⟩ | ⟨q, q2, q3, q4, q5, q6, q7⟩
    · exact rwday_early f mi y k d w hr (Or.inl q)
    · exact rwday_early f mi y k d w hr (Or.inr (Or.inl q))
    · exact rwday_early f mi y k d w hr (Or.inr (Or.inr (Or.inl q)))
    · exact rwday_early f mi y k d w hr (Or.inr (Or.inr (Or.inr q)))
    · exact rwday_5 f mi y k d w hr yb.1 yb.2 _ rfl q q2 q3 q4 q5
    · exact rwday_6 f mi y k d w hr yb.1 yb.2 _ rfl q q2 q3 q4 q5 q6
    · exact rwday_7 f mi y k d w hr yb.1 yb.2 _ rfl q q2 q3 q4 q5 q6 q7
  · have yb := Wk.yB_iff.1 hy
    have hc := (Wk.wks_52 hr y).1
    refine rwday_good f mi y k d w hr yb.1 yb.2 _ rfl ?_ ?_ ?_ ?_ ?_ ?_ ?_ k1 (by omega) d1 d2 _ _ h <;> simp <;> omega
set_option maxHeartbeats 1000000 in
theorem wWeekDays (f mi y k d : Int) (w : World) (_hf : -9223372036854775808 ≤ f ∧ f ≤ 9223372036854775807) (_hm : -9223372036854775808 ≤ mi ∧ mi ≤ 9223372036854775807) (_h1 : -9223372036854775808 ≤ y ∧ y ≤ 9223372036854775807) (_h2 : -9223372036854775808 ≤ k ∧ k ≤ 9223372036854775807) (_h3 : -9223372036854775808 ≤ d ∧ d ≤ 9223372036854775807) :
    Calls Try.prog 8 #[.agg #[.int .i64 f, .int .i64 mi], .agg #[.int .i64 y, .int .i64 k, .int .i64 d]] w fun e w' => e = .returned (.bool true) ∧ Below w.heap.size w w' := by
  go_enter Try.func8, Try.ntmps8
  go_wp2_with fail
  refine (awake_any _).mono ?_; rintro e w1 ⟨rfl, hb1⟩
  have hT := Lib.hid (TwoB.start hb1)
  have hb := below_box (below_box hb1)
  clear hb1
  obtain ⟨⟨_, c0, c1⟩, ⟨_, e0, e1, e2, _, _, _⟩⟩ := hT.out
  go_wp2_with fail
  refine (kday_any _ _ _ _ _ _).mono ?_; rintro e w2 ⟨rfl, hb2⟩
  have hT2 := Lib.hid (hT.out.later hb2)
  have hb := below_then hb hb2
  clear hb2 hT c0 c1 e0 e1 e2
  obtain ⟨⟨_, c0, c1⟩, ⟨_, e0, e1, e2, _, _, _⟩⟩ := hT2.out
  go_wp2_with fail
  refine (rwday_any _ _ _ _ _ _).mono ?_; rintro e w3 ⟨rfl, hb3⟩
  have hb := below_then hb hb3
  clear hb3 hT2 c0 c1 e0 e1 e2
  go_wp2_with fail
  go_ret
  exact ⟨by simp, hb⟩
end Go.Proofs.Ytajpbajffmiceaa
