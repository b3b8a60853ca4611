/- The walk of WeekYears. No conditions. -/
import Derived.Test.YtajpbajffmiceaaLaws3A
namespace Go.Proofs.Ytajpbajffmiceaa
open Go.ChangeShapes Go.WideShapes Go.ChangeAt Go.RowKit

set_option maxHeartbeats 1000000 in
theorem wWeekYears (f mi y : Int) (w : World) (_hf : -9223372036854775808 ≤ f ∧ f ≤ 9223372036854775807) (_hm : -9223372036854775808 ≤ mi ∧ mi ≤ 9223372036854775807) (_hy : -9223372036854775808 ≤ y ∧ y ≤ 9223372036854775807) :
    Calls Try.prog 4 #[.agg #[.int .i64 f, .int .i64 mi], .int .i64 y] w fun e w' => e = .returned (.bool true) ∧ Below w.heap.size w w' := by
  by_cases ho : Wk.rB f mi = true ∧ Wk.yB y = true
  · obtain ⟨hr, hy⟩ := ho
    have v1 : Wk.stN f mi y = Wk.bg f mi y := by simp [Wk.stN, hr, hy]
    have v2 : Wk.stE f mi y = 0 := by simp [Wk.stE, hr, hy]
    have v3 : Wk.wkN f mi y = Wk.wks f mi y := by simp [Wk.wkN, hr, hy]
    obtain ⟨h1, h2⟩ := Wk.yB_iff.1 hy
    have hrH := Lib.hid hr
    have q1 : decide (y < 1) = false := by simp; omega
    have q2 : decide (y > 9999) = false := by simp; omega
    clear hr hy
    go_enter Try.func4, Try.ntmps4
    go_wp2_with fail
    refine (awake_any _).mono ?_; rintro e w1 ⟨rfl, hb1⟩
    have hD := Lib.hid (Box2.born hb1)
    have hb := below_box hb1
    obtain ⟨_, c0, c1⟩ := hD.out
    clear hb1
    go_wp2_with fail
    refine (kstart_any _ _ _ _).mono ?_; rintro e w2 ⟨rfl, hb2⟩
    rw [v1, v2]
    have hD2 := Lib.hid (hD.out.later hb2)
    have hb := below_then hb hb2
    clear hb2 hD c0 c1
    obtain ⟨_, c0, c1⟩ := hD2.out
    go_wp2_with fail
    refine (kweeks_any _ _ _ _).mono ?_; rintro e w3 ⟨rfl, hb3⟩
    rw [v3, v2]
    have hD3 := Lib.hid (hD2.out.later hb3)
    have hb := below_then hb hb3
    clear hb3 hD2 c0 c1 v1 v2 v3
    obtain ⟨_, c0, c1⟩ := hD3.out
    go_wp2_with fail
    refine (rwvalid_any _ _ _).mono ?_; rintro e w4 ⟨rfl, hb4⟩
    rw [hrH.out]
    have hD4 := Lib.hid (hD3.out.later hb4)
    have hb := below_then hb hb4
    clear hb4 hD3 c0 c1
    obtain ⟨lg, c0, c1⟩ := hD4.out
    go_wp2_with fail
    refine (rwstart_any _ _ _ _ hrH.out h1 (by omega)).mono ?_; rintro e w5 ⟨rfl, hb5⟩
    have hD5 := Lib.hid (hD4.out.later hb5)
    have hb := below_then hb hb5
    clear hb5 hD4 c0 c1 lg
    obtain ⟨lg, c0, c1⟩ := hD5.out
    go_wp2_with fail
    refine (rwweeks_any _ _ _ _ hrH.out h1 h2).mono ?_; rintro e w6 ⟨rfl, hb6⟩
    have hb := below_then hb hb6
    clear hb6
    go_wp2
    go_ret
    exact ⟨by simp, hb⟩
  · have v1 : Wk.stN f mi y = 0 := by
      unfold Wk.stN; rw [if_neg]; rw [Bool.and_eq_true]; exact ho
    have v3 : Wk.wkN f mi y = 0 := by
      unfold Wk.wkN; rw [if_neg]; rw [Bool.and_eq_true]; exact ho
    have v2 : (Wk.rB f mi = false ∧ Wk.stE f mi y = 1) ∨ (Wk.rB f mi = true ∧ Wk.stE f mi y = 2 ∧ decide (y < 1) = true) ∨ (Wk.rB f mi = true ∧ Wk.stE f mi y = 2 ∧ decide (y < 1) = false ∧ decide (y > 9999) = true) := by
      by_cases hr : Wk.rB f mi = true
      · have hy : Wk.yB y = false := by simpa using fun k => ho ⟨hr, k⟩
        have h9 : ¬ (1 ≤ y ∧ y ≤ 9999) := fun k => by rw [Wk.yB_iff.2 k] at hy; exact Bool.noConfusion hy
        have e2 : Wk.stE f mi y = 2 := by simp [Wk.stE, hr, hy]
        by_cases h1 : y < 1
        · exact Or.inr (Or.inl ⟨hr, e2, by simpa using h1⟩)
        · exact Or.inr (Or.inr ⟨hr, e2, by simpa using h1, by simp; omega⟩)
      · exact Or.inl ⟨by simpa using hr, by simp [Wk.stE, hr]⟩
    clear ho
    rcases v2 with ⟨hr, v2⟩ | ⟨hr, v2, q1⟩ | ⟨hr, v2, q1, q2⟩
    all_goals
      have hrH := Lib.hid hr
      clear hr
      go_enter Try.func4, Try.ntmps4
      go_wp2_with fail
      refine (awake_any _).mono ?_; rintro e w1 ⟨rfl, hb1⟩
      have hD := Lib.hid (Box2.born hb1)
      have hb := below_box hb1
      obtain ⟨_, c0, c1⟩ := hD.out
      clear hb1
      go_wp2_with fail
      refine (kstart_any _ _ _ _).mono ?_; rintro e w2 ⟨rfl, hb2⟩
      rw [v1, v2]
      have hD2 := Lib.hid (hD.out.later hb2)
      have hb := below_then hb hb2
      clear hb2 hD c0 c1
      obtain ⟨_, c0, c1⟩ := hD2.out
      go_wp2_with fail
      refine (kweeks_any _ _ _ _).mono ?_; rintro e w3 ⟨rfl, hb3⟩
      rw [v3, v2]
      have hD3 := Lib.hid (hD2.out.later hb3)
      have hb := below_then hb hb3
      clear hb3 hD2 c0 c1 v1 v2 v3
      obtain ⟨_, c0, c1⟩ := hD3.out
      go_wp2_with fail
      refine (rwvalid_any _ _ _).mono ?_; rintro e w4 ⟨rfl, hb4⟩
      rw [hrH.out]
      have hb := below_then hb hb4
      clear hb4 hD3 c0 c1
      go_wp2
      go_ret
      exact ⟨by simp, hb⟩
end Go.Proofs.Ytajpbajffmiceaa
