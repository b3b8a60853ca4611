/- The walk of WeekNext. No conditions. -/
import Derived.Test.YtajpbajffmiceaaLaws3A
namespace Wk
open Cal
def NextRel (f n Y K D Y' K' D' s c : Int) : Prop :=
  1 ≤ Y ∧ Y ≤ 9999 ∧ 1 ≤ K ∧ K ≤ 53 ∧ 1 ≤ D ∧ D ≤ 7 ∧ D' = D % 7 + 1 ∧ (c = 52 ∨ c = 53) ∧ s ≤ n ∧ n - s < 7 * c ∧ -800000 ≤ s ∧ s ≤ 3000000 ∧
  ((D' ≠ f ∧ Y' = Y ∧ K' = K) ∨ (D' = f ∧ K = c ∧ Y' = Y + 1 ∧ K' = 1) ∨ (D' = f ∧ K ≠ c ∧ Y' = Y ∧ K' = K + 1))
theorem next_good {f mi n : Int} (h : okOf f mi n = true) (h' : okOf f mi (n + 1) = true) :
    NextRel f n (ofY f mi n) (ofW f mi n) (ofD f mi n) (ofY f mi (n + 1)) (ofW f mi (n + 1)) (ofD f mi (n + 1)) (stN f mi (ofY f mi n)) (wkN f mi (ofY f mi n)) ∧ stE f mi (ofY f mi n) = 0 := by
  have h0 := h
  have h0' := h'
  unfold okOf at h h'
  rw [Bool.and_eq_true, Bool.and_eq_true] at h h'
  obtain ⟨hr, hi, hy⟩ := h
  obtain ⟨_, hi', hy'⟩ := h'
  obtain ⟨s1, s2, _, _⟩ := wy_spec hr hi
  have y1 := yB_iff.1 hy
  have e1 : ofY f mi n = wy f mi n := by simp [ofY, h0]
  have e2 : ofW f mi n = (n - bg f mi (wy f mi n)) / 7 + 1 := by simp [ofW, h0]
  have e3 : ofD f mi n = wd n := by simp [ofD, h0]
  have e1' : ofY f mi (n + 1) = wy f mi (n + 1) := by simp [ofY, h0']
  have e2' : ofW f mi (n + 1) = (n + 1 - bg f mi (wy f mi (n + 1))) / 7 + 1 := by simp [ofW, h0']
  have e3' : ofD f mi (n + 1) = wd (n + 1) := by simp [ofD, h0']
  have e4 : stN f mi (wy f mi n) = bg f mi (wy f mi n) := by simp [stN, hr, hy]
  have e5 : wkN f mi (wy f mi n) = wks f mi (wy f mi n) := by simp [wkN, hr, hy]
  have e6 : stE f mi (wy f mi n) = 0 := by simp [stE, hr, hy]
  obtain ⟨w1, w2⟩ := wks_52 hr (wy f mi n)
  obtain ⟨g1, _, _⟩ := bg_spec hr (wy f mi n)
  have nb := bg_near hr (wy f mi n)
  have yb := ysG_bd y1.1 (by omega)
  have hs := bg_succ hr (wy f mi n + 1)
  have hnext : (n + 1 < bg f mi (wy f mi n + 1) ∧ wy f mi (n + 1) = wy f mi n) ∨ (n + 1 = bg f mi (wy f mi n + 1) ∧ wy f mi (n + 1) = wy f mi n + 1) := by
    by_cases q : n + 1 < bg f mi (wy f mi n + 1)
    · exact Or.inl ⟨q, (wy_eq hr hi' (by omega) q).symm⟩
    · exact Or.inr ⟨by omega, (wy_eq hr hi' (by omega) (by omega)).symm⟩
  rw [e1, e2, e3, e1', e2', e3', e4, e5]
  refine ⟨?_, e6⟩
  have hrr := rB_iff.1 hr
  unfold NextRel
  unfold wd at *
  rcases hnext with ⟨q, k⟩ | ⟨q, k⟩ <;> rw [k]
  · generalize bg f mi (wy f mi n) = B at *
    generalize bg f mi (wy f mi n + 1) = C at *
    generalize wks f mi (wy f mi n) = c at *
    generalize wy f mi n = Y at *
    refine ⟨by omega, by omega, by omega, by omega, by omega, by omega, by omega, w1, by omega, by omega, by omega, by omega, ?_⟩
    by_cases d : (n + 1 + 3) % 7 + 1 = f
    · exact Or.inr (Or.inr ⟨d, by omega, by omega, by omega⟩)
    · exact Or.inl ⟨d, by omega, by omega⟩
  · generalize bg f mi (wy f mi n) = B at *
    generalize bg f mi (wy f mi n + 1) = C at *
    generalize wks f mi (wy f mi n) = c at *
    generalize wy f mi n = Y at *
    refine ⟨by omega, by omega, by omega, by omega, by omega, by omega, by omega, w1, by omega, by omega, by omega, by omega, ?_⟩
    exact Or.inr (Or.inl ⟨by omega, by omega, by omega, by omega⟩)
theorem ofE_ways (f mi n : Int) : (ofE f mi n != 0) = true ∨ (ofE f mi n = 0 ∧ okOf f mi n = true) := by
  by_cases h : okOf f mi n = true
  · refine Or.inr ⟨?_, h⟩
    unfold okOf at h; rw [Bool.and_eq_true] at h
    unfold ofE; rw [if_pos h.1, if_pos h.2]
  · refine Or.inl ?_
    unfold ofE
    by_cases hr : rB f mi = true
    · rw [if_pos hr, if_neg]; rfl
      intro k; exact h (by unfold okOf; rw [hr, k]; rfl)
    · rw [if_neg hr]; rfl
end Wk
namespace Go.Proofs.Ytajpbajffmiceaa
open Go.ChangeShapes Go.WideShapes Go.ChangeAt Go.RowKit

set_option maxHeartbeats 1000000 in
theorem knext_bad (f mi n : Int) (w : World) (q1 : decide (n < -719171) = false) (q2 : decide (n > 2932906) = false) (hE : (Wk.ofE f mi n != 0) = true ∨ (Wk.ofE f mi n = 0 ∧ (Wk.ofE f mi (n + 1) != 0) = true)) :
    Calls Try.prog 5 #[.agg #[.int .i64 f, .int .i64 mi], .int .i64 n] w fun e w' => e = .returned (.bool true) ∧ Below w.heap.size w w' := by
  have hw : IntKind.i64.wrap (n + 1) = n + 1 := IntWalk.i64_in _ (by simp at q1 q2; omega)
  rcases hE with hE | ⟨hE, hE'⟩
  all_goals
    go_enter Try.func5, Try.ntmps5
    go_wp2_with fail
    refine (awake_any _).mono ?_; rintro e w1 ⟨rfl, hb1⟩
    have hD := Lib.hid (Box2.born hb1)
    have hb := below_box hb1
    obtain ⟨_, c0, c1⟩ := hD.out
    clear hb1
    go_wp2_with fail
    refine (kof_any _ _ _ _).mono ?_; rintro e w2 ⟨rfl, hb2⟩
    have hD2 := Lib.hid (hD.out.later hb2)
    have hb := below_then hb hb2
    clear hb2 hD c0 c1
    obtain ⟨_, c0, c1⟩ := hD2.out
    go_wp2_with fail
    refine (kof_any _ _ _ _).mono ?_; rintro e w3 ⟨rfl, hb3⟩
    have hb := below_then hb (below_box hb3)
    clear hb3 hD2 c0 c1
    go_wp2
    go_ret
    exact ⟨by simp, hb.alloc hb.size _⟩
end Go.Proofs.Ytajpbajffmiceaa
