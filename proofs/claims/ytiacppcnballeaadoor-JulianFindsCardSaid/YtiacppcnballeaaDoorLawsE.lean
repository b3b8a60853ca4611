/- The walk of JulianFinds. Condition: the table of lengths. -/
import Derived.Test.YtiacppcnballeaaDoorLawsD
namespace Go.Proofs.YtiacppcnballeaaDoor
open Go.ChangeShapes Go.WideShapes Go.ChangeAt Go.RowKit

/-- MixedDay of the mixed date of a day: this day, or an earlier one with the same mixed date -/
theorem finds {f n : Int} (hr : refB f = true) (hi : Cal.inB n = true) : ∃ N, mdN f (mixY f n) (mixM f n) (mixA f n) = N ∧ mdE f (mixY f n) (mixM f n) (mixA f n) = 0 ∧ mixE f N = 0 ∧
    mixY f N = mixY f n ∧ mixM f N = mixM f n ∧ mixA f N = mixA f n ∧ N ≤ n ∧ (N = n ∨ (N < n ∧ Cal.offJ n < 0)) := by
  by_cases hn : n < f
  · have v1 : mixY f n = Cal.yJ n := by simp [mixY, hr, hn]
    have v2 : mixM f n = Cal.mJ n := by simp [mixM, hr, hn]
    have v3 : mixA f n = Cal.aJ n := by simp [mixA, hr, hn]
    obtain ⟨ho, hd⟩ := Cal.dtJ_spec hi
    have hb := Cal.okJb_iff.2 ho
    refine ⟨n, ?_, ?_, by simp [mixE, hr, Cal.inE, hi], rfl, rfl, rfl, by omega, Or.inl rfl⟩
    · rw [v1, v2, v3]; simp [mdN, hr, hb, hd, hi, hn]
    · rw [v1, v2, v3]; simp [mdE, hr, hb, hd, hi, hn]
  · have v1 : mixY f n = Cal.yG n := by simp [mixY, hr, hn]
    have v2 : mixM f n = Cal.mG n := by simp [mixM, hr, hn]
    have v3 : mixA f n = Cal.aG n := by simp [mixA, hr, hn]
    obtain ⟨ho, hd⟩ := Cal.dtG_spec hi
    have hb := Cal.okJb_iff.2 (Cal.okG_J ho)
    have hg := Cal.okGb_iff.2 ho
    have hj := Cal.off_day hi
    by_cases k : Cal.inB (n + Cal.offJ n) = true ∧ n + Cal.offJ n < f
    · obtain ⟨k1, k2⟩ := k
      have hk := Cal.forthJ hb (by rw [hj]; exact k1)
      rw [hj] at hk
      obtain ⟨_, _, e1, e2, e3, e4⟩ := hk
      refine ⟨n + Cal.offJ n, ?_, ?_, by simp [mixE, hr, Cal.inE, k1], ?_, ?_, ?_, by omega, Or.inr ⟨by omega, by omega⟩⟩
      · rw [v1, v2, v3]; simp [mdN, hr, hb, hj, k1, k2]
      · rw [v1, v2, v3]; simp [mdE, hr, hb, hj, k1, k2]
      · rw [v1]; simp [mixY, hr, k2, e1]
      · rw [v2]; simp [mixM, hr, k2, e2]
      · rw [v3]; simp [mixA, hr, k2, e3]
    · have hc : (Cal.okJb (Cal.yG n) (Cal.mG n) (Cal.aG n) && Cal.inB (Cal.dayJ (Cal.yG n) (Cal.mG n) (Cal.aG n)) && decide (Cal.dayJ (Cal.yG n) (Cal.mG n) (Cal.aG n) < f)) = false := by
        rw [hj]
        by_cases a : Cal.inB (n + Cal.offJ n) = true
        · have : ¬ (n + Cal.offJ n < f) := fun b => k ⟨a, b⟩
          simp [this]
        · simp [a]
      refine ⟨n, ?_, ?_, by simp [mixE, hr, Cal.inE, hi], rfl, rfl, rfl, by omega, Or.inl rfl⟩
      · rw [v1, v2, v3]; unfold mdN; rw [hc]; simp [hr, hb, hg, hd]; omega
      · rw [v1, v2, v3]; unfold mdE; rw [hc]; simp [hr, hb, hg, hd]; omega

set_option maxHeartbeats 2000000 in
theorem wJulianFinds (f n : Int) (w : World) (_hf : -9223372036854775808 ≤ f ∧ f ≤ 9223372036854775807) (_hn : -9223372036854775808 ≤ n ∧ n ≤ 9223372036854775807) (ht : Tab w) :
    Calls Tryd.prog 11 #[.int .i64 f, .int .i64 n] w fun e w' => e = .returned (.bool true) ∧ Below w.heap.size w w' := by
  have ways : Cal.inB n = false ∨ (Cal.inB n = true ∧ f < -719162) ∨ (Cal.inB n = true ∧ -719162 ≤ f ∧ 2932897 < f) ∨ (Cal.inB n = true ∧ -719162 ≤ f ∧ f ≤ 2932897) := by
    by_cases a : Cal.inB n = true
    · by_cases b : f < -719162
      · exact Or.inr (Or.inl ⟨a, b⟩)
      · by_cases c : 2932897 < f
        · exact Or.inr (Or.inr (Or.inl ⟨a, by omega, c⟩))
        · exact Or.inr (Or.inr (Or.inr ⟨a, by omega, by omega⟩))
    · exact Or.inl (by simpa using a)
  rcases ways with a | ⟨a, b⟩ | ⟨a, b, c⟩ | ⟨a, b, c⟩
  case inr.inr.inr =>
    have hr : refB f = true := by unfold refB; simp; omega
    obtain ⟨N, q1, q2, q3, q4, q5, q6, q7, q8⟩ := finds hr a
    have hE : mixE f n = 0 := by simp [mixE, hr, Cal.inE, a]
    have hI : Cal.inE n = 0 := by simp [Cal.inE, a]
    have qH := Lib.hid (And.intro q1 (And.intro q2 (And.intro q3 (And.intro q4 (And.intro q5 (And.intro q6 hE))))))
    clear q1 q2 q3 q4 q5 q6 hE hr
    rcases q8 with rfl | ⟨q8, q9⟩
    all_goals
      go_enter Tryd.func11, Tryd.ntmps11
      go_wp2_with fail
      refine (awake_any _ ht).mono ?_; rintro e w1 ⟨rfl, hb⟩
      go_wp2_with (go_at_call 19; refine (rright_any _ _).mono ?_; rintro e w' ⟨rfl, rfl⟩)
      refine (jswitch_any _ _).mono ?_; rintro e w2 ⟨rfl, hb2⟩
      have hb := below_then hb hb2
      clear hb2
      go_wp2_with fail
      refine (jmixed_any _ _ _ (ht.later (hb.alloc hb.size _))).mono ?_; rintro e w3 ⟨rfl, hb3⟩
      rw [qH.out.2.2.2.2.2.2]
      have hF := Lib.hid (Box1.born hb3)
      have hb := below_then hb (below_box hb3)
      obtain ⟨fl, f0⟩ := hF.out
      clear hb3
      go_wp2_with fail
      refine (jmixday_any _ _ _ _ _ (ht.later (hb.alloc hb.size _))).mono ?_; rintro e w4 ⟨rfl, hb4⟩
      rw [qH.out.1, qH.out.2.1]
      have hX := Lib.hid (Box3.born hb4)
      have hF4 := Lib.hid (hF.out.later (below_box hb4))
      have hb := below_then hb (below_box hb4)
      obtain ⟨fl, f0⟩ := hF4.out
      clear hb4 hF
      go_wp2_with fail
      refine (jmixed_any _ _ _ (ht.later hb)).mono ?_; rintro e w5 ⟨rfl, hb5⟩
      have hX5 := Lib.hid (hX.out.later hb5)
      have hb := below_then hb hb5
      rw [qH.out.2.2.1]
      try rw [qH.out.2.2.2.1, qH.out.2.2.2.2.1, qH.out.2.2.2.2.2.1]
      clear hb5 hX hF4 f0 fl
      go_wp2_with fail
      refine (joffset_any _ _).mono ?_; rintro e w6 ⟨rfl, hb6⟩
      obtain ⟨zl, z0, z1, z2, _, _, _⟩ := Box3.born hb6
      obtain ⟨xl, x0, x1, x2, _, _, _⟩ := hX5.out.later (below_box hb6)
      have hb := below_then hb (below_box hb6)
      clear hb6 hX5
      go_wp2
      go_ret
      refine ⟨by simp, hb⟩
  case inl =>
    go_enter Tryd.func11, Tryd.ntmps11
    go_wp2_with fail
    refine (awake_any _ ht).mono ?_; rintro e w1 ⟨rfl, hb⟩
    go_wp2_with (go_at_call 19; refine (rright_any _ _).mono ?_; rintro e w' ⟨rfl, rfl⟩)
    refine (awake_any _ (ht.later hb)).mono ?_; rintro e w2 ⟨rfl, hb2⟩
    go_wp2
    go_ret
    exact ⟨rfl, below_then hb hb2⟩
  all_goals
    go_enter Tryd.func11, Tryd.ntmps11
    go_wp2_with fail
    refine (awake_any _ ht).mono ?_; rintro e w1 ⟨rfl, hb⟩
    go_wp2_with (go_at_call 19; refine (rright_any _ _).mono ?_; rintro e w' ⟨rfl, rfl⟩)
    refine (awake_any _ (ht.later hb)).mono ?_; rintro e w2 ⟨rfl, hb2⟩
    go_wp2
    go_ret
    exact ⟨rfl, below_then hb hb2⟩
end Go.Proofs.YtiacppcnballeaaDoor
