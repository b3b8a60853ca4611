/- The walks of JulianDates, JulianBack and JulianSteps. Condition: the table of lengths. -/
import Derived.Test.YtiacppcnballeaaDoorLawsA
import Derived.Test.YtiacppcnballeaaDoorJulDate
import Derived.Test.YtiacppcnballeaaDoorRefJulDate
import Derived.Test.YtiacppcnballeaaDoorCalB
namespace Go.Proofs.YtiacppcnballeaaDoor
open Go.ChangeShapes Go.WideShapes Go.ChangeAt Go.RowKit

set_option maxHeartbeats 1000000 in
theorem wJulianDates (n : Int) (w : World) (_hn : -9223372036854775808 ≤ n ∧ n ≤ 9223372036854775807) (ht : Tab w) :
    Calls Tryd.prog 6 #[.int .i64 n] w fun e w' => e = .returned (.bool true) ∧ Below w.heap.size w w' := by
  by_cases hi : Cal.inB n = true
  · have hN : Cal.numJ n = n + 2440588 := by simp [Cal.numJ, hi]
    have hE : Cal.inE n = 0 := by simp [Cal.inE, hi]
    obtain ⟨i1, i2⟩ := Cal.inB_iff.1 hi
    go_enter Tryd.func6, Tryd.ntmps6
    go_wp2_with (first | (go_at_call 12; refine (awake_any _ ht).mono ?_; rintro e w1 ⟨rfl, hb1⟩; have ht1 := ht.later hb1) | (go_at_call 23; refine (jdate_any _ _ ht1).mono ?_; rintro e w2 ⟨rfl, hb2⟩; have hb2 := below_then hb1 hb2) | (go_at_call 24; refine (rdate_any _ _).mono ?_; rintro e w3 ⟨rfl, hb3⟩; obtain ⟨l0, c0, c1, c2, _, _, _⟩ := Box3.born hb3) | (go_at_call 19; refine (rright_any _ _).mono ?_; rintro e w' ⟨rfl, rfl⟩) | (go_at_call 20; refine (jnumber_any _ _).mono ?_; rintro e w' ⟨rfl, rfl⟩))
    go_ret
    exact ⟨by simp, (below_then hb2 (below_box hb3)).alloc (below_then hb2 (below_box hb3)).size _⟩
  · have hN : Cal.numJ n = 0 := by simp [Cal.numJ, hi]
    have hE : Cal.inE n = 2 := by simp [Cal.inE, hi]
    have hi' : Cal.inB n = false := by simpa using hi
    obtain ⟨e1, e2, e3⟩ := Cal.dtJ_out hi'
    clear hi
    go_enter Tryd.func6, Tryd.ntmps6
    go_wp2_with (first | (go_at_call 12; refine (awake_any _ ht).mono ?_; rintro e w1 ⟨rfl, hb1⟩; have ht1 := ht.later hb1) | (go_at_call 23; refine (jdate_any _ _ ht1).mono ?_; rintro e w2 ⟨rfl, hb2⟩; have hb2 := below_then hb1 hb2; rw [e1, e2, e3]) | (go_at_call 24; refine (rdate_any _ _).mono ?_; rintro e w3 ⟨rfl, hb3⟩; rw [e1, e2, e3]; obtain ⟨l0, c0, c1, c2, _, _, _⟩ := Box3.born hb3) | (go_at_call 19; refine (rright_any _ _).mono ?_; rintro e w' ⟨rfl, rfl⟩) | (go_at_call 20; refine (jnumber_any _ _).mono ?_; rintro e w' ⟨rfl, rfl⟩))
    go_ret
    exact ⟨by simp, (below_then hb2 (below_box hb3)).alloc (below_then hb2 (below_box hb3)).size _⟩

set_option maxHeartbeats 1000000 in
theorem wJulianBack (n y m d : Int) (w : World) (_hn : -9223372036854775808 ≤ n ∧ n ≤ 9223372036854775807) (_hy : -9223372036854775808 ≤ y ∧ y ≤ 9223372036854775807) (_hm : -9223372036854775808 ≤ m ∧ m ≤ 9223372036854775807) (_hd : -9223372036854775808 ≤ d ∧ d ≤ 9223372036854775807) (ht : Tab w) :
    Calls Tryd.prog 7 #[.int .i64 n, .agg #[.int .i64 y, .int .i64 m, .int .i64 d]] w fun e w' => e = .returned (.bool true) ∧ Below w.heap.size w w' := by
  by_cases hi : Cal.inB n = true
  · by_cases hv : Cal.okJb y m d = true ∧ Cal.inB (Cal.dayJ y m d) = true
    · obtain ⟨j1, j2⟩ := Cal.backJ hi
      have j3 : Cal.inE n = 0 := by simp [Cal.inE, hi]
      obtain ⟨k1, k2, k3, k4, k5, k6⟩ := Cal.forthJ hv.1 hv.2
      clear hv
      go_enter Tryd.func7, Tryd.ntmps7
      go_wp2_with fail
      refine (awake_any _ (ht.later (by go_grown))).mono ?_; rintro e w1 ⟨rfl, hb1⟩
      have D1 := Lib.hid (Box3.born hb1)
      have hb := below_box hb1
      have ht1 := ht.later hb
      clear hb1
      go_wp2_with fail
      refine (rright_any _ _).mono ?_; rintro e w' ⟨rfl, rfl⟩
      go_wp2_with fail
      refine (jdate_any _ _ ht1).mono ?_; rintro e w2 ⟨rfl, hb2⟩
      have D2 := Lib.hid (D1.out.later hb2)
      have hb := below_then hb hb2
      have ht2 := ht.later hb
      clear hb2 D1 ht1
      go_wp2_with fail
      refine (jday_any _ _ _ _ (ht2.later (by go_grown))).mono ?_; rintro e w3 ⟨rfl, hb3⟩
      have D1 := Lib.hid (D2.out.later (below_box hb3))
      have hb := below_then hb (below_box hb3)
      have ht1 := ht.later hb
      clear hb3 D2 ht2
      obtain ⟨_, c0, c1, c2, _, _, _⟩ := D1.out
      go_wp2_with fail
      refine (jday_any _ _ _ _ ht1).mono ?_; rintro e w4 ⟨rfl, hb4⟩
      have D4 := Lib.hid (D1.out.later hb4)
      have hb := below_then hb hb4
      have ht4 := ht.later hb
      clear hb4 ht1 c0 c1 c2
      go_wp2_with fail
      refine (jdate_any _ _ ht4).mono ?_; rintro e w5 ⟨rfl, hb5⟩
      rw [k3, k4, k5, k6]
      have D5 := D4.out.later hb5
      have hb := below_then hb hb5
      obtain ⟨l5, c0, c1, c2, _, _, _⟩ := D5
      clear D4 hb5 D1
      go_wp2
      go_ret
      exact ⟨by simp, hb.alloc hb.size _⟩
    · obtain ⟨j1, j2⟩ := Cal.backJ hi
      have j3 : Cal.inE n = 0 := by simp [Cal.inE, hi]
      have k1 := Cal.dayJe_bad hv
      clear hv
      go_enter Tryd.func7, Tryd.ntmps7
      go_wp2_with fail
      refine (awake_any _ (ht.later (by go_grown))).mono ?_; rintro e w1 ⟨rfl, hb1⟩
      have D1 := Lib.hid (Box3.born hb1)
      have hb := below_box hb1
      have ht1 := ht.later hb
      clear hb1
      go_wp2_with fail
      refine (rright_any _ _).mono ?_; rintro e w' ⟨rfl, rfl⟩
      go_wp2_with fail
      refine (jdate_any _ _ ht1).mono ?_; rintro e w2 ⟨rfl, hb2⟩
      have D2 := Lib.hid (D1.out.later hb2)
      have hb := below_then hb hb2
      have ht2 := ht.later hb
      clear hb2 D1 ht1
      go_wp2_with fail
      refine (jday_any _ _ _ _ (ht2.later (by go_grown))).mono ?_; rintro e w3 ⟨rfl, hb3⟩
      have D1 := Lib.hid (D2.out.later (below_box hb3))
      have hb := below_then hb (below_box hb3)
      have ht1 := ht.later hb
      clear hb3 D2 ht2
      obtain ⟨_, c0, c1, c2, _, _, _⟩ := D1.out
      go_wp2_with fail
      refine (jday_any _ _ _ _ ht1).mono ?_; rintro e w4 ⟨rfl, hb4⟩
      have D4 := Lib.hid (D1.out.later hb4)
      have hb := below_then hb hb4
      have ht4 := ht.later hb
      clear hb4 ht1 c0 c1 c2
      go_wp2_with fail
      go_ret
      exact ⟨rfl, hb⟩
  · by_cases hv : Cal.okJb y m d = true ∧ Cal.inB (Cal.dayJ y m d) = true
    · have hi : Cal.inB n = false := by simpa using hi
      obtain ⟨k1, k2, k3, k4, k5, k6⟩ := Cal.forthJ hv.1 hv.2
      clear hv
      go_enter Tryd.func7, Tryd.ntmps7
      go_wp2_with fail
      refine (awake_any _ (ht.later (by go_grown))).mono ?_; rintro e w1 ⟨rfl, hb1⟩
      have D1 := Lib.hid (Box3.born hb1)
      have hb := below_box hb1
      have ht1 := ht.later hb
      clear hb1
      go_wp2_with fail
      refine (rright_any _ _).mono ?_; rintro e w' ⟨rfl, rfl⟩
      obtain ⟨_, c0, c1, c2, _, _, _⟩ := D1.out
      go_wp2_with fail
      refine (jday_any _ _ _ _ ht1).mono ?_; rintro e w4 ⟨rfl, hb4⟩
      have D4 := Lib.hid (D1.out.later hb4)
      have hb := below_then hb hb4
      have ht4 := ht.later hb
      clear hb4 ht1 c0 c1 c2
      go_wp2_with fail
      refine (jdate_any _ _ ht4).mono ?_; rintro e w5 ⟨rfl, hb5⟩
      rw [k3, k4, k5, k6]
      have D5 := D4.out.later hb5
      have hb := below_then hb hb5
      obtain ⟨l5, c0, c1, c2, _, _, _⟩ := D5
      clear D4 hb5 D1
      go_wp2
      go_ret
      exact ⟨by simp, hb.alloc hb.size _⟩
    · have hi : Cal.inB n = false := by simpa using hi
      have k1 := Cal.dayJe_bad hv
      clear hv
      go_enter Tryd.func7, Tryd.ntmps7
      go_wp2_with fail
      refine (awake_any _ (ht.later (by go_grown))).mono ?_; rintro e w1 ⟨rfl, hb1⟩
      have D1 := Lib.hid (Box3.born hb1)
      have hb := below_box hb1
      have ht1 := ht.later hb
      clear hb1
      go_wp2_with fail
      refine (rright_any _ _).mono ?_; rintro e w' ⟨rfl, rfl⟩
      obtain ⟨_, c0, c1, c2, _, _, _⟩ := D1.out
      go_wp2_with fail
      refine (jday_any _ _ _ _ ht1).mono ?_; rintro e w4 ⟨rfl, hb4⟩
      have D4 := Lib.hid (D1.out.later hb4)
      have hb := below_then hb hb4
      have ht4 := ht.later hb
      clear hb4 ht1 c0 c1 c2
      go_wp2_with fail
      go_ret
      exact ⟨rfl, hb⟩


set_option maxHeartbeats 1000000 in
theorem wJulianSteps (n : Int) (w : World) (_hn : -9223372036854775808 ≤ n ∧ n ≤ 9223372036854775807) (ht : Tab w) :
    Calls Tryd.prog 8 #[.int .i64 n] w fun e w' => e = .returned (.bool true) ∧ Below w.heap.size w w' := by
  by_cases hi : Cal.inB n = true ∧ Cal.inB (n + 1) = true
  · obtain ⟨hi, hj⟩ := hi
    obtain ⟨s1, s2, s3⟩ := Cal.stepJ hi hj
    have j1 : Cal.inE n = 0 := by simp [Cal.inE, hi]
    have j2 : Cal.inE (n + 1) = 0 := by simp [Cal.inE, hj]
    obtain ⟨i1, i2⟩ := Cal.inB_iff.1 hi
    obtain ⟨i3, i4⟩ := Cal.inB_iff.1 hj
    obtain ⟨⟨y1, y2, m1, m2, a1, a2⟩, _⟩ := Cal.dtJ_spec hi
    have hlb := Cal.lenJ_bd (Cal.yJ n) (Cal.mJ n)
    have ways : (Cal.aJ n < Cal.lenJc (Cal.yJ n) (Cal.mJ n) ∧ Cal.yJ (n + 1) = Cal.yJ n ∧ Cal.mJ (n + 1) = Cal.mJ n ∧ Cal.aJ (n + 1) = Cal.aJ n + 1) ∨
        (decide (Cal.aJ n < Cal.lenJc (Cal.yJ n) (Cal.mJ n)) = false ∧ Cal.mJ n < 12 ∧ Cal.yJ (n + 1) = Cal.yJ n ∧ Cal.mJ (n + 1) = Cal.mJ n + 1 ∧ Cal.aJ (n + 1) = 1) ∨
        (decide (Cal.aJ n < Cal.lenJc (Cal.yJ n) (Cal.mJ n)) = false ∧ ¬ Cal.mJ n < 12 ∧ Cal.yJ (n + 1) = Cal.yJ n + 1 ∧ Cal.mJ (n + 1) = 1 ∧ Cal.aJ (n + 1) = 1) := by
      by_cases k : Cal.aJ n < Cal.lenJc (Cal.yJ n) (Cal.mJ n)
      · exact Or.inl ⟨k, s1 k⟩
      · by_cases k' : Cal.mJ n < 12
        · exact Or.inr (Or.inl ⟨by simpa using k, k', s2 k k'⟩)
        · exact Or.inr (Or.inr ⟨by simpa using k, k', s3 k k'⟩)
    clear s1 s2 s3 hi hj
    rcases ways with ⟨k, e1, e2, e3⟩ | ⟨k, k', e1, e2, e3⟩ | ⟨k, k', e1, e2, e3⟩
    all_goals
      go_enter Tryd.func8, Tryd.ntmps8
      go_wp2_with fail
      refine (awake_any _ ht).mono ?_; rintro e w1 ⟨rfl, hb⟩
      have ht1 := ht.later hb
      go_wp2_with fail
      refine (jdate_any _ _ ht1).mono ?_; rintro e w2 ⟨rfl, hb2⟩
      have hb := below_then hb hb2
      have hs2 := hb.size
      have ht2 := ht.later hb
      clear hb2 ht1
      go_wp2_with fail
      refine (jdate_any _ _ (ht2.later (by go_grown))).mono ?_; rintro e w3 ⟨rfl, hb3⟩
      rw [e1, e2, e3]
      obtain ⟨l0, c0, c1, c2, f0, f1, f2⟩ := Box3.born hb3
      have hb := below_then hb (below_box hb3)
      have ht3 := ht.later hb
      clear ht2
      go_wp2_with fail
      go_quiet ((go_at_call 17; exact quiet_same (jlength_any _ _ _ ((ht3.later (by go_grown)).drewN _))))
      go_wp2
      go_ret
      refine ⟨by simp, ?_⟩
      repeat (first | exact hb | (refine Below.setCell ?_ hs2 _) | (refine below_drewN ?_ _) | (refine Below.alloc ?_ hb.size _))
  · have h' : ¬ (-719162 ≤ n) ∨ (-719162 ≤ n ∧ 2932896 ≤ n) := by rw [Cal.inB_iff, Cal.inB_iff] at hi; omega
    rcases h' with h' | ⟨h', h''⟩
    all_goals
      clear hi
      go_enter Tryd.func8, Tryd.ntmps8
      go_wp2_with fail
      refine (awake_any _ ht).mono ?_; rintro e w1 ⟨rfl, hb⟩
      have ht1 := ht.later hb
      go_wp2_with fail
      refine (awake_any _ ht1).mono ?_; rintro e w2 ⟨rfl, hb2⟩
      go_wp2_with fail
      go_ret
      exact ⟨rfl, below_then hb hb2⟩
end Go.Proofs.YtiacppcnballeaaDoor
