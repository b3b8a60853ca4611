/- The walks of FeastJulian, FeastFinds and FeastMoves. Condition: the table of lengths. -/
import Derived.Test.YtaclggocacafaaaDoorFeaD
namespace Go.Proofs.YtaclggocacafaaaDoor
open Go.ChangeShapes Go.WideShapes Go.ChangeAt Go.RowKit

set_option maxHeartbeats 2000000 in
theorem wFeastJulian (y : Int) (w : World) (_h : -9223372036854775808 ≤ y ∧ y ≤ 9223372036854775807) (ht : Tab w) :
    Calls Tryd.prog 6 #[.int .i64 y] w fun e w' => e = .returned (.bool true) ∧ Below w.heap.size w w' := by
  by_cases hy : Fea.yB y = true
  · obtain ⟨y1, y2⟩ := Fea.yB_iff.1 hy
    obtain ⟨a1, a2, a3, a4, a5⟩ := Fea.yB_true hy
    obtain ⟨j1, j2, j3, j4⟩ := Fea.jd_spec y1 y2
    have aH := Lib.hid (And.intro a3 a2)
    have jH := Lib.hid (And.intro j1 (And.intro j2 (And.intro j3 j4)))
    have wH := Lib.hid (jeast_wd y1 y2)
    have hways := Lib.hid (Fea.jM_ways y)
    clear a1 a2 a3 a4 a5 j1 j2 j3 j4
    by_cases hq : 9467 < y
    · rcases hways.out with ⟨m1, m2, m3⟩ | ⟨m1, m2, m3⟩
      all_goals
        have mH := Lib.hid m1
        clear m1 hways
        go_enter Tryd.func6, Tryd.ntmps6
        go_wp2_with fail
        refine (awake_any _ ht).mono ?_; rintro e w1 ⟨rfl, hb1⟩
        have ht1 := ht.later hb1
        go_wp2_with fail
        refine (fjeaster_any _ _ ht1).mono ?_; rintro e w2 ⟨rfl, hb2⟩
        rw [aH.out.1, aH.out.2]
        have ht2 := ht1.later hb2
        go_wp2_with fail
        refine (jdate_any _ _ ht2).mono ?_; rintro e w3 ⟨rfl, hb3⟩
        rw [jH.out.1, jH.out.2.1, jH.out.2.2.1, jH.out.2.2.2, mH.out]
        clear ht1 ht2
        go_wp2_with (go_at_call 22; refine (cweekday_any _ _).mono ?_; rintro e w' ⟨rfl, kd, rfl⟩; rw [wH.out])
        go_ret
        exact ⟨by simp, by (repeat (first | exact Below.refl _ _ | assumption | refine below_drewN ?_ _ | refine below_alloc1 ?_ _ | refine below_then ?_ (by assumption)))⟩
    · have hy2 : Fea.yB (y + 532) = true := Fea.yB_iff.2 (by omega)
      obtain ⟨b1, b2, b3, b4, b5⟩ := Fea.yB_true hy2
      obtain ⟨k1, k2, k3, k4⟩ := Fea.jd_spec (y := y + 532) (by omega) (by omega)
      obtain ⟨r1, r2⟩ := Fea.jdate_532 y
      have bH := Lib.hid (And.intro b3 b2)
      have kH := Lib.hid (And.intro k1 (And.intro (k2.trans r1) (And.intro (k3.trans r2) k4)))
      clear b1 b2 b3 b4 b5 k1 k2 k3 k4 r1 r2 hy2
      rcases hways.out with ⟨m1, m2, m3⟩ | ⟨m1, m2, m3⟩
      all_goals
        have mH := Lib.hid m1
        clear m1 hways
        go_enter Tryd.func6, Tryd.ntmps6
        go_wp2_with fail
        refine (awake_any _ ht).mono ?_; rintro e w1 ⟨rfl, hb1⟩
        have ht1 := ht.later hb1
        go_wp2_with fail
        refine (fjeaster_any _ _ ht1).mono ?_; rintro e w2 ⟨rfl, hb2⟩
        rw [aH.out.1, aH.out.2]
        have ht2 := ht1.later hb2
        go_wp2_with fail
        refine (jdate_any _ _ ht2).mono ?_; rintro e w3 ⟨rfl, hb3⟩
        rw [jH.out.1, jH.out.2.1, jH.out.2.2.1, jH.out.2.2.2, mH.out]
        have ht3 := ht2.later hb3
        clear ht1 ht2
        go_wp2_with (first | (go_at_call 22; refine (cweekday_any _ _).mono ?_; rintro e w' ⟨rfl, kd, rfl⟩; rw [wH.out]) | (go_at_call 18; refine (fjeaster_any _ _ ?_).mono ?_))
        · exact (ht3.later (below_alloc1 (Below.refl _ _) _)).drewN _
        rintro e w4 ⟨rfl, hb4⟩
        rw [bH.out.1, bH.out.2]
        have ht4 : Tab w4 := Tab.later ((ht3.later (below_alloc1 (Below.refl _ _) _)).drewN _) hb4
        go_wp2_with fail
        refine (jdate_any _ _ ht4).mono ?_; rintro e w5 ⟨rfl, hb5⟩
        rw [kH.out.1, kH.out.2.1, kH.out.2.2.1, kH.out.2.2.2, mH.out]
        have hX := ((Box3.new w3 (.int .i64 y) (.int .i64 _) (.int .i64 (Fea.jA y)) 30).drewN _).later hb4
        have c0 := fun o => ((hX.later hb5).alloc o).c0
        have c1 := fun o => ((hX.later hb5).alloc o).c1
        have c2 := fun o => ((hX.later hb5).alloc o).c2
        go_wp2_with fail
        go_ret
        exact ⟨by simp, by (repeat (first | exact Below.refl _ _ | assumption | refine below_drewN ?_ _ | refine below_alloc1 ?_ _ | refine below_then ?_ (by assumption)))⟩
  · have hy' : Fea.yB y = false := by simpa using hy
    obtain ⟨a1, a2, a3, a4, a5⟩ := Fea.yB_false hy'
    have aH := Lib.hid (And.intro a3 a2)
    clear a1 a2 a3 a4 a5 hy
    go_enter Tryd.func6, Tryd.ntmps6
    go_wp2_with fail
    refine (awake_any _ ht).mono ?_; rintro e w1 ⟨rfl, hb1⟩
    have ht1 := ht.later hb1
    go_wp2_with fail
    refine (fjeaster_any _ _ ht1).mono ?_; rintro e w2 ⟨rfl, hb2⟩
    rw [aH.out.1, aH.out.2]
    clear ht1
    go_wp2_with (first | (go_at_call 14; refine (ryear8_any _ _).mono ?_; rintro e w' ⟨rfl, rfl⟩))
    go_ret
    exact ⟨by simp, by (repeat (first | exact Below.refl _ _ | assumption | refine below_drewN ?_ _ | refine below_alloc1 ?_ _ | refine below_then ?_ (by assumption)))⟩
set_option maxHeartbeats 1000000 in
theorem wFeastFinds (n : Int) (w : World) (_h : -9223372036854775808 ≤ n ∧ n ≤ 9223372036854775807) (ht : Tab w) :
    Calls Tryd.prog 7 #[.int .i64 n] w fun e w' => e = .returned (.bool true) ∧ Below w.heap.size w w' := by
  by_cases hi : Cal.inB n = true
  · obtain ⟨i1, i2⟩ := Cal.inB_iff.1 hi
    obtain ⟨ho, hd⟩ := Cal.dtG_spec hi
    obtain ⟨y1, y2, _⟩ := ho
    obtain ⟨_, _, i3, i4⟩ := Fea.east_in y1 y2
    have e1 : Fea.fdN n = n - Fea.east (Cal.yG n) := by simp [Fea.fdN, hi]
    have e2 : Cal.inE n = 0 := by simp [Cal.inE, hi]
    have eH := Lib.hid (And.intro e1 e2)
    clear e1 e2 hd
    go_enter Tryd.func7, Tryd.ntmps7
    go_wp2_with fail
    refine (awake_any _ ht).mono ?_; rintro e w1 ⟨rfl, hb1⟩
    go_wp2_with fail
    refine (ffind_any _ _).mono ?_; rintro e w2 ⟨rfl, hb2⟩
    rw [eH.out.1, eH.out.2]
    go_wp2_with fail
    refine (cdate_any _ _).mono ?_; rintro e w3 ⟨rfl, hb3⟩
    rw [eH.out.2]
    go_wp2_with (first | (go_at_call 19; refine (reaster_any _ _ (by omega) (by omega)).mono ?_; rintro e w' ⟨rfl, hb5⟩))
    go_ret
    exact ⟨by simp, by (repeat (first | exact Below.refl _ _ | assumption | refine below_drewN ?_ _ | refine below_alloc1 ?_ _ | refine below_then ?_ (by assumption)))⟩
  · have hi' : Cal.inB n = false := by simpa using hi
    have e1 : Fea.fdN n = 0 := by simp [Fea.fdN, hi]
    have e2 : Cal.inE n = 2 := by simp [Cal.inE, hi]
    obtain ⟨d1, d2, d3⟩ := Cal.dtG_out hi'
    have eH := Lib.hid (And.intro e1 (And.intro e2 d1))
    clear e1 e2 d1 d2 d3 hi
    go_enter Tryd.func7, Tryd.ntmps7
    go_wp2_with fail
    refine (awake_any _ ht).mono ?_; rintro e w1 ⟨rfl, hb1⟩
    go_wp2_with fail
    refine (ffind_any _ _).mono ?_; rintro e w2 ⟨rfl, hb2⟩
    rw [eH.out.1, eH.out.2.1, eH.out.2.2]
    go_wp2_with fail
    refine (cdate_any _ _).mono ?_; rintro e w3 ⟨rfl, hb3⟩
    rw [eH.out.2.1]
    go_wp2_with fail
    go_ret
    exact ⟨by simp, by (repeat (first | exact Below.refl _ _ | assumption | refine below_drewN ?_ _ | refine below_alloc1 ?_ _ | refine below_then ?_ (by assumption)))⟩
set_option maxHeartbeats 1000000 in
theorem wFeastMoves (y o : Int) (w : World) (_h : -9223372036854775808 ≤ y ∧ y ≤ 9223372036854775807) (_h2 : -9223372036854775808 ≤ o ∧ o ≤ 9223372036854775807) (ht : Tab w) :
    Calls Tryd.prog 8 #[.int .i64 y, .int .i64 o] w fun e w' => e = .returned (.bool true) ∧ Below w.heap.size w w' := by
  rcases Fea.mv_ways y o with ⟨e3, hy, y1, y2, o1, o2, s1, s2, e1, e2⟩ | ⟨e3, e1, e2, _⟩
  · obtain ⟨_, _, i3, i4⟩ := Fea.east_in y1 y2
    have hi : Cal.inB (Fea.east y + o) = true := Cal.inB_iff.2 ⟨s1, s2⟩
    obtain ⟨ho, hd⟩ := Cal.dtG_spec hi
    obtain ⟨z1, z2, _⟩ := ho
    have f1 : Fea.fdN (Fea.east y + o) = Fea.east y + o - Fea.east (Cal.yG (Fea.east y + o)) := by simp [Fea.fdN, hi]
    have f2 : Cal.inE (Fea.east y + o) = 0 := by simp [Cal.inE, hi]
    have eH := Lib.hid (And.intro e1 (And.intro e2 e3))
    have fH := Lib.hid (And.intro f1 f2)
    clear e1 e2 e3 f1 f2 hy hi hd
    by_cases q : Cal.yG (Fea.east y + o) = y
    · have q' : (Cal.yG (Fea.east y + o) != y) = false := by simpa using q
      have qH := Lib.hid q
      clear q
      go_enter Tryd.func8, Tryd.ntmps8
      go_wp2_with fail
      refine (awake_any _ ht).mono ?_; rintro e w1 ⟨rfl, hb1⟩
      go_wp2_with fail
      refine (fmove_any _ _ _).mono ?_; rintro e w2 ⟨rfl, hb2⟩
      rw [eH.out.1, eH.out.2.1]
      go_wp2_with fail
      refine (rmove_any _ _ _).mono ?_; rintro e w3 ⟨rfl, hb3⟩
      rw [eH.out.1, eH.out.2.2]
      go_wp2_with fail
      refine (cdate_any _ _).mono ?_; rintro e w4 ⟨rfl, hb4⟩
      rw [fH.out.2]
      go_wp2_with fail
      refine (ffind_any _ _).mono ?_; rintro e w5 ⟨rfl, hb5⟩
      rw [fH.out.1, fH.out.2]
      obtain ⟨_, c0, c1, c2, _, _, _⟩ := Box3.born hb5
      rw [qH.out] at c0 ⊢
      have hz : Fea.east y + o - Fea.east y = o := by omega
      rw [hz]
      clear hz
      go_wp2_with fail
      go_ret
      exact ⟨by simp, by (repeat (first | exact Below.refl _ _ | assumption | refine below_drewN ?_ _ | refine below_alloc1 ?_ _ | refine below_then ?_ (by assumption)))⟩
    · have q' : (Cal.yG (Fea.east y + o) != y) = true := by simpa using q
      clear q
      go_enter Tryd.func8, Tryd.ntmps8
      go_wp2_with fail
      refine (awake_any _ ht).mono ?_; rintro e w1 ⟨rfl, hb1⟩
      go_wp2_with fail
      refine (fmove_any _ _ _).mono ?_; rintro e w2 ⟨rfl, hb2⟩
      rw [eH.out.1, eH.out.2.1]
      go_wp2_with fail
      refine (rmove_any _ _ _).mono ?_; rintro e w3 ⟨rfl, hb3⟩
      rw [eH.out.1, eH.out.2.2]
      go_wp2_with fail
      refine (cdate_any _ _).mono ?_; rintro e w4 ⟨rfl, hb4⟩
      rw [fH.out.2]
      go_wp2_with fail
      refine (ffind_any _ _).mono ?_; rintro e w5 ⟨rfl, hb5⟩
      rw [fH.out.1, fH.out.2]
      obtain ⟨_, c0, c1, c2, _, _, _⟩ := Box3.born hb5
      go_wp2_with fail
      go_ret
      exact ⟨by simp, by (repeat (first | exact Below.refl _ _ | assumption | refine below_drewN ?_ _ | refine below_alloc1 ?_ _ | refine below_then ?_ (by assumption)))⟩
  · have eH := Lib.hid (And.intro e1 (And.intro e2 e3))
    clear e1 e2 e3
    go_enter Tryd.func8, Tryd.ntmps8
    go_wp2_with fail
    refine (awake_any _ ht).mono ?_; rintro e w1 ⟨rfl, hb1⟩
    go_wp2_with fail
    refine (fmove_any _ _ _).mono ?_; rintro e w2 ⟨rfl, hb2⟩
    rw [eH.out.1, eH.out.2.1]
    go_wp2_with fail
    refine (rmove_any _ _ _).mono ?_; rintro e w3 ⟨rfl, hb3⟩
    rw [eH.out.1, eH.out.2.2]
    go_wp2_with fail
    go_ret
    exact ⟨by simp, by (repeat (first | exact Below.refl _ _ | assumption | refine below_drewN ?_ _ | refine below_alloc1 ?_ _ | refine below_then ?_ (by assumption)))⟩
end Go.Proofs.YtaclggocacafaaaDoor
