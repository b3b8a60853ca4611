/- The walks of FeastNumbers, FeastDays, FeastSundays and FeastJulian. Condition: the table of lengths. -/
import Derived.Test.YtaclggocacafaaaDoorFeaC
namespace Fea
open Cal
theorem yB_false {y : Int} (h : yB y = false) : easter y = 0 ∧ yE y = 2 ∧ jeaster y = 0 ∧ gold y = 0 ∧ epact y = -1 := by simp [easter, yE, jeaster, gold, epact, h]
theorem yB_true {y : Int} (h : yB y = true) : easter y = east y ∧ yE y = 0 ∧ jeaster y = jeast y ∧ gold y = y % 19 + 1 ∧ epact y = ep y := by simp [easter, yE, jeaster, gold, epact, h]
theorem ep_ways (y : Int) : (ep y = 24 ∧ moon y = 49) ∨ (ep y = 25 ∧ 11 < y % 19 + 1 ∧ moon y = 48) ∨ (ep y = 25 ∧ ¬ 11 < y % 19 + 1 ∧ moon y = 49) ∨
    ((ep y == 24) = false ∧ (ep y == 25) = false ∧ ep y ≤ 23 ∧ moon y = 44 - ep y) ∨ ((ep y == 24) = false ∧ (ep y == 25) = false ∧ 26 ≤ ep y ∧ moon y = 44 - ep y + 30) := by
  by_cases a : ep y = 24
  · exact Or.inl ⟨a, by simp [moon, ep2, a]⟩
  · by_cases b : ep y = 25
    · by_cases c : 11 < y % 19 + 1
      · exact Or.inr (Or.inl ⟨b, c, by simp [moon, ep2, b, c]⟩)
      · exact Or.inr (Or.inr (Or.inl ⟨b, c, by simp [moon, ep2, b, c]⟩))
    · have e : ep2 y = ep y := by simp [ep2, a, b]
      have a' : (ep y == 24) = false := by simpa using a
      have b' : (ep y == 25) = false := by simpa using b
      by_cases c : ep y ≤ 23
      · exact Or.inr (Or.inr (Or.inr (Or.inl ⟨a', b', c, by unfold moon; rw [e, if_neg (by omega)]⟩)))
      · exact Or.inr (Or.inr (Or.inr (Or.inr ⟨a', b', by omega, by unfold moon; rw [e, if_pos (by omega)]⟩)))
theorem march22 {y : Int} (h : yB y = true) : dayGn y 3 22 = dayG y 3 1 + 21 ∧ dayGe y 3 22 = 0 ∧ dayGn y 4 25 = dayG y 3 1 + 55 ∧ dayGe y 4 25 = 0 := by
  obtain ⟨y1, y2⟩ := yB_iff.1 h
  have a : okGb y 3 22 = true := okGb_iff.2 ⟨y1, y2, by omega, by omega, by omega, by simp [lenG, lenB]⟩
  have b : okGb y 4 25 = true := okGb_iff.2 ⟨y1, y2, by omega, by omega, by omega, by simp [lenG, lenB]⟩
  have c : dayG y 3 22 = dayG y 3 1 + 21 := by unfold dayG; omega
  have d : dayG y 4 25 = dayG y 3 1 + 55 := by unfold dayG cumG; simp; omega
  simp [dayGn, dayGe, a, b, c, d]
theorem jd_spec {y : Int} (h1 : 1 ≤ y) (h2 : y ≤ 9999) : yJ (jeast y) = y ∧ mJ (jeast y) = jM y ∧ aJ (jeast y) = jA y ∧ inE (jeast y) = 0 := by
  obtain ⟨_, _, i3, i4⟩ := jeast_in h1 h2
  obtain ⟨a, b⟩ := jdate h1 h2
  have hi : inB (jeast y) = true := inB_iff.2 ⟨i3, by omega⟩
  obtain ⟨e1, e2, e3⟩ := dtJ_eq hi a b
  exact ⟨e1.symm, e2.symm, e3.symm, by simp [inE, hi]⟩
theorem jM_ways (y : Int) : (jM y = 3 ∧ 22 ≤ jA y ∧ jA y ≤ 31) ∨ (jM y = 4 ∧ 1 ≤ jA y ∧ jA y ≤ 25) := by
  have := jeast_bd y
  unfold jM jA; split <;> omega
end Fea
namespace Go.Proofs.YtaclggocacafaaaDoor
open Go.ChangeShapes Go.WideShapes Go.ChangeAt Go.RowKit

theorem east_wd {y : Int} (h1 : 1 ≤ y) (h2 : y ≤ 9999) : wdG (Fea.east y) = 7 := by
  obtain ⟨_, _, i3, i4⟩ := Fea.east_in h1 h2
  have := Fea.sun_wd (Cal.dayG y 3 1 + Fea.moon y - 1)
  have e : wdG (Fea.east y) = Fea.wd (Fea.east y) := by simp [wdG, Fea.wd, Fea.wdG_in (n := Fea.east y) (by omega) (by omega)]
  rw [e]; exact this
theorem jeast_wd {y : Int} (h1 : 1 ≤ y) (h2 : y ≤ 9999) : wdG (Fea.jeast y) = 7 := by
  obtain ⟨_, _, i3, i4⟩ := Fea.jeast_in h1 h2
  have := Fea.sun_wd (Fea.jm y + Fea.jp y)
  have e : wdG (Fea.jeast y) = Fea.wd (Fea.jeast y) := by simp [wdG, Fea.wd, Fea.wdG_in (n := Fea.jeast y) (by omega) (by omega)]
  rw [e]; exact this
set_option maxHeartbeats 400000 in
theorem wFeastNumbers (y : Int) (w : World) (_h : -9223372036854775808 ≤ y ∧ y ≤ 9223372036854775807) (ht : Tab w) :
    Calls Tryd.prog 3 #[.int .i64 y] w fun e w' => e = .returned (.bool true) ∧ Below w.heap.size w w' := by
  by_cases hy : Fea.yB y = true
  · obtain ⟨y1, y2⟩ := Fea.yB_iff.1 hy
    obtain ⟨a1, a2, a3, a4, a5⟩ := Fea.yB_true hy
    have gH := Lib.hid (And.intro a4 a5)
    have heb := Fea.ep_bd y
    clear a1 a2 a3 a4 a5
    go_enter Tryd.func3, Tryd.ntmps3
    go_wp2_with (first | (go_at_call 11; refine (awake_any _ ht).mono ?_; rintro e w1 ⟨rfl, hb1⟩) | (go_at_call 12; refine (fgold_any _ _).mono ?_; rintro e w' ⟨rfl, rfl⟩; rw [gH.out.1]) | (go_at_call 13; refine (fepact_any _ _).mono ?_; rintro e w' ⟨rfl, rfl⟩; rw [gH.out.2]) | (go_at_call 14; refine (ryear8_any _ _).mono ?_; rintro e w' ⟨rfl, rfl⟩) | (go_at_call 15; refine (rgold_any _ _ (by omega) (by omega)).mono ?_; rintro e w' ⟨rfl, rfl⟩) | (go_at_call 16; refine (repact_any _ _ (by omega) (by omega)).mono ?_; rintro e w' ⟨rfl, rfl⟩))
    go_ret
    exact ⟨by simp; try omega, hb1⟩
  · have hy' : Fea.yB y = false := by simpa using hy
    obtain ⟨a1, a2, a3, a4, a5⟩ := Fea.yB_false hy'
    have gH := Lib.hid (And.intro a4 a5)
    clear a1 a2 a3 a4 a5 hy
    go_enter Tryd.func3, Tryd.ntmps3
    go_wp2_with (first | (go_at_call 11; refine (awake_any _ ht).mono ?_; rintro e w1 ⟨rfl, hb1⟩) | (go_at_call 12; refine (fgold_any _ _).mono ?_; rintro e w' ⟨rfl, rfl⟩; rw [gH.out.1]) | (go_at_call 13; refine (fepact_any _ _).mono ?_; rintro e w' ⟨rfl, rfl⟩; rw [gH.out.2]) | (go_at_call 14; refine (ryear8_any _ _).mono ?_; rintro e w' ⟨rfl, rfl⟩))
    go_ret
    exact ⟨by simp, hb1⟩
set_option maxHeartbeats 1000000 in
theorem wFeastDays (y : Int) (w : World) (_h : -9223372036854775808 ≤ y ∧ y ≤ 9223372036854775807) (ht : Tab w) :
    Calls Tryd.prog 4 #[.int .i64 y] w fun e w' => e = .returned (.bool true) ∧ Below w.heap.size w w' := by
  by_cases hy : Fea.yB y = true
  · obtain ⟨y1, y2⟩ := Fea.yB_iff.1 hy
    obtain ⟨a1, a2, a3, a4, a5⟩ := Fea.yB_true hy
    have aH := Lib.hid (And.intro a1 a2)
    have bH := Lib.hid a3
    clear a1 a2 a3 a4 a5
    have hways : y < 1800 ∨ (1800 ≤ y ∧ 2100 < y) ∨ (1800 ≤ y ∧ y ≤ 2100) := by omega
    rcases hways with q | ⟨q, q2⟩ | ⟨q, q2⟩
    all_goals
      go_enter Tryd.func4, Tryd.ntmps4
      go_wp2_with fail
      refine (awake_any _ ht).mono ?_; rintro e w1 ⟨rfl, hb1⟩
      have ht1 := ht.later hb1
      go_wp2_with fail
      refine (feaster_any _ _).mono ?_; rintro e w2 ⟨rfl, hb2⟩
      rw [aH.out.1, aH.out.2]
      have ht2 := ht1.later hb2
      go_wp2_with fail
      refine (fjeaster_any _ _ ht2).mono ?_; rintro e w3 ⟨rfl, hb3⟩
      rw [aH.out.2, bH.out]
      clear ht1 ht2
      go_wp2_with (first | (go_at_call 14; refine (ryear8_any _ _).mono ?_; rintro e w' ⟨rfl, rfl⟩) | (go_at_call 19; refine (reaster_any _ _ (by omega) (by omega)).mono ?_; rintro e w' ⟨rfl, hb5⟩) | (go_at_call 20; refine (rjeaster_any _ _ (by omega) (by omega)).mono ?_; rintro e w' ⟨rfl, hb6⟩))
      go_ret
      exact ⟨by simp, by (repeat (first | exact Below.refl _ _ | assumption | refine below_drewN ?_ _ | refine below_alloc1 ?_ _ | refine below_then ?_ (by assumption)))⟩
  · have hy' : Fea.yB y = false := by simpa using hy
    obtain ⟨a1, a2, a3, a4, a5⟩ := Fea.yB_false hy'
    have aH := Lib.hid (And.intro a1 a2)
    have bH := Lib.hid a3
    clear a1 a2 a3 a4 a5 hy
    go_enter Tryd.func4, Tryd.ntmps4
    go_wp2_with fail
    refine (awake_any _ ht).mono ?_; rintro e w1 ⟨rfl, hb1⟩
    have ht1 := ht.later hb1
    go_wp2_with fail
    refine (feaster_any _ _).mono ?_; rintro e w2 ⟨rfl, hb2⟩
    rw [aH.out.1, aH.out.2]
    have ht2 := ht1.later hb2
    go_wp2_with fail
    refine (fjeaster_any _ _ ht2).mono ?_; rintro e w3 ⟨rfl, hb3⟩
    rw [aH.out.2, bH.out]
    clear ht1 ht2
    go_wp2_with (first | (go_at_call 14; refine (ryear8_any _ _).mono ?_; rintro e w' ⟨rfl, rfl⟩))
    go_ret
    exact ⟨by simp, by (repeat (first | exact Below.refl _ _ | assumption | refine below_drewN ?_ _ | refine below_alloc1 ?_ _ | refine below_then ?_ (by assumption)))⟩
set_option maxHeartbeats 2000000 in
theorem wFeastSundays (y : Int) (w : World) (_h : -9223372036854775808 ≤ y ∧ y ≤ 9223372036854775807) (ht : Tab w) :
    Calls Tryd.prog 5 #[.int .i64 y] w fun e w' => e = .returned (.bool true) ∧ Below w.heap.size w w' := by
  by_cases hy : Fea.yB y = true
  · obtain ⟨y1, y2⟩ := Fea.yB_iff.1 hy
    obtain ⟨a1, a2, a3, a4, a5⟩ := Fea.yB_true hy
    obtain ⟨b1, b2, b3, b4⟩ := Fea.march22 hy
    have aH := Lib.hid (And.intro a1 a2)
    have gH := Lib.hid (And.intro a4 a5)
    have dH := Lib.hid (And.intro b1 (And.intro b2 (And.intro b3 b4)))
    have wH := Lib.hid (east_wd y1 y2)
    obtain ⟨i1, i2, i3, i4⟩ := Fea.east_in y1 y2
    have heb := Fea.east_bd y
    have hsb := Fea.sun_bd (Cal.dayG y 3 1 + Fea.moon y - 1)
    have hes : Fea.sun (Cal.dayG y 3 1 + Fea.moon y - 1) = Fea.east y := rfl
    rw [hes] at hsb
    have hpb := Fea.ep_bd y
    clear a1 a2 a3 a4 a5 b1 b2 b3 b4 hes
    rcases Fea.ep_ways y with ⟨a, m⟩ | ⟨a, b, m⟩ | ⟨a, b, m⟩ | ⟨a, b, c, m⟩ | ⟨a, b, c, m⟩
    all_goals
      rw [m] at hsb
      have epH := Lib.hid a
      try rw [a] at hpb
      clear m
      go_enter Tryd.func5, Tryd.ntmps5
      go_wp2_with fail
      refine (awake_any _ ht).mono ?_; rintro e w1 ⟨rfl, hb1⟩
      go_wp2_with fail
      refine (feaster_any _ _).mono ?_; rintro e w2 ⟨rfl, hb2⟩
      rw [aH.out.1, aH.out.2]
      go_wp2_with fail
      refine (cday_any _ _ _ _).mono ?_; rintro e w3 ⟨rfl, hb3⟩
      rw [dH.out.1, dH.out.2.1]
      go_wp2_with fail
      refine (cday_any _ _ _ _).mono ?_; rintro e w4 ⟨rfl, hb4⟩
      rw [dH.out.2.2.1, dH.out.2.2.2]
      go_wp2_with (first | (go_at_call 13; refine (fepact_any _ _).mono ?_; rintro e w' ⟨rfl, rfl⟩; rw [gH.out.2]; (try rw [epH.out])) | (go_at_call 12; refine (fgold_any _ _).mono ?_; rintro e w' ⟨rfl, rfl⟩; rw [gH.out.1]) | (go_at_call 22; refine (cweekday_any _ _).mono ?_; rintro e w' ⟨rfl, kd, rfl⟩; rw [wH.out]))
      go_ret
      exact ⟨by simp; try omega, by (repeat (first | exact Below.refl _ _ | assumption | refine below_drewN ?_ _ | refine below_alloc1 ?_ _ | refine below_then ?_ (by assumption)))⟩
  · have hy' : Fea.yB y = false := by simpa using hy
    obtain ⟨a1, a2, a3, a4, a5⟩ := Fea.yB_false hy'
    have aH := Lib.hid (And.intro a1 a2)
    clear a1 a2 a3 a4 a5 hy
    go_enter Tryd.func5, Tryd.ntmps5
    go_wp2_with fail
    refine (awake_any _ ht).mono ?_; rintro e w1 ⟨rfl, hb1⟩
    go_wp2_with fail
    refine (feaster_any _ _).mono ?_; rintro e w2 ⟨rfl, hb2⟩
    rw [aH.out.1, aH.out.2]
    go_wp2_with (first | (go_at_call 14; refine (ryear8_any _ _).mono ?_; rintro e w' ⟨rfl, rfl⟩))
    go_ret
    exact ⟨by simp, by (repeat (first | exact Below.refl _ _ | assumption | refine below_drewN ?_ _ | refine below_alloc1 ?_ _ | refine below_then ?_ (by assumption)))⟩
end Go.Proofs.YtaclggocacafaaaDoor
