/- Contracts of the functions of package feast. Condition, for those on the Julian calendar: the table of lengths. -/
import Derived.Deep.Cut
import Derived.Deep.RegionHeld3
import Derived.Deep.RegionWith
import Derived.Test.YtehjjinlpilelaaGreatDoorMa
import Derived.Test.YtehjjinlpilelaaGreatDoorMb
import Derived.Test.YtehjjinlpilelaaGreatDoorSCivil
import Derived.Test.YtehjjinlpilelaaGreatDoorSJulDate
namespace Go.Proofs.YtehjjinlpilelaaGreatDoor
open Go.ChangeShapes Go.WideShapes Go.ChangeAt Go.RowKit

theorem below_undrewQ {w w' : World} (h : Below w.drew.heap.size w.drew w') : Below w.heap.size w w' := ⟨h.os, h.tape, h.output, h.size, h.block⟩
end Go.Proofs.YtehjjinlpilelaaGreatDoor
namespace Fea
open Cal
theorem gold_y {y : Int} (h : yB y = true) : gold y = y % 19 + 1 := by simp [gold, h]
theorem epact_y {y : Int} (h : yB y = true) : epact y = ep y := by simp [epact, h]
/-- Moveable and Find -/
def mvB (y o : Int) : Bool := yB y && (decide (-400 ≤ o) && decide (o ≤ 400) && inB (east y + o))
def mvN (y o : Int) : Int := if mvB y o then east y + o else 0
def mvE (y o : Int) : Int := if mvB y o then 0 else 2
noncomputable def fdN (n : Int) : Int := if inB n then n - east (yG n) else 0
theorem wdG_in {n : Int} (h1 : -719162 ≤ n) (h2 : n < 2932897) : Cal.inB n = true := Cal.inB_iff.2 ⟨h1, h2⟩
end Fea
namespace Go.Proofs.YtehjjinlpilelaaGreatDoor
open Go.ChangeShapes Go.WideShapes Go.ChangeAt Go.RowKit

theorem below_alloc1 {w w1 : World} (h : Below w.heap.size w w1) (o : Obj) : Below w.heap.size w (w1.alloc o) := h.alloc h.size o
theorem fperm_any (y : Int) (w : World) :
    Calls Tryz.prog 72 #[.int .i64 y] w fun e w' => e = .returned (.bool (Fea.yB y)) ∧ w = w' := by
  have hl : Fea.yB y = (decide (1 ≤ y) && decide (y ≤ 9999)) := by rw [Bool.eq_iff_iff]; simp [Fea.yB]
  rw [hl]; clear hl
  by_cases h1 : 1 ≤ y
  · go_enter Tryz.func72, Tryz.ntmps72
    go_wp2
    go_ret
    exact ⟨by simp [h1], rfl⟩
  · go_enter Tryz.func72, Tryz.ntmps72
    go_wp2
    go_ret
    exact ⟨by simp; omega, rfl⟩
theorem fmod_any (a : Int) (w : World) (h1 : -1000000000 ≤ a) (h2 : a ≤ 1000000000) :
    Calls Tryz.prog 100 #[.int .i64 a, .int .i64 30] w fun e w' => e = .returned (.int .i64 (a % 30)) ∧ w = w' := by
  by_cases h : 0 ≤ a
  · have hm := tmod_pos (b := 30) h
    go_enter Tryz.func100, Tryz.ntmps100
    go_wp2
    go_ret
    exact ⟨ret_int (by omega), rfl⟩
  · by_cases k : (30 : Int) ∣ a
    · have hr := tmod_neg_dvd k
      have hz : a % 30 = 0 := Int.emod_eq_zero_of_dvd k
      go_enter Tryz.func100, Tryz.ntmps100
      go_wp2
      go_ret
      exact ⟨ret_int (by omega), rfl⟩
    · have hr := tmod_neg_not (by omega) (show (1 : Int) ≤ 30 by omega) k
      go_enter Tryz.func100, Tryz.ntmps100
      go_wp2
      go_ret
      exact ⟨ret_int (by omega), rfl⟩
theorem fgold_any (y : Int) (w : World) :
    Calls Tryz.prog 74 #[.int .i64 y] w fun e w' => e = .returned (.int .i64 (Fea.gold y)) ∧ w = w' := by
  by_cases hy : Fea.yB y = true
  · obtain ⟨y1, y2⟩ := Fea.yB_iff.1 hy
    rw [Fea.gold_y hy]
    go_enter Tryz.func74, Tryz.ntmps74
    go_wp2_with (first | (go_at_call 72; refine (fperm_any _ _).mono ?_; rintro e w' ⟨rfl, rfl⟩))
    go_ret
    exact ⟨rfl, rfl⟩
  · have hl : Fea.gold y = 0 := by simp [Fea.gold, hy]
    have hy' : Fea.yB y = false := by simpa using hy
    rw [hl]; clear hl hy
    go_enter Tryz.func74, Tryz.ntmps74
    go_wp2_with (first | (go_at_call 72; refine (fperm_any _ _).mono ?_; rintro e w' ⟨rfl, rfl⟩))
    go_ret
    exact ⟨rfl, rfl⟩
theorem fepact_any (y : Int) (w : World) :
    Calls Tryz.prog 73 #[.int .i64 y] w fun e w' => e = .returned (.int .i64 (Fea.epact y)) ∧ w = w' := by
  by_cases hy : Fea.yB y = true
  · obtain ⟨y1, y2⟩ := Fea.yB_iff.1 hy
    have hg := Lib.hid (Fea.gold_y hy)
    rw [Fea.epact_y hy]
    go_enter Tryz.func73, Tryz.ntmps73
    go_wp2_with (first | (go_at_call 72; refine (fperm_any _ _).mono ?_; rintro e w' ⟨rfl, rfl⟩) | (go_at_call 74; refine (fgold_any _ _).mono ?_; rintro e w' ⟨rfl, rfl⟩; rw [hg.out]) | (go_at_call 100; refine (fmod_any _ _ (by omega) (by omega)).mono ?_; rintro e w' ⟨rfl, rfl⟩))
    go_ret
    exact ⟨rfl, rfl⟩
  · have hl : Fea.epact y = -1 := by simp [Fea.epact, hy]
    have hy' : Fea.yB y = false := by simpa using hy
    rw [hl]; clear hl hy
    go_enter Tryz.func73, Tryz.ntmps73
    go_wp2_with (first | (go_at_call 72; refine (fperm_any _ _).mono ?_; rintro e w' ⟨rfl, rfl⟩))
    go_ret
    exact ⟨rfl, rfl⟩
theorem fsunday_any (d : Int) (w : World) (h1 : -719163 ≤ d) (h2 : d ≤ 2932895) :
    Calls Tryz.prog 75 #[.int .i64 d] w fun e w' => e = .returned (.int .i64 (Fea.sun d)) ∧ ∃ k, w' = w.drewN k := by
  have hw : wdG (d + 1) = Fea.wd (d + 1) := by simp [wdG, Fea.wd, Fea.wdG_in (n := d + 1) (by omega) (by omega)]
  have hwb : 1 ≤ Fea.wd (d + 1) ∧ Fea.wd (d + 1) ≤ 7 := by unfold Fea.wd; omega
  have hwH := Lib.hid hw
  clear hw
  go_enter Tryz.func75, Tryz.ntmps75
  go_wp2_with (go_at_call 15; refine (cweekday_any _ _).mono ?_; rintro e w' ⟨rfl, kd, rfl⟩; rw [hwH.out])
  go_ret
  exact ⟨rfl, _, rfl⟩
set_option maxHeartbeats 1000000 in
theorem feaster_any (y : Int) (w : World) :
    Calls Tryz.prog 28 #[.int .i64 y] w fun e w' => e = .returned (.tuple #[.int .i64 (Fea.easter y), .int .i64 (Fea.yE y)]) ∧ Below w.heap.size w w' := by
  by_cases hy : Fea.yB y = true
  · obtain ⟨y1, y2⟩ := Fea.yB_iff.1 hy
    have e1 : Fea.easter y = Fea.sun (Cal.dayG y 3 1 + Fea.moon y - 1) := by simp [Fea.easter, hy]; rfl
    have e2 : Fea.yE y = 0 := by simp [Fea.yE, hy]
    obtain ⟨i1, i2, i3, i4⟩ := Fea.east_in y1 y2
    have hmb := Fea.moon_bd y
    have hok : Cal.okGb y 3 1 = true := Cal.okGb_iff.2 ⟨y1, y2, by omega, by omega, by omega, by have := Cal.lenG_bd y 3; omega⟩
    have hdn : Cal.dayGn y 3 1 = Cal.dayG y 3 1 := by simp [Cal.dayGn, hok]
    have hde : Cal.dayGe y 3 1 = 0 := by simp [Cal.dayGe, hok]
    have hdH := Lib.hid (And.intro hdn hde)
    have hg := Lib.hid (Fea.gold_y hy)
    have he := Lib.hid (Fea.epact_y hy)
    have heb := Fea.ep_bd y
    rw [e1, e2]; clear e1 e2 hok hdn hde
    have ways : (Fea.ep y = 24 ∧ Fea.moon y = 49) ∨ (Fea.ep y = 25 ∧ 11 < y % 19 + 1 ∧ Fea.moon y = 48) ∨ (Fea.ep y = 25 ∧ ¬ 11 < y % 19 + 1 ∧ Fea.moon y = 49) ∨
        ((Fea.ep y == 24) = false ∧ (Fea.ep y == 25) = false ∧ Fea.ep y ≤ 23 ∧ Fea.moon y = 44 - Fea.ep y) ∨ ((Fea.ep y == 24) = false ∧ (Fea.ep y == 25) = false ∧ 26 ≤ Fea.ep y ∧ Fea.moon y = 44 - Fea.ep y + 30) := by
      by_cases a : Fea.ep y = 24
      · exact Or.inl ⟨a, by simp [Fea.moon, Fea.ep2, a]⟩
      · by_cases b : Fea.ep y = 25
        · by_cases c : 11 < y % 19 + 1
          · exact Or.inr (Or.inl ⟨b, c, by simp [Fea.moon, Fea.ep2, b, c]⟩)
          · exact Or.inr (Or.inr (Or.inl ⟨b, c, by simp [Fea.moon, Fea.ep2, b, c]⟩))
        · have e : Fea.ep2 y = Fea.ep y := by simp [Fea.ep2, a, b]
          have a' : (Fea.ep y == 24) = false := by simpa using a
          have b' : (Fea.ep y == 25) = false := by simpa using b
          by_cases c : Fea.ep y ≤ 23
          · exact Or.inr (Or.inr (Or.inr (Or.inl ⟨a', b', c, by unfold Fea.moon; rw [e, if_neg (by omega)]⟩)))
          · exact Or.inr (Or.inr (Or.inr (Or.inr ⟨a', b', by omega, by unfold Fea.moon; rw [e, if_pos (by omega)]⟩)))
    rcases ways with ⟨a, m⟩ | ⟨a, b, m⟩ | ⟨a, b, m⟩ | ⟨a, b, c, m⟩ | ⟨a, b, c, m⟩
    all_goals
      rw [m]
      rw [m] at hmb
      have aH := Lib.hid a
      try rw [a] at heb
      clear m
      go_enter Tryz.func28, Tryz.ntmps28
      go_wp2_with (first | (go_at_call 72; refine (fperm_any _ _).mono ?_; rintro e w' ⟨rfl, rfl⟩) | (go_at_call 73; refine (fepact_any _ _).mono ?_; rintro e w' ⟨rfl, rfl⟩; rw [he.out]; (try rw [aH.out])) | (go_at_call 74; refine (fgold_any _ _).mono ?_; rintro e w' ⟨rfl, rfl⟩; rw [hg.out]) | (go_at_call 8; refine (cday_any _ _ _ _).mono ?_; rintro e w1 ⟨rfl, hb1⟩; rw [hdH.out.1, hdH.out.2]) | (go_at_call 75; refine (fsunday_any _ _ (by omega) (by omega)).mono ?_; rintro e w' ⟨rfl, kd, rfl⟩))
      go_ret2
      exact ⟨rfl, below_drewN hb1 _⟩
  · have e1 : Fea.easter y = 0 := by simp [Fea.easter, hy]
    have e2 : Fea.yE y = 2 := by simp [Fea.yE, hy]
    have hy' : Fea.yB y = false := by simpa using hy
    rw [e1, e2]; clear e1 e2 hy
    go_enter Tryz.func28, Tryz.ntmps28
    go_wp2_with (first | (go_at_call 72; refine (fperm_any _ _).mono ?_; rintro e w' ⟨rfl, rfl⟩))
    go_ret2
    exact ⟨rfl, Below.refl _ _⟩
end Go.Proofs.YtehjjinlpilelaaGreatDoor
namespace Fea
open Cal
theorem mv_ways (y o : Int) : (mvB y o = true ∧ yB y = true ∧ 1 ≤ y ∧ y ≤ 9999 ∧ -400 ≤ o ∧ o ≤ 400 ∧ -719162 ≤ east y + o ∧ east y + o < 2932897 ∧ mvN y o = east y + o ∧ mvE y o = 0) ∨
    (mvB y o = false ∧ mvN y o = 0 ∧ mvE y o = 2 ∧ (yB y = false ∨ (yB y = true ∧ 1 ≤ y ∧ y ≤ 9999 ∧ (o < -400 ∨ (-400 ≤ o ∧ 400 < o) ∨ (-400 ≤ o ∧ o ≤ 400 ∧ east y + o < -719162) ∨ (-400 ≤ o ∧ o ≤ 400 ∧ -719162 ≤ east y + o ∧ 2932897 ≤ east y + o))))) := by
  by_cases h : mvB y o = true
  · have h' := h
    simp only [mvB, Bool.and_eq_true, decide_eq_true_eq] at h'
    obtain ⟨a, ⟨b, c⟩, d⟩ := h'
    have a' := yB_iff.1 a
    have d' := inB_iff.1 d
    exact Or.inl ⟨h, a, a'.1, a'.2, b, c, d'.1, d'.2, by simp [mvN, h], by simp [mvE, h]⟩
  · refine Or.inr ⟨by simpa using h, by simp [mvN, h], by simp [mvE, h], ?_⟩
    cases q : yB y
    · exact Or.inl rfl
    · have a' := yB_iff.1 q
      refine Or.inr ⟨rfl, a'.1, a'.2, ?_⟩
      simp only [mvB, q, Bool.true_and, Bool.and_eq_true, decide_eq_true_eq, inB_iff] at h
      omega
end Fea
namespace Go.Proofs.YtehjjinlpilelaaGreatDoor
open Go.ChangeShapes Go.WideShapes Go.ChangeAt Go.RowKit

set_option maxHeartbeats 400000 in
theorem ffind_any (n : Int) (w : World) :
    Calls Tryz.prog 29 #[.int .i64 n] w fun e w' => e = .returned (.tuple #[.int .i64 (Cal.yG n), .int .i64 (Fea.fdN n), .int .i64 (Cal.inE n)]) ∧ Below w.heap.size w w' := by
  by_cases hi : Cal.inB n = true
  · obtain ⟨i1, i2⟩ := Cal.inB_iff.1 hi
    obtain ⟨ho, hd⟩ := Cal.dtG_spec hi
    obtain ⟨y1, y2, _⟩ := ho
    obtain ⟨_, _, i3, i4⟩ := Fea.east_in y1 y2
    have hy : Fea.yB (Cal.yG n) = true := Fea.yB_iff.2 ⟨y1, y2⟩
    have a1 : Fea.easter (Cal.yG n) = Fea.east (Cal.yG n) := by simp [Fea.easter, hy]
    have a2 : Fea.yE (Cal.yG n) = 0 := by simp [Fea.yE, hy]
    have e1 : Fea.fdN n = n - Fea.east (Cal.yG n) := by simp [Fea.fdN, hi]
    have e2 : Cal.inE n = 0 := by simp [Cal.inE, hi]
    have aH := Lib.hid (And.intro a1 (And.intro a2 e2))
    rw [e1, e2]; clear e1 e2 a1 a2 hy hd
    go_enter Tryz.func29, Tryz.ntmps29
    go_wp2_with fail
    refine (cdate_any _ _).mono ?_; rintro e w1 ⟨rfl, hb1⟩
    rw [aH.out.2.2]
    go_wp2_with fail
    refine (feaster_any _ _).mono ?_; rintro e w2 ⟨rfl, hb2⟩
    rw [aH.out.1, aH.out.2.1]
    obtain ⟨_, c0, c1, c2, _, _, _⟩ := Box3.born hb2
    have hb := below_then hb1 (below_box hb2)
    clear hb1 hb2
    go_wp2_with fail
    go_ret3
    exact ⟨rfl, hb⟩
  · have hi' : Cal.inB n = false := by simpa using hi
    have e1 : Fea.fdN n = 0 := by simp [Fea.fdN, hi]
    have e2 : Cal.inE n = 2 := by simp [Cal.inE, hi]
    obtain ⟨d1, d2, d3⟩ := Cal.dtG_out hi'
    have aH := Lib.hid e2
    rw [e1, e2, d1]; clear e1 e2 d1 d2 d3 hi
    go_enter Tryz.func29, Tryz.ntmps29
    go_wp2_with fail
    refine (cdate_any _ _).mono ?_; rintro e w1 ⟨rfl, hb1⟩
    rw [aH.out]
    go_wp2_with fail
    go_ret3
    exact ⟨rfl, below_alloc1 hb1 _⟩
end Go.Proofs.YtehjjinlpilelaaGreatDoor
namespace Fea
open Cal
theorem jm_up (k : Int) : jm (k + 1) = jm k + 365 + lj (k + 1) := by
  rw [jm_eq, jm_eq]; have := ysJ_succ k; omega
theorem jm_1900 : dayGn 1900 4 3 = jm 1900 := by decide +kernel
theorem jm_bd {y : Int} (h1 : 1800 ≤ y) (h2 : y ≤ 2100) : -100100 ≤ jm y ∧ jm y ≤ 100000 := by
  have e := jm_eq y; have := lj_01 y
  have : -100000 ≤ ysJ y + 80 ∧ ysJ y + 80 ≤ 90000 := by unfold ysJ; omega
  omega
theorem ex_awake : easter 2024 = 19813 ∧ yE 2024 = 0 ∧ jeaster 2024 = dayGn 2024 5 5 ∧ dayGe 2024 5 5 = 0 ∧ gold 2000 = 6 ∧ epact 2000 = 24 := by decide +kernel
end Fea
namespace Go.Proofs.YtehjjinlpilelaaGreatDoor
open Go.ChangeShapes Go.WideShapes Go.ChangeAt Go.RowKit

end Go.Proofs.YtehjjinlpilelaaGreatDoor
namespace Fea
open Cal
theorem yB_false {y : Int} (h : yB y = false) : easter y = 0 ∧ yE y = 2 ∧ jeaster y = 0 ∧ gold y = 0 ∧ epact y = -1 := by simp [easter, yE, jeaster, gold, epact, h]
theorem yB_true {y : Int} (h : yB y = true) : easter y = east y ∧ yE y = 0 ∧ jeaster y = jeast y ∧ gold y = y % 19 + 1 ∧ epact y = ep y := by simp [easter, yE, jeaster, gold, epact, h]
theorem ep_ways (y : Int) : (ep y = 24 ∧ moon y = 49) ∨ (ep y = 25 ∧ 11 < y % 19 + 1 ∧ moon y = 48) ∨ (ep y = 25 ∧ ¬ 11 < y % 19 + 1 ∧ moon y = 49) ∨
    ((ep y == 24) = false ∧ (ep y == 25) = false ∧ ep y ≤ 23 ∧ moon y = 44 - ep y) ∨ ((ep y == 24) = false ∧ (ep y == 25) = false ∧ 26 ≤ ep y ∧ moon y = 44 - ep y + 30) := by
  by_cases a : ep y = 24
  · exact Or.inl ⟨a, by simp [moon, ep2, a]⟩
  · by_cases b : ep y = 25
    · by_cases c : 11 < y % 19 + 1
      · exact Or.inr (Or.inl ⟨b, c, by simp [moon, ep2, b, c]⟩)
      · exact Or.inr (Or.inr (Or.inl ⟨b, c, by simp [moon, ep2, b, c]⟩))
    · have e : ep2 y = ep y := by simp [ep2, a, b]
      have a' : (ep y == 24) = false := by simpa using a
      have b' : (ep y == 25) = false := by simpa using b
      by_cases c : ep y ≤ 23
      · exact Or.inr (Or.inr (Or.inr (Or.inl ⟨a', b', c, by unfold moon; rw [e, if_neg (by omega)]⟩)))
      · exact Or.inr (Or.inr (Or.inr (Or.inr ⟨a', b', by omega, by unfold moon; rw [e, if_pos (by omega)]⟩)))
theorem march22 {y : Int} (h : yB y = true) : dayGn y 3 22 = dayG y 3 1 + 21 ∧ dayGe y 3 22 = 0 ∧ dayGn y 4 25 = dayG y 3 1 + 55 ∧ dayGe y 4 25 = 0 := by
  obtain ⟨y1, y2⟩ := yB_iff.1 h
  have a : okGb y 3 22 = true := okGb_iff.2 ⟨y1, y2, by omega, by omega, by omega, by simp [lenG, lenB]⟩
  have b : okGb y 4 25 = true := okGb_iff.2 ⟨y1, y2, by omega, by omega, by omega, by simp [lenG, lenB]⟩
  have c : dayG y 3 22 = dayG y 3 1 + 21 := by unfold dayG; omega
  have d : dayG y 4 25 = dayG y 3 1 + 55 := by unfold dayG cumG; simp; omega
  simp [dayGn, dayGe, a, b, c, d]
theorem jd_spec {y : Int} (h1 : 1 ≤ y) (h2 : y ≤ 9999) : yJ (jeast y) = y ∧ mJ (jeast y) = jM y ∧ aJ (jeast y) = jA y ∧ inE (jeast y) = 0 := by
  obtain ⟨_, _, i3, i4⟩ := jeast_in h1 h2
  obtain ⟨a, b⟩ := jdate h1 h2
  have hi : inB (jeast y) = true := inB_iff.2 ⟨i3, by omega⟩
  obtain ⟨e1, e2, e3⟩ := dtJ_eq hi a b
  exact ⟨e1.symm, e2.symm, e3.symm, by simp [inE, hi]⟩
theorem jM_ways (y : Int) : (jM y = 3 ∧ 22 ≤ jA y ∧ jA y ≤ 31) ∨ (jM y = 4 ∧ 1 ≤ jA y ∧ jA y ≤ 25) := by
  have := jeast_bd y
  unfold jM jA; split <;> omega
end Fea
namespace Go.Proofs.YtehjjinlpilelaaGreatDoor
open Go.ChangeShapes Go.WideShapes Go.ChangeAt Go.RowKit

theorem east_wd {y : Int} (h1 : 1 ≤ y) (h2 : y ≤ 9999) : wdG (Fea.east y) = 7 := by
  obtain ⟨_, _, i3, i4⟩ := Fea.east_in h1 h2
  have := Fea.sun_wd (Cal.dayG y 3 1 + Fea.moon y - 1)
  have e : wdG (Fea.east y) = Fea.wd (Fea.east y) := by simp [wdG, Fea.wd, Fea.wdG_in (n := Fea.east y) (by omega) (by omega)]
  rw [e]; exact this
theorem jeast_wd {y : Int} (h1 : 1 ≤ y) (h2 : y ≤ 9999) : wdG (Fea.jeast y) = 7 := by
  obtain ⟨_, _, i3, i4⟩ := Fea.jeast_in h1 h2
  have := Fea.sun_wd (Fea.jm y + Fea.jp y)
  have e : wdG (Fea.jeast y) = Fea.wd (Fea.jeast y) := by simp [wdG, Fea.wd, Fea.wdG_in (n := Fea.jeast y) (by omega) (by omega)]
  rw [e]; exact this
end Go.Proofs.YtehjjinlpilelaaGreatDoor
namespace Go.Proofs.YtehjjinlpilelaaGreatDoor
open Go.ChangeShapes Go.WideShapes Go.ChangeAt Go.RowKit

end Go.Proofs.YtehjjinlpilelaaGreatDoor
