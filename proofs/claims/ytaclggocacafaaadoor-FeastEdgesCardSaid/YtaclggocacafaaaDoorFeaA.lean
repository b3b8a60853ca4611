/- Contracts of the functions of package feast. Condition, for Julian Easter: the table of lengths. -/
import Derived.Test.YtaclggocacafaaaDoorFea
import Derived.Test.YtaclggocacafaaaDoorJulDate
import Derived.Test.YtaclggocacafaaaDoorR2
namespace Fea
open Cal
theorem gold_y {y : Int} (h : yB y = true) : gold y = y % 19 + 1 := by simp [gold, h]
theorem epact_y {y : Int} (h : yB y = true) : epact y = ep y := by simp [epact, h]
/-- Moveable and Find -/
def mvB (y o : Int) : Bool := yB y && (decide (-400 ≤ o) && decide (o ≤ 400) && inB (east y + o))
def mvN (y o : Int) : Int := if mvB y o then east y + o else 0
def mvE (y o : Int) : Int := if mvB y o then 0 else 2
noncomputable def fdN (n : Int) : Int := if inB n then n - east (yG n) else 0
theorem wdG_in {n : Int} (h1 : -719162 ≤ n) (h2 : n < 2932897) : Cal.inB n = true := Cal.inB_iff.2 ⟨h1, h2⟩
end Fea
namespace Go.Proofs.YtaclggocacafaaaDoor
open Go.ChangeShapes Go.WideShapes Go.ChangeAt Go.RowKit

theorem below_alloc1 {w w1 : World} (h : Below w.heap.size w w1) (o : Obj) : Below w.heap.size w (w1.alloc o) := h.alloc h.size o
theorem fperm_any (y : Int) (w : World) :
    Calls Tryd.prog 29 #[.int .i64 y] w fun e w' => e = .returned (.bool (Fea.yB y)) ∧ w = w' := by
  have hl : Fea.yB y = (decide (1 ≤ y) && decide (y ≤ 9999)) := by rw [Bool.eq_iff_iff]; simp [Fea.yB]
  rw [hl]; clear hl
  by_cases h1 : 1 ≤ y
  · go_enter Tryd.func29, Tryd.ntmps29
    go_wp2
    go_ret
    exact ⟨by simp [h1], rfl⟩
  · go_enter Tryd.func29, Tryd.ntmps29
    go_wp2
    go_ret
    exact ⟨by simp; omega, rfl⟩
theorem fmod_any (a : Int) (w : World) (h1 : -1000000000 ≤ a) (h2 : a ≤ 1000000000) :
    Calls Tryd.prog 30 #[.int .i64 a, .int .i64 30] w fun e w' => e = .returned (.int .i64 (a % 30)) ∧ w = w' := by
  by_cases h : 0 ≤ a
  · have hm := tmod_pos (b := 30) h
    go_enter Tryd.func30, Tryd.ntmps30
    go_wp2
    go_ret
    exact ⟨ret_int (by omega), rfl⟩
  · by_cases k : (30 : Int) ∣ a
    · have hr := tmod_neg_dvd k
      have hz : a % 30 = 0 := Int.emod_eq_zero_of_dvd k
      go_enter Tryd.func30, Tryd.ntmps30
      go_wp2
      go_ret
      exact ⟨ret_int (by omega), rfl⟩
    · have hr := tmod_neg_not (by omega) (show (1 : Int) ≤ 30 by omega) k
      go_enter Tryd.func30, Tryd.ntmps30
      go_wp2
      go_ret
      exact ⟨ret_int (by omega), rfl⟩
theorem fgold_any (y : Int) (w : World) :
    Calls Tryd.prog 12 #[.int .i64 y] w fun e w' => e = .returned (.int .i64 (Fea.gold y)) ∧ w = w' := by
  by_cases hy : Fea.yB y = true
  · obtain ⟨y1, y2⟩ := Fea.yB_iff.1 hy
    rw [Fea.gold_y hy]
    go_enter Tryd.func12, Tryd.ntmps12
    go_wp2_with (first | (go_at_call 29; refine (fperm_any _ _).mono ?_; rintro e w' ⟨rfl, rfl⟩))
    go_ret
    exact ⟨rfl, rfl⟩
  · have hl : Fea.gold y = 0 := by simp [Fea.gold, hy]
    have hy' : Fea.yB y = false := by simpa using hy
    rw [hl]; clear hl hy
    go_enter Tryd.func12, Tryd.ntmps12
    go_wp2_with (first | (go_at_call 29; refine (fperm_any _ _).mono ?_; rintro e w' ⟨rfl, rfl⟩))
    go_ret
    exact ⟨rfl, rfl⟩
theorem fepact_any (y : Int) (w : World) :
    Calls Tryd.prog 13 #[.int .i64 y] w fun e w' => e = .returned (.int .i64 (Fea.epact y)) ∧ w = w' := by
  by_cases hy : Fea.yB y = true
  · obtain ⟨y1, y2⟩ := Fea.yB_iff.1 hy
    have hg := Lib.hid (Fea.gold_y hy)
    rw [Fea.epact_y hy]
    go_enter Tryd.func13, Tryd.ntmps13
    go_wp2_with (first | (go_at_call 29; refine (fperm_any _ _).mono ?_; rintro e w' ⟨rfl, rfl⟩) | (go_at_call 12; refine (fgold_any _ _).mono ?_; rintro e w' ⟨rfl, rfl⟩; rw [hg.out]) | (go_at_call 30; refine (fmod_any _ _ (by omega) (by omega)).mono ?_; rintro e w' ⟨rfl, rfl⟩))
    go_ret
    exact ⟨rfl, rfl⟩
  · have hl : Fea.epact y = -1 := by simp [Fea.epact, hy]
    have hy' : Fea.yB y = false := by simpa using hy
    rw [hl]; clear hl hy
    go_enter Tryd.func13, Tryd.ntmps13
    go_wp2_with (first | (go_at_call 29; refine (fperm_any _ _).mono ?_; rintro e w' ⟨rfl, rfl⟩))
    go_ret
    exact ⟨rfl, rfl⟩
theorem fsunday_any (d : Int) (w : World) (h1 : -719163 ≤ d) (h2 : d ≤ 2932895) :
    Calls Tryd.prog 31 #[.int .i64 d] w fun e w' => e = .returned (.int .i64 (Fea.sun d)) ∧ ∃ k, w' = w.drewN k := by
  have hw : wdG (d + 1) = Fea.wd (d + 1) := by simp [wdG, Fea.wd, Fea.wdG_in (n := d + 1) (by omega) (by omega)]
  have hwb : 1 ≤ Fea.wd (d + 1) ∧ Fea.wd (d + 1) ≤ 7 := by unfold Fea.wd; omega
  have hwH := Lib.hid hw
  clear hw
  go_enter Tryd.func31, Tryd.ntmps31
  go_wp2_with (go_at_call 22; refine (cweekday_any _ _).mono ?_; rintro e w' ⟨rfl, kd, rfl⟩; rw [hwH.out])
  go_ret
  exact ⟨rfl, _, rfl⟩
set_option maxHeartbeats 1000000 in
theorem feaster_any (y : Int) (w : World) :
    Calls Tryd.prog 17 #[.int .i64 y] w fun e w' => e = .returned (.tuple #[.int .i64 (Fea.easter y), .int .i64 (Fea.yE y)]) ∧ Below w.heap.size w w' := by
  by_cases hy : Fea.yB y = true
  · obtain ⟨y1, y2⟩ := Fea.yB_iff.1 hy
    have e1 : Fea.easter y = Fea.sun (Cal.dayG y 3 1 + Fea.moon y - 1) := by simp [Fea.easter, hy]; rfl
    have e2 : Fea.yE y = 0 := by simp [Fea.yE, hy]
    obtain ⟨i1, i2, i3, i4⟩ := Fea.east_in y1 y2
    have hmb := Fea.moon_bd y
    have hok : Cal.okGb y 3 1 = true := Cal.okGb_iff.2 ⟨y1, y2, by omega, by omega, by omega, by have := Cal.lenG_bd y 3; omega⟩
    have hdn : Cal.dayGn y 3 1 = Cal.dayG y 3 1 := by simp [Cal.dayGn, hok]
    have hde : Cal.dayGe y 3 1 = 0 := by simp [Cal.dayGe, hok]
    have hdH := Lib.hid (And.intro hdn hde)
    have hg := Lib.hid (Fea.gold_y hy)
    have he := Lib.hid (Fea.epact_y hy)
    have heb := Fea.ep_bd y
    rw [e1, e2]; clear e1 e2 hok hdn hde
    have ways : (Fea.ep y = 24 ∧ Fea.moon y = 49) ∨ (Fea.ep y = 25 ∧ 11 < y % 19 + 1 ∧ Fea.moon y = 48) ∨ (Fea.ep y = 25 ∧ ¬ 11 < y % 19 + 1 ∧ Fea.moon y = 49) ∨
        ((Fea.ep y == 24) = false ∧ (Fea.ep y == 25) = false ∧ Fea.ep y ≤ 23 ∧ Fea.moon y = 44 - Fea.ep y) ∨ ((Fea.ep y == 24) = false ∧ (Fea.ep y == 25) = false ∧ 26 ≤ Fea.ep y ∧ Fea.moon y = 44 - Fea.ep y + 30) := by
      by_cases a : Fea.ep y = 24
      · exact Or.inl ⟨a, by simp [Fea.moon, Fea.ep2, a]⟩
      · by_cases b : Fea.ep y = 25
        · by_cases c : 11 < y % 19 + 1
          · exact Or.inr (Or.inl ⟨b, c, by simp [Fea.moon, Fea.ep2, b, c]⟩)
          · exact Or.inr (Or.inr (Or.inl ⟨b, c, by simp [Fea.moon, Fea.ep2, b, c]⟩))
        · have e : Fea.ep2 y = Fea.ep y := by simp [Fea.ep2, a, b]
          have a' : (Fea.ep y == 24) = false := by simpa using a
          have b' : (Fea.ep y == 25) = false := by simpa using b
          by_cases c : Fea.ep y ≤ 23
          · exact Or.inr (Or.inr (Or.inr (Or.inl ⟨a', b', c, by unfold Fea.moon; rw [e, if_neg (by omega)]⟩)))
          · exact Or.inr (Or.inr (Or.inr (Or.inr ⟨a', b', by omega, by unfold Fea.moon; rw [e, if_pos (by omega)]⟩)))
    rcases ways with ⟨a, m⟩ | ⟨a, b, m⟩ | ⟨a, b, m⟩ | ⟨a, b, c, m⟩ | ⟨a, b, c, m⟩
    all_goals
      rw [m]
      rw [m] at hmb
      have aH := Lib.hid a
      try rw [a] at heb
      clear m
      go_enter Tryd.func17, Tryd.ntmps17
      go_wp2_with (first | (go_at_call 29; refine (fperm_any _ _).mono ?_; rintro e w' ⟨rfl, rfl⟩) | (go_at_call 13; refine (fepact_any _ _).mono ?_; rintro e w' ⟨rfl, rfl⟩; rw [he.out]; (try rw [aH.out])) | (go_at_call 12; refine (fgold_any _ _).mono ?_; rintro e w' ⟨rfl, rfl⟩; rw [hg.out]) | (go_at_call 21; refine (cday_any _ _ _ _).mono ?_; rintro e w1 ⟨rfl, hb1⟩; rw [hdH.out.1, hdH.out.2]) | (go_at_call 31; refine (fsunday_any _ _ (by omega) (by omega)).mono ?_; rintro e w' ⟨rfl, kd, rfl⟩))
      go_ret2
      exact ⟨rfl, below_drewN hb1 _⟩
  · have e1 : Fea.easter y = 0 := by simp [Fea.easter, hy]
    have e2 : Fea.yE y = 2 := by simp [Fea.yE, hy]
    have hy' : Fea.yB y = false := by simpa using hy
    rw [e1, e2]; clear e1 e2 hy
    go_enter Tryd.func17, Tryd.ntmps17
    go_wp2_with (first | (go_at_call 29; refine (fperm_any _ _).mono ?_; rintro e w' ⟨rfl, rfl⟩))
    go_ret2
    exact ⟨rfl, Below.refl _ _⟩
set_option maxHeartbeats 1000000 in
theorem fjeaster_any (y : Int) (w : World) (ht : Tab w) :
    Calls Tryd.prog 18 #[.int .i64 y] w fun e w' => e = .returned (.tuple #[.int .i64 (Fea.jeaster y), .int .i64 (Fea.yE y)]) ∧ Below w.heap.size w w' := by
  by_cases hy : Fea.yB y = true
  · obtain ⟨y1, y2⟩ := Fea.yB_iff.1 hy
    have e1 : Fea.jeaster y = Fea.sun (Fea.jm y + Fea.jp y) := by simp [Fea.jeaster, hy]; rfl
    have e2 : Fea.yE y = 0 := by simp [Fea.yE, hy]
    obtain ⟨i1, i2, i3, i4⟩ := Fea.jeast_in y1 y2
    have hpb := Fea.jp_bd y
    have hok : Cal.okJb y 3 21 = true := Cal.okJb_iff.2 ⟨y1, y2, by omega, by omega, by omega, by have := Cal.lenJ_bd y 3; omega⟩
    have hin : Cal.inB (Cal.dayJ y 3 21) = true := Cal.inB_iff.2 ⟨i1, show Fea.jm y < 2932897 by omega⟩
    have hdn : Cal.dayJn y 3 21 = Fea.jm y := by simp [Cal.dayJn, hok, hin, Fea.jm]
    have hde : Cal.dayJe y 3 21 = 0 := by simp [Cal.dayJe, hok, hin]
    have hdH := Lib.hid (And.intro hdn hde)
    have hg := Lib.hid (Fea.gold_y hy)
    have hjp : (19 * (y % 19) + 15) % 30 = Fea.jp y := rfl
    have hjH := Lib.hid hjp
    rw [e1, e2]; clear e1 e2 hok hdn hde hin hjp
    go_enter Tryd.func18, Tryd.ntmps18
    go_wp2_with (first | (go_at_call 29; refine (fperm_any _ _).mono ?_; rintro e w' ⟨rfl, rfl⟩) | (go_at_call 12; refine (fgold_any _ _).mono ?_; rintro e w' ⟨rfl, rfl⟩; rw [hg.out]) | (go_at_call 32; refine (jday_any _ _ _ _ ht).mono ?_; rintro e w1 ⟨rfl, hb1⟩; rw [hdH.out.1, hdH.out.2]) | (go_at_call 30; refine (fmod_any _ _ (by omega) (by omega)).mono ?_; rintro e w' ⟨rfl, rfl⟩; rw [hjH.out]) | (go_at_call 31; refine (fsunday_any _ _ (by omega) (by omega)).mono ?_; rintro e w' ⟨rfl, kd, rfl⟩))
    go_ret2
    exact ⟨rfl, below_drewN hb1 _⟩
  · have e1 : Fea.jeaster y = 0 := by simp [Fea.jeaster, hy]
    have e2 : Fea.yE y = 2 := by simp [Fea.yE, hy]
    have hy' : Fea.yB y = false := by simpa using hy
    rw [e1, e2]; clear e1 e2 hy
    go_enter Tryd.func18, Tryd.ntmps18
    go_wp2_with (first | (go_at_call 29; refine (fperm_any _ _).mono ?_; rintro e w' ⟨rfl, rfl⟩))
    go_ret2
    exact ⟨rfl, Below.refl _ _⟩
end Go.Proofs.YtaclggocacafaaaDoor
