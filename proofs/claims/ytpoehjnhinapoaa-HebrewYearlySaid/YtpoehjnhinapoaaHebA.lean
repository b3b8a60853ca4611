/- Contracts of the small functions of package hebrew: leap years, months, elapsed days, new years, lengths. No conditions but those on sizes. -/
import Derived.Test.YtpoehjnhinapoaaHebB
import Derived.Test.YtpoehjnhinapoaaInt
import Derived.Test.YtpoehjnhinapoaaBox
namespace Heb
theorem dd_bd {y : Int} (h1 : -5 ≤ y) (h2 : y ≤ 20100) : -100 ≤ bf y ∧ bf y ≤ 250000 ∧ -4000 ≤ dd y ∧ dd y ≤ 7500000 ∧ -4000 ≤ el y ∧ el y ≤ 7500001 := by
  have hb : -100 ≤ bf y ∧ bf y ≤ 250000 := by unfold bf; omega
  have hd : -4000 ≤ dd y ∧ dd y ≤ 7500000 := by unfold dd; omega
  unfold el; split <;> omega
end Heb
namespace Go.Proofs.Ytpoehjnhinapoaa
open Go.ChangeShapes Go.WideShapes Go.ChangeAt Go.RowKit

theorem hyear_any (y : Int) (w : World) :
    Calls Try.prog 43 #[.int .i64 y] w fun e w' => e = .returned (.bool (Heb.yB y)) ∧ w = w' := by
  have hl : Heb.yB y = (decide (1 ≤ y) && decide (y ≤ 20000)) := by rw [Bool.eq_iff_iff]; simp [Heb.yB]
  rw [hl]; clear hl
  by_cases h1 : 1 ≤ y
  · go_enter Try.func43, Try.ntmps43
    go_wp2
    go_ret
    exact ⟨by simp [h1], rfl⟩
  · go_enter Try.func43, Try.ntmps43
    go_wp2
    go_ret
    exact ⟨by simp; omega, rfl⟩
theorem hleap_any (y : Int) (w : World) (h1 : -1000000 ≤ y) (h2 : y ≤ 1000000) :
    Calls Try.prog 44 #[.int .i64 y] w fun e w' => e = .returned (.bool (Heb.lp y)) ∧ ∃ k, w' = w.drewN k := by
  have hl : Heb.lp y = decide ((7 * y + 1) % 19 < 7) := rfl
  rw [hl]; clear hl
  go_enter Try.func44, Try.ntmps44
  go_wp2_with (first | (go_at_call 52; refine (mod_any _ _ _ (by omega) (by omega) (by omega) (by omega)).mono ?_; rintro e w' ⟨rfl, kd, rfl⟩))
  go_ret
  exact ⟨rfl, _, rfl⟩
theorem hLeap_any (y : Int) (w : World) :
    Calls Try.prog 19 #[.int .i64 y] w fun e w' => e = .returned (.bool (Heb.leap y)) ∧ ∃ k, w' = w.drewN k := by
  by_cases hy : Heb.yB y = true
  · have hl : Heb.leap y = Heb.lp y := by simp [Heb.leap, hy]
    obtain ⟨h1, h2⟩ := Heb.yB_iff.1 hy
    rw [hl]; clear hl
    go_enter Try.func19, Try.ntmps19
    go_wp2_with (first | (go_at_call 43; refine (hyear_any _ _).mono ?_; rintro e w' ⟨rfl, rfl⟩) | (go_at_call 44; refine (hleap_any _ _ (by omega) (by omega)).mono ?_; rintro e w' ⟨rfl, kd, rfl⟩))
    go_ret
    exact ⟨rfl, _, rfl⟩
  · have hl : Heb.leap y = false := by simp [Heb.leap, hy]
    have hy' : Heb.yB y = false := by simpa using hy
    rw [hl]; clear hl hy
    go_enter Try.func19, Try.ntmps19
    go_wp2_with (first | (go_at_call 43; refine (hyear_any _ _).mono ?_; rintro e w' ⟨rfl, rfl⟩))
    go_ret
    exact ⟨rfl, 0, rfl⟩
theorem hmonths_any (y : Int) (w : World) :
    Calls Try.prog 17 #[.int .i64 y] w fun e w' => e = .returned (.int .i64 (Heb.mthc y)) ∧ ∃ k, w' = w.drewN k := by
  by_cases hy : Heb.yB y = true
  · obtain ⟨h1, h2⟩ := Heb.yB_iff.1 hy
    by_cases hl : Heb.lp y = true
    · have hm : Heb.mthc y = 13 := by simp [Heb.mthc, hy, Heb.mths, hl]
      rw [hm]; clear hm
      go_enter Try.func17, Try.ntmps17
      go_wp2_with (first | (go_at_call 43; refine (hyear_any _ _).mono ?_; rintro e w' ⟨rfl, rfl⟩) | (go_at_call 44; refine (hleap_any _ _ (by omega) (by omega)).mono ?_; rintro e w' ⟨rfl, kd, rfl⟩))
      go_ret
      exact ⟨rfl, _, rfl⟩
    · have hm : Heb.mthc y = 12 := by simp [Heb.mthc, hy, Heb.mths, hl]
      have hl' : Heb.lp y = false := by simpa using hl
      rw [hm]; clear hm hl
      go_enter Try.func17, Try.ntmps17
      go_wp2_with (first | (go_at_call 43; refine (hyear_any _ _).mono ?_; rintro e w' ⟨rfl, rfl⟩) | (go_at_call 44; refine (hleap_any _ _ (by omega) (by omega)).mono ?_; rintro e w' ⟨rfl, kd, rfl⟩))
      go_ret
      exact ⟨rfl, _, rfl⟩
  · have hm : Heb.mthc y = 0 := by simp [Heb.mthc, hy]
    have hy' : Heb.yB y = false := by simpa using hy
    rw [hm]; clear hm hy
    go_enter Try.func17, Try.ntmps17
    go_wp2_with (first | (go_at_call 43; refine (hyear_any _ _).mono ?_; rintro e w' ⟨rfl, rfl⟩))
    go_ret
    exact ⟨rfl, 0, rfl⟩
theorem hbefore_any (y : Int) (w : World) (h1 : -1000000 ≤ y) (h2 : y ≤ 1000000) :
    Calls Try.prog 53 #[.int .i64 y] w fun e w' => e = .returned (.int .i64 (Heb.bf y)) ∧ ∃ k, w' = w.drewN k := by
  go_enter Try.func53, Try.ntmps53
  go_wp2_with (first | (go_at_call 54; refine (floor_any _ _ _ (by omega) (by omega) (by omega) (by omega)).mono ?_; rintro e w' ⟨rfl, kd, rfl⟩))
  go_ret
  exact ⟨rfl, _, rfl⟩
set_option maxHeartbeats 400000 in
theorem helapsed_any (y : Int) (w : World) (h1 : -5 ≤ y) (h2 : y ≤ 20100) :
    Calls Try.prog 46 #[.int .i64 y] w fun e w' => e = .returned (.int .i64 (Heb.el y)) ∧ ∃ k, w' = w.drewN k := by
  obtain ⟨b1, b2, d1, d2, _, _⟩ := Heb.dd_bd h1 h2
  have hd : 29 * Heb.bf y + (12084 + 13753 * Heb.bf y) / 25920 = Heb.dd y := rfl
  have hdH := Lib.hid hd
  by_cases q : 3 * (Heb.dd y + 1) % 7 < 3
  · have he : Heb.el y = Heb.dd y + 1 := by unfold Heb.el; rw [if_pos q]
    rw [he]; clear he
    go_enter Try.func46, Try.ntmps46
    go_wp2_with (first | (go_at_call 53; refine (hbefore_any _ _ (by omega) (by omega)).mono ?_; rintro e w' ⟨rfl, kd, rfl⟩))
    clear hd
    go_wp2_with (first | (go_at_call 54; refine (floor_any _ _ _ (by omega) (by omega) (by omega) (by omega)).mono ?_; rintro e w' ⟨rfl, kd, rfl⟩))
    rw [hdH.out]
    go_wp2_with (first | (go_at_call 52; refine (mod_any _ _ _ (by omega) (by omega) (by omega) (by omega)).mono ?_; rintro e w' ⟨rfl, kd, rfl⟩))
    go_ret
    exact ⟨rfl, _, rfl⟩
  · have he : Heb.el y = Heb.dd y := by unfold Heb.el; rw [if_neg q]
    rw [he]; clear he
    go_enter Try.func46, Try.ntmps46
    go_wp2_with (first | (go_at_call 53; refine (hbefore_any _ _ (by omega) (by omega)).mono ?_; rintro e w' ⟨rfl, kd, rfl⟩))
    clear hd
    go_wp2_with (first | (go_at_call 54; refine (floor_any _ _ _ (by omega) (by omega) (by omega) (by omega)).mono ?_; rintro e w' ⟨rfl, kd, rfl⟩))
    rw [hdH.out]
    go_wp2_with (first | (go_at_call 52; refine (mod_any _ _ _ (by omega) (by omega) (by omega) (by omega)).mono ?_; rintro e w' ⟨rfl, kd, rfl⟩))
    go_ret
    exact ⟨rfl, _, rfl⟩
end Go.Proofs.Ytpoehjnhinapoaa
