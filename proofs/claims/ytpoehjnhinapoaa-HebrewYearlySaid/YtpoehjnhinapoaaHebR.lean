/- Contracts of the small functions of the reference of layer 7: leap years, months, elapsed days, new years, lengths. No conditions but those on sizes. -/
import Derived.Test.YtpoehjnhinapoaaHebA
namespace Go.Proofs.Ytpoehjnhinapoaa
open Go.ChangeShapes Go.WideShapes Go.ChangeAt Go.RowKit

theorem rhfloor_any (a b : Int) (w : World) (ha : -4611686018427387904 ≤ a) (ha' : a ≤ 4611686018427387904) (hb : 1 ≤ b) (hb' : b ≤ 2147483647) :
    Calls Try.prog 49 #[.int .i64 a, .int .i64 b] w fun e w' => e = .returned (.int .i64 (a / b)) ∧ w = w' := by
  have m0 := Int.emod_nonneg a (b := b) (by omega)
  have m1 := Int.emod_lt_of_pos a (b := b) (by omega)
  by_cases h : 0 ≤ a
  · have hd := (div_le (a := a) hb).1 h
    have ht := tdiv_pos (b := b) h
    have hm := tmod_pos (b := b) h
    have hl : ¬ a % b < 0 := by omega
    go_enter Try.func49, Try.ntmps49
    go_wp2
    go_ret
    exact ⟨rfl, rfl⟩
  · have hd := (div_le (a := a) hb).2 (by omega)
    by_cases k : b ∣ a
    · have hq := tdiv_neg_dvd k
      have hr := tmod_neg_dvd k
      go_enter Try.func49, Try.ntmps49
      go_wp2
      go_ret
      exact ⟨rfl, rfl⟩
    · have hq := tdiv_neg_not (by omega) hb k
      have hr := tmod_neg_not (by omega) hb k
      have hl : a % b - b < 0 := by omega
      go_enter Try.func49, Try.ntmps49
      go_wp2
      go_ret
      exact ⟨rfl, rfl⟩
theorem rhrest_any (a b : Int) (w : World) (ha : -4611686018427387904 ≤ a) (ha' : a ≤ 4611686018427387904) (hb : 1 ≤ b) (hb' : b ≤ 2147483647) :
    Calls Try.prog 50 #[.int .i64 a, .int .i64 b] w fun e w' => e = .returned (.int .i64 (a % b)) ∧ w = w' := by
  have m0 := Int.emod_nonneg a (b := b) (by omega)
  have m1 := Int.emod_lt_of_pos a (b := b) (by omega)
  have hmul : b * (a / b) = a - a % b := by have := Int.mul_ediv_add_emod a b; omega
  have hw : IntKind.i64.wrap (b * (a / b)) = a - a % b := by rw [hmul]; exact IntWalk.i64_in _ (by omega)
  have hw2 : IntKind.i64.wrap (a - (a - a % b)) = a % b := by rw [show a - (a - a % b) = a % b by omega]; exact IntWalk.i64_in _ (by omega)
  clear hmul
  go_enter Try.func50, Try.ntmps50
  go_wp2_with (first | (go_at_call 49; refine (rhfloor_any _ _ _ (by omega) (by omega) (by omega) (by omega)).mono ?_; rintro e w' ⟨rfl, rfl⟩))
  go_ret
  exact ⟨rfl, rfl⟩
theorem rhyear_any (y : Int) (w : World) :
    Calls Try.prog 25 #[.int .i64 y] w fun e w' => e = .returned (.bool (Heb.yB y)) ∧ w = w' := by
  have hl : Heb.yB y = (decide (1 ≤ y) && decide (y ≤ 20000)) := by rw [Bool.eq_iff_iff]; simp [Heb.yB]
  rw [hl]; clear hl
  by_cases h1 : 1 ≤ y
  · go_enter Try.func25, Try.ntmps25
    go_wp2
    go_ret
    exact ⟨by simp [h1], rfl⟩
  · go_enter Try.func25, Try.ntmps25
    go_wp2
    go_ret
    exact ⟨by simp; omega, rfl⟩
theorem rhleap_any (y : Int) (w : World) (h1 : -1000000 ≤ y) (h2 : y ≤ 1000000) :
    Calls Try.prog 47 #[.int .i64 y] w fun e w' => e = .returned (.bool (Heb.lp y)) ∧ w = w' := by
  have hl : Heb.lp y = decide ((7 * y + 1) % 19 < 7) := rfl
  rw [hl]; clear hl
  go_enter Try.func47, Try.ntmps47
  go_wp2_with (first | (go_at_call 50; refine (rhrest_any _ _ _ (by omega) (by omega) (by omega) (by omega)).mono ?_; rintro e w' ⟨rfl, rfl⟩))
  go_ret
  exact ⟨rfl, rfl⟩
theorem rhLeap_any (y : Int) (w : World) :
    Calls Try.prog 22 #[.int .i64 y] w fun e w' => e = .returned (.bool (Heb.leap y)) ∧ w = w' := by
  by_cases hy : Heb.yB y = true
  · have hl : Heb.leap y = Heb.lp y := by simp [Heb.leap, hy]
    obtain ⟨h1, h2⟩ := Heb.yB_iff.1 hy
    rw [hl]; clear hl
    go_enter Try.func22, Try.ntmps22
    go_wp2_with (first | (go_at_call 25; refine (rhyear_any _ _).mono ?_; rintro e w' ⟨rfl, rfl⟩) | (go_at_call 47; refine (rhleap_any _ _ (by omega) (by omega)).mono ?_; rintro e w' ⟨rfl, rfl⟩))
    go_ret
    exact ⟨rfl, rfl⟩
  · have hl : Heb.leap y = false := by simp [Heb.leap, hy]
    have hy' : Heb.yB y = false := by simpa using hy
    rw [hl]; clear hl hy
    go_enter Try.func22, Try.ntmps22
    go_wp2_with (first | (go_at_call 25; refine (rhyear_any _ _).mono ?_; rintro e w' ⟨rfl, rfl⟩))
    go_ret
    exact ⟨rfl, rfl⟩
theorem rhmonths_any (y : Int) (w : World) :
    Calls Try.prog 23 #[.int .i64 y] w fun e w' => e = .returned (.int .i64 (Heb.mthc y)) ∧ w = w' := by
  by_cases hy : Heb.yB y = true
  · obtain ⟨h1, h2⟩ := Heb.yB_iff.1 hy
    by_cases hl : Heb.lp y = true
    · have hm : Heb.mthc y = 13 := by simp [Heb.mthc, hy, Heb.mths, hl]
      rw [hm]; clear hm
      go_enter Try.func23, Try.ntmps23
      go_wp2_with (first | (go_at_call 25; refine (rhyear_any _ _).mono ?_; rintro e w' ⟨rfl, rfl⟩) | (go_at_call 47; refine (rhleap_any _ _ (by omega) (by omega)).mono ?_; rintro e w' ⟨rfl, rfl⟩))
      go_ret
      exact ⟨rfl, rfl⟩
    · have hm : Heb.mthc y = 12 := by simp [Heb.mthc, hy, Heb.mths, hl]
      have hl' : Heb.lp y = false := by simpa using hl
      rw [hm]; clear hm hl
      go_enter Try.func23, Try.ntmps23
      go_wp2_with (first | (go_at_call 25; refine (rhyear_any _ _).mono ?_; rintro e w' ⟨rfl, rfl⟩) | (go_at_call 47; refine (rhleap_any _ _ (by omega) (by omega)).mono ?_; rintro e w' ⟨rfl, rfl⟩))
      go_ret
      exact ⟨rfl, rfl⟩
  · have hm : Heb.mthc y = 0 := by simp [Heb.mthc, hy]
    have hy' : Heb.yB y = false := by simpa using hy
    rw [hm]; clear hm hy
    go_enter Try.func23, Try.ntmps23
    go_wp2_with (first | (go_at_call 25; refine (rhyear_any _ _).mono ?_; rintro e w' ⟨rfl, rfl⟩))
    go_ret
    exact ⟨rfl, rfl⟩
theorem rhbefore_any (y : Int) (w : World) (h1 : -1000000 ≤ y) (h2 : y ≤ 1000000) :
    Calls Try.prog 48 #[.int .i64 y] w fun e w' => e = .returned (.int .i64 (Heb.bf y)) ∧ w = w' := by
  go_enter Try.func48, Try.ntmps48
  go_wp2_with (first | (go_at_call 49; refine (rhfloor_any _ _ _ (by omega) (by omega) (by omega) (by omega)).mono ?_; rintro e w' ⟨rfl, rfl⟩))
  go_ret
  exact ⟨rfl, rfl⟩
set_option maxHeartbeats 400000 in
theorem rhelapsed_any (y : Int) (w : World) (h1 : -5 ≤ y) (h2 : y ≤ 20100) :
    Calls Try.prog 26 #[.int .i64 y] w fun e w' => e = .returned (.int .i64 (Heb.el y)) ∧ w = w' := by
  obtain ⟨b1, b2, d1, d2, _, _⟩ := Heb.dd_bd h1 h2
  have hd : 29 * Heb.bf y + (12084 + 13753 * Heb.bf y) / 25920 = Heb.dd y := rfl
  have hdH := Lib.hid hd
  by_cases q : 3 * (Heb.dd y + 1) % 7 < 3
  · have he : Heb.el y = Heb.dd y + 1 := by unfold Heb.el; rw [if_pos q]
    rw [he]; clear he
    go_enter Try.func26, Try.ntmps26
    go_wp2_with (first | (go_at_call 48; refine (rhbefore_any _ _ (by omega) (by omega)).mono ?_; rintro e w' ⟨rfl, rfl⟩))
    clear hd
    go_wp2_with (first | (go_at_call 49; refine (rhfloor_any _ _ _ (by omega) (by omega) (by omega) (by omega)).mono ?_; rintro e w' ⟨rfl, rfl⟩))
    rw [hdH.out]
    go_wp2_with (first | (go_at_call 50; refine (rhrest_any _ _ _ (by omega) (by omega) (by omega) (by omega)).mono ?_; rintro e w' ⟨rfl, rfl⟩))
    go_ret
    exact ⟨rfl, rfl⟩
  · have he : Heb.el y = Heb.dd y := by unfold Heb.el; rw [if_neg q]
    rw [he]; clear he
    go_enter Try.func26, Try.ntmps26
    go_wp2_with (first | (go_at_call 48; refine (rhbefore_any _ _ (by omega) (by omega)).mono ?_; rintro e w' ⟨rfl, rfl⟩))
    clear hd
    go_wp2_with (first | (go_at_call 49; refine (rhfloor_any _ _ _ (by omega) (by omega) (by omega) (by omega)).mono ?_; rintro e w' ⟨rfl, rfl⟩))
    rw [hdH.out]
    go_wp2_with (first | (go_at_call 50; refine (rhrest_any _ _ _ (by omega) (by omega) (by omega) (by omega)).mono ?_; rintro e w' ⟨rfl, rfl⟩))
    go_ret
    exact ⟨rfl, rfl⟩
end Go.Proofs.Ytpoehjnhinapoaa
