/- Contracts of the reference of layer 2: lengths of months, the day of a date, the weekday. No conditions but those on sizes. -/
import Derived.Test.YtbfdmpjgdpglgaaCivil
import Derived.Test.YtbfdmpjgdpglgaaBox
import Derived.Deep.RegionHeld3
import Derived.Deep.RegionWith
namespace Go.Proofs.Ytbfdmpjgdpglgaa
open Go.ChangeShapes Go.WideShapes Go.ChangeAt Go.RowKit

theorem below_undrewQ {w w' : World} (h : Below w.drew.heap.size w.drew w') : Below w.heap.size w w' := ⟨h.os, h.tape, h.output, h.size, h.block⟩
theorem qleap_any (y : Int) (w : World) :
    Calls Try.prog 59 #[.int .i64 y] w fun e w' => e = .returned (.bool (Cal.leapGc y)) ∧ w = w' := by
  by_cases h1 : 1 ≤ y
  · by_cases h2 : y ≤ 9999
    · by_cases h400 : y % 400 = 0
      · have hl : Cal.leapGc y = true := by simp [Cal.leapGc, h1, h2, h400]; omega
        rw [hl]; clear hl
        go_enter Try.func59, Try.ntmps59
        go_wp2
        go_ret
        exact ⟨rfl, rfl⟩
      · have h6 : (y % 400 == 0) = false := by simpa using h400
        by_cases h4 : y % 4 = 0
        · have hl : Cal.leapGc y = (y % 100 != 0) := by rw [Bool.eq_iff_iff]; simp [Cal.leapGc, h1, h2, h4, h400]
          rw [hl]; clear hl h400
          go_enter Try.func59, Try.ntmps59
          go_wp2
          go_ret
          exact ⟨rfl, rfl⟩
        · have h7 : (y % 4 == 0) = false := by simpa using h4
          have hl : Cal.leapGc y = false := by simp [Cal.leapGc, h4]
          rw [hl]; clear hl h400 h4
          go_enter Try.func59, Try.ntmps59
          go_wp2
          go_ret
          exact ⟨rfl, rfl⟩
    · have hl : Cal.leapGc y = false := by simp [Cal.leapGc]; omega
      rw [hl]; clear hl
      go_enter Try.func59, Try.ntmps59
      go_wp2
      go_ret
      exact ⟨rfl, rfl⟩
  · have hl : Cal.leapGc y = false := by simp [Cal.leapGc]; omega
    rw [hl]; clear hl
    go_enter Try.func59, Try.ntmps59
    go_wp2
    go_ret
    exact ⟨rfl, rfl⟩
set_option maxHeartbeats 1000000 in
theorem qlength_any (y m : Int) (w : World) :
    Calls Try.prog 56 #[.int .i64 y, .int .i64 m] w fun e w' => e = .returned (.int .i64 (Cal.lenGc y m)) ∧ w = w' := by
  by_cases h : 1 ≤ y ∧ y ≤ 9999 ∧ 1 ≤ m ∧ m ≤ 12
  · have hl : Cal.lenGc y m = Cal.lenG y m := by unfold Cal.lenGc; rw [if_pos h]
    obtain ⟨h1, h2, h3, h4⟩ := h
    rw [hl]; clear hl
    rcases Cal.m12 h3 h4 with rfl | rfl | rfl | rfl | rfl | rfl | rfl | rfl | rfl | rfl | rfl | rfl
    · have hl : Cal.lenG y 1 = 31 := by simp [Cal.lenG, Cal.lenB]
      rw [hl]; clear hl
      go_enter Try.func56, Try.ntmps56
      go_wp2
      go_ret
      exact ⟨rfl, rfl⟩
    · by_cases h6 : Cal.leapGc y = true
      · have hl : Cal.lenG y 2 = 29 := by simp only [Cal.leapGc, decide_eq_true_eq] at h6; simp [Cal.lenG, Cal.lg]; omega
        rw [hl]; clear hl
        go_enter Try.func56, Try.ntmps56
        go_wp2_with (first | (go_at_call 59; refine (qleap_any _ _).mono ?_; rintro e w' ⟨rfl, rfl⟩))
        go_ret
        exact ⟨rfl, rfl⟩
      · have h6' : Cal.leapGc y = false := by simpa using h6
        have hl : Cal.lenG y 2 = 28 := by simp only [Cal.leapGc, decide_eq_true_eq] at h6; simp [Cal.lenG, Cal.lg]; omega
        rw [hl]; clear hl h6
        go_enter Try.func56, Try.ntmps56
        go_wp2_with (first | (go_at_call 59; refine (qleap_any _ _).mono ?_; rintro e w' ⟨rfl, rfl⟩))
        go_ret
        exact ⟨rfl, rfl⟩
    all_goals
      first
        | (have hl : ∀ y, Cal.lenG y 4 = 30 ∧ Cal.lenG y 6 = 30 ∧ Cal.lenG y 9 = 30 ∧ Cal.lenG y 11 = 30 ∧ Cal.lenG y 3 = 31 ∧ Cal.lenG y 5 = 31 ∧ Cal.lenG y 7 = 31 ∧ Cal.lenG y 8 = 31 ∧ Cal.lenG y 10 = 31 ∧ Cal.lenG y 12 = 31 := fun y => by simp [Cal.lenG, Cal.lenB])
      obtain ⟨a1, a2, a3, a4, a5, a6, a7, a8, a9, a10⟩ := hl y
      first | rw [a1] | rw [a2] | rw [a3] | rw [a4] | rw [a5] | rw [a6] | rw [a7] | rw [a8] | rw [a9] | rw [a10]
      clear hl a1 a2 a3 a4 a5 a6 a7 a8 a9 a10
      go_enter Try.func56, Try.ntmps56
      go_wp2
      go_ret
      exact ⟨rfl, rfl⟩
  · have hl : Cal.lenGc y m = 0 := by unfold Cal.lenGc; rw [if_neg h]
    have hways : y < 1 ∨ (¬ y < 1 ∧ 9999 < y) ∨ (¬ y < 1 ∧ ¬ 9999 < y ∧ m < 1) ∨ (¬ y < 1 ∧ ¬ 9999 < y ∧ ¬ m < 1 ∧ 12 < m) := by omega
    rw [hl]; clear hl h
    rcases hways with a | ⟨a, b⟩ | ⟨a, b, c⟩ | ⟨a, b, c, d⟩
    all_goals
      go_enter Try.func56, Try.ntmps56
      go_wp2
      go_ret
      exact ⟨rfl, rfl⟩
theorem qvalid_any (y m d : Int) (w : World) :
    Calls Try.prog 52 #[.agg #[.int .i64 y, .int .i64 m, .int .i64 d]] w fun e w' => e = .returned (.bool (Cal.okGb y m d)) ∧ Below w.heap.size w w' := by
  have hl := Cal.lenGc_bd y m
  rw [Cal.okGb_of]
  by_cases h1 : 1 ≤ d
  · go_enter Try.func52, Try.ntmps52
    go_wp2_with fail
    go_quiet ((first | (go_at_call 56; exact quiet_same (qlength_any _ _ _))))
    go_wp2
    go_ret
    exact ⟨by simp [h1], below_drewN (by go_grown) _⟩
  · have hd : decide (1 ≤ d) = false := by simpa using h1
    go_enter Try.func52, Try.ntmps52
    go_wp2_with fail
    go_quiet ((first | (go_at_call 56; exact quiet_same (qlength_any _ _ _))))
    go_wp2
    go_ret
    exact ⟨by simp [hd], below_drewN (by go_grown) _⟩
theorem qfirst_any (y : Int) (w : World) (h1 : 1 ≤ y) (h2 : y ≤ 10000) :
    Calls Try.prog 53 #[.int .i64 y] w fun e w' => e = .returned (.int .i64 (Cal.ysG y)) ∧ w = w' := by
  go_enter Try.func53, Try.ntmps53
  go_wp2
  go_ret
  exact ⟨ret_int (by unfold Cal.ysG; omega), rfl⟩
set_option maxHeartbeats 400000 in
theorem qyearday_any (y m d : Int) (w : World) (hv : Cal.okGb y m d = true) :
    Calls Try.prog 54 #[.agg #[.int .i64 y, .int .i64 m, .int .i64 d]] w fun e w' => e = .returned (.int .i64 (Cal.cumG y m + d)) ∧ Below w.heap.size w w' := by
  obtain ⟨h1, h2, h3, h4, h5, h6⟩ := Cal.okGb_iff.1 hv
  have hl := Cal.lenG_bd y m
  go_enter Try.func54, Try.ntmps54
  go_wp2_with (first | (go_at_call 52; refine (qvalid_any _ _ _ _).mono ?_; rintro e w' ⟨rfl, hb1⟩; obtain ⟨c0, c1, c2⟩ := box3 hb1))
  go_loop [3, 4] (fun t3 t4 => ∃ k : Int, 1 ≤ k ∧ k ≤ m ∧ t4 = .int .i64 k ∧ t3 = .int .i64 (Cal.cumG y k + d)) (fun _ t4 => (m - intOf t4).toNat)
  case atStart => exact ⟨1, by omega, h3, rfl, by congr 1; simp [Cal.cumG]⟩
  case round =>
    obtain ⟨k, hk1, hk2, rfl, rfl⟩ := hrel
    have hk3 := Cal.cumG_bd y hk1 (by omega)
    have hlg := Cal.lg_01 y
    have hlk := Cal.lenG_bd y k
    by_cases hlt : k < m
    · have hc : Cal.lenGc y k = Cal.lenG y k := by unfold Cal.lenGc; rw [if_pos (by omega)]
      have hs : Cal.cumG y k + d + Cal.lenGc y k = Cal.cumG y (k + 1) + d := by have := Cal.cumG_succ y hk1 (by omega); omega
      have hkc := Cal.lenGc_bd y k
      have hsH := Lib.hid hs
      clear hs hc
      go_wp2_with (first | (go_at_call 56; refine (qlength_any _ _ _).mono ?_; rintro e w' ⟨rfl, rfl⟩))
      go_round
      case rel => exact ⟨k + 1, by omega, by omega, rfl, val_int hsH.out⟩
      case measure => simp [intOf]; omega
    · obtain rfl : k = m := by omega
      go_wp2
      go_ret
      exact ⟨rfl, below_box hb1⟩
set_option maxHeartbeats 1000000 in
theorem qday_any (y m d : Int) (w : World) :
    Calls Try.prog 46 #[.agg #[.int .i64 y, .int .i64 m, .int .i64 d]] w fun e w' => e = .returned (.tuple #[.int .i64 (Cal.dayGn y m d), .int .i64 (Cal.dayGe y m d)]) ∧ Below w.heap.size w w' := by
  by_cases hv : Cal.okGb y m d = true
  · obtain ⟨h1, h2, h3, h4, h5, h6⟩ := Cal.okGb_iff.1 hv
    have hl := Cal.lenG_bd y m
    have hcb := Cal.cumG_bd y h3 h4
    have hyb := Cal.ysG_bd h1 (by omega)
    have hlg := Cal.lg_01 y
    have hn : Cal.dayGn y m d = Cal.ysG y + (Cal.cumG y m + d) - 1 := by simp [Cal.dayGn, hv, Cal.dayG]; omega
    have he : Cal.dayGe y m d = 0 := by simp [Cal.dayGe, hv]
    have hvH := Lib.hid hv
    rw [hn, he]; clear hn he
    go_enter Try.func46, Try.ntmps46
    go_wp2_with fail
    refine (qvalid_any _ _ _ _).mono ?_; rintro e w1 ⟨rfl, hb1⟩
    obtain ⟨lt, c0, c1, c2, _, _, _⟩ := Box3.born hb1
    have hb := below_box hb1
    clear hb1
    go_wp2_with fail
    go_region_held3 (fun w' => w'.cell? ⟨w.heap.size, 0, none⟩ = some (.int .i64 y) ∧ w'.cell? ⟨w.heap.size, 1, none⟩ = some (.int .i64 m) ∧ w'.cell? ⟨w.heap.size, 2, none⟩ = some (.int .i64 d))
      (first | go_keep | (go_split_ands; exact ⟨keep1 hb2 lt (by assumption), keep1 hb2 lt (by assumption), keep1 hb2 lt (by assumption)⟩))
      (first | (go_at_call 54; refine (qyearday_any _ _ _ _ hvH.out).mono ?_; rintro e w2 ⟨rfl, hb2⟩) | (go_at_call 53; refine (qfirst_any _ _ (by omega) (by omega)).mono ?_; rintro e w' ⟨rfl, rfl⟩))
    simp (disch := omega) only [IntWalk.i64_in]
    go_wp2_with fail
    go_ret2
    exact ⟨rfl, below_then hb (below_undrewQ hb2)⟩
  · have hn : Cal.dayGn y m d = 0 := by simp [Cal.dayGn, hv]
    have he : Cal.dayGe y m d = 1 := by simp [Cal.dayGe, hv]
    have hv' : Cal.okGb y m d = false := by simpa using hv
    rw [hn, he]; clear hn he hv
    go_enter Try.func46, Try.ntmps46
    go_wp2_with (first | (go_at_call 52; refine (qvalid_any _ _ _ _).mono ?_; rintro e w' ⟨rfl, hb1⟩; obtain ⟨c0, c1, c2⟩ := box3 hb1))
    go_ret2
    exact ⟨rfl, below_box hb1⟩
end Go.Proofs.Ytbfdmpjgdpglgaa
