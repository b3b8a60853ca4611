/- Contracts of the new years and the lengths of years and months, of package hebrew and of its reference. No conditions but those on sizes. -/
import Derived.Test.YtpoehjnhinapoaaHebR
namespace Heb
theorem bg_1a {y : Int} (h : el (y + 1) - el y = 356) : bg y = -2092590 + el y + 2 := by unfold bg; rw [if_pos h]
theorem bg_2a {y : Int} (h : ¬ el (y + 1) - el y = 356) (h2 : el y - el (y - 1) = 382) : bg y = -2092590 + el y + 1 := by unfold bg; rw [if_neg h, if_pos h2]
theorem bg_3a {y : Int} (h : ¬ el (y + 1) - el y = 356) (h2 : ¬ el y - el (y - 1) = 382) : bg y = -2092590 + el y := by unfold bg; rw [if_neg h, if_neg h2]
theorem bg_size {y : Int} (h1 : -4 ≤ y) (h2 : y ≤ 20099) : -2097000 ≤ bg y ∧ bg y ≤ 5500000 := by
  obtain ⟨_, _, _, _, _, _⟩ := dd_bd (y := y) (by omega) (by omega)
  unfold bg; split
  · omega
  · split <;> omega
theorem len_tab (y m : Int) (P : Int → Prop) (h1 : 1 ≤ m) (h2 : m ≤ 13) (h30 : m = 1 ∨ m = 3 ∨ m = 5 ∨ m = 7 ∨ m = 11 → P 30) (h29 : m = 2 ∨ m = 4 ∨ m = 6 ∨ m = 10 ∨ m = 13 → P 29)
    (h12 : m = 12 → P (if lp y then 30 else 29)) (h8 : m = 8 → P (if ylen y % 10 = 5 then 30 else 29)) (h9 : m = 9 → P (if ylen y % 10 = 3 then 29 else 30)) : P (len y m) := by
  have k : m = 1 ∨ m = 2 ∨ m = 3 ∨ m = 4 ∨ m = 5 ∨ m = 6 ∨ m = 7 ∨ m = 8 ∨ m = 9 ∨ m = 10 ∨ m = 11 ∨ m = 12 ∨ m = 13 := by omega
  rcases k with rfl | rfl | rfl | rfl | rfl | rfl | rfl | rfl | rfl | rfl | rfl | rfl | rfl <;> simp [len, lenA] <;> simp_all
end Heb
namespace Go.Proofs.Ytpoehjnhinapoaa
open Go.ChangeShapes Go.WideShapes Go.ChangeAt Go.RowKit

set_option maxHeartbeats 400000 in
theorem hbegin_any (y : Int) (w : World) (h1 : -4 ≤ y) (h2 : y ≤ 20099) :
    Calls Try.prog 45 #[.int .i64 y] w fun e w' => e = .returned (.int .i64 (Heb.bg y)) ∧ ∃ k, w' = w.drewN k := by
  obtain ⟨_, _, _, _, a1, a2⟩ := Heb.dd_bd (y := y - 1) (by omega) (by omega)
  obtain ⟨_, _, _, _, b1, b2⟩ := Heb.dd_bd (y := y) (by omega) (by omega)
  obtain ⟨_, _, _, _, c1, c2⟩ := Heb.dd_bd (y := y + 1) (by omega) (by omega)
  by_cases q1 : Heb.el (y + 1) - Heb.el y = 356
  · have q1' : (Heb.el (y + 1) - Heb.el y == 356) = true := by simpa using q1
    rw [Heb.bg_1a q1]; clear q1
    go_enter Try.func45, Try.ntmps45
    go_wp2_with (first | (go_at_call 46; refine (helapsed_any _ _ (by omega) (by omega)).mono ?_; rintro e w' ⟨rfl, kd, rfl⟩))
    go_ret
    exact ⟨rfl, _, rfl⟩
  · by_cases q2 : Heb.el y - Heb.el (y - 1) = 382
    · rw [Heb.bg_2a q1 q2]
      have q1' : (Heb.el (y + 1) - Heb.el y == 356) = false := by simpa using q1
      have q2' : (Heb.el y - Heb.el (y - 1) == 382) = true := by simpa using q2
      clear q1 q2
      go_enter Try.func45, Try.ntmps45
      go_wp2_with (first | (go_at_call 46; refine (helapsed_any _ _ (by omega) (by omega)).mono ?_; rintro e w' ⟨rfl, kd, rfl⟩))
      go_ret
      exact ⟨rfl, _, rfl⟩
    · rw [Heb.bg_3a q1 q2]
      have q1' : (Heb.el (y + 1) - Heb.el y == 356) = false := by simpa using q1
      have q2' : (Heb.el y - Heb.el (y - 1) == 382) = false := by simpa using q2
      clear q1 q2
      go_enter Try.func45, Try.ntmps45
      go_wp2_with (first | (go_at_call 46; refine (helapsed_any _ _ (by omega) (by omega)).mono ?_; rintro e w' ⟨rfl, kd, rfl⟩))
      go_ret
      exact ⟨rfl, _, rfl⟩
theorem hylen_any (y : Int) (w : World) :
    Calls Try.prog 18 #[.int .i64 y] w fun e w' => e = .returned (.int .i64 (Heb.ylenc y)) ∧ ∃ k, w' = w.drewN k := by
  by_cases hy : Heb.yB y = true
  · obtain ⟨h1, h2⟩ := Heb.yB_iff.1 hy
    have hl : Heb.ylenc y = Heb.bg (y + 1) - Heb.bg y := by simp [Heb.ylenc, hy, Heb.ylen]
    have s1 := Heb.bg_size (y := y) (by omega) (by omega)
    have s2 := Heb.bg_size (y := y + 1) (by omega) (by omega)
    rw [hl]; clear hl
    go_enter Try.func18, Try.ntmps18
    go_wp2_with (first | (go_at_call 43; refine (hyear_any _ _).mono ?_; rintro e w' ⟨rfl, rfl⟩) | (go_at_call 45; refine (hbegin_any _ _ (by omega) (by omega)).mono ?_; rintro e w' ⟨rfl, kd, rfl⟩))
    go_ret
    exact ⟨rfl, _, rfl⟩
  · have hl : Heb.ylenc y = 0 := by simp [Heb.ylenc, hy]
    have hy' : Heb.yB y = false := by simpa using hy
    rw [hl]; clear hl hy
    go_enter Try.func18, Try.ntmps18
    go_wp2_with (first | (go_at_call 43; refine (hyear_any _ _).mono ?_; rintro e w' ⟨rfl, rfl⟩))
    go_ret
    exact ⟨rfl, 0, rfl⟩
set_option maxHeartbeats 2000000 in
theorem hlength_any (y m : Int) (w : World) :
    Calls Try.prog 28 #[.int .i64 y, .int .i64 m] w fun e w' => e = .returned (.int .i64 (Heb.lenc y m)) ∧ ∃ k, w' = w.drewN k := by
  by_cases hm1 : 1 ≤ m
  · by_cases hm2 : m ≤ Heb.mthc y
    · obtain ⟨hy, hmm⟩ := Heb.mthc_y (y := y) (by omega)
      obtain ⟨h1, h2⟩ := Heb.yB_iff.1 hy
      have hmb := Heb.mths_bd y
      have hyl : Heb.ylenc y = Heb.ylen y := by simp [Heb.ylenc, hy]
      have hb := Heb.ylen_bd (y := y) (by omega) (by omega)
      have hlc : Heb.lenc y m = Heb.len y m := by unfold Heb.lenc; rw [if_pos ⟨hm1, hm2⟩]
      rw [hlc]; clear hlc
      have hylH := Lib.hid hyl
      have hyH := Lib.hid hy
      rw [← hyl] at hb
      have hm13 : m ≤ 13 := by omega
      clear hy hmm hyl
      refine Heb.len_tab y m (fun v => Calls Try.prog 28 #[.int .i64 y, .int .i64 m] w fun e w' => e = .returned (.int .i64 v) ∧ ∃ k, w' = w.drewN k) hm1 hm13 ?_ ?_ ?_ ?_ ?_
      · intro k
        rcases k with rfl | rfl | rfl | rfl | rfl
        all_goals
          go_enter Try.func28, Try.ntmps28
          go_wp2_with (first | (go_at_call 17; refine (hmonths_any _ _).mono ?_; rintro e w' ⟨rfl, kd, rfl⟩) | (go_at_call 18; refine (hylen_any _ _).mono ?_; rintro e w' ⟨rfl, kd, rfl⟩))
          go_ret
          exact ⟨rfl, _, rfl⟩
      · intro k
        rcases k with rfl | rfl | rfl | rfl | rfl
        all_goals
          go_enter Try.func28, Try.ntmps28
          go_wp2_with (first | (go_at_call 17; refine (hmonths_any _ _).mono ?_; rintro e w' ⟨rfl, kd, rfl⟩) | (go_at_call 18; refine (hylen_any _ _).mono ?_; rintro e w' ⟨rfl, kd, rfl⟩))
          go_ret
          exact ⟨rfl, _, rfl⟩
      · rintro rfl
        by_cases q : Heb.lp y = true
        all_goals
          try have q : Heb.lp y = false := by simpa using q
          rw [q]
          go_enter Try.func28, Try.ntmps28
          go_wp2_with (first | (go_at_call 17; refine (hmonths_any _ _).mono ?_; rintro e w' ⟨rfl, kd, rfl⟩) | (go_at_call 18; refine (hylen_any _ _).mono ?_; rintro e w' ⟨rfl, kd, rfl⟩) | (go_at_call 44; refine (hleap_any _ _ (by omega) (by omega)).mono ?_; rintro e w' ⟨rfl, kd, rfl⟩))
          go_ret
          exact ⟨rfl, _, rfl⟩
      · rintro rfl
        rw [← hylH.out]
        by_cases q : Heb.ylenc y % 10 = 5
        · rw [if_pos q]
          have q' : (Heb.ylenc y % 10 != 5) = false := by simpa using q
          go_enter Try.func28, Try.ntmps28
          go_wp2_with (first | (go_at_call 17; refine (hmonths_any _ _).mono ?_; rintro e w' ⟨rfl, kd, rfl⟩) | (go_at_call 18; refine (hylen_any _ _).mono ?_; rintro e w' ⟨rfl, kd, rfl⟩))
          go_ret
          exact ⟨rfl, _, rfl⟩
        · rw [if_neg q]
          have q' : (Heb.ylenc y % 10 != 5) = true := by simpa using q
          clear q
          go_enter Try.func28, Try.ntmps28
          go_wp2_with (first | (go_at_call 17; refine (hmonths_any _ _).mono ?_; rintro e w' ⟨rfl, kd, rfl⟩) | (go_at_call 18; refine (hylen_any _ _).mono ?_; rintro e w' ⟨rfl, kd, rfl⟩))
          go_ret
          exact ⟨rfl, _, rfl⟩
      · rintro rfl
        rw [← hylH.out]
        by_cases q : Heb.ylenc y % 10 = 3
        · rw [if_pos q]
          go_enter Try.func28, Try.ntmps28
          go_wp2_with (first | (go_at_call 17; refine (hmonths_any _ _).mono ?_; rintro e w' ⟨rfl, kd, rfl⟩) | (go_at_call 18; refine (hylen_any _ _).mono ?_; rintro e w' ⟨rfl, kd, rfl⟩))
          go_ret
          exact ⟨rfl, _, rfl⟩
        · rw [if_neg q]
          have q' : (Heb.ylenc y % 10 == 3) = false := by simpa using q
          clear q
          go_enter Try.func28, Try.ntmps28
          go_wp2_with (first | (go_at_call 17; refine (hmonths_any _ _).mono ?_; rintro e w' ⟨rfl, kd, rfl⟩) | (go_at_call 18; refine (hylen_any _ _).mono ?_; rintro e w' ⟨rfl, kd, rfl⟩))
          go_ret
          exact ⟨rfl, _, rfl⟩
    · have hl : Heb.lenc y m = 0 := by unfold Heb.lenc; rw [if_neg (fun q => hm2 q.2)]
      rw [hl]; clear hl
      go_enter Try.func28, Try.ntmps28
      go_wp2_with (first | (go_at_call 17; refine (hmonths_any _ _).mono ?_; rintro e w' ⟨rfl, kd, rfl⟩))
      go_ret
      exact ⟨rfl, _, rfl⟩
  · have hl : Heb.lenc y m = 0 := by unfold Heb.lenc; rw [if_neg (fun q => hm1 q.1)]
    rw [hl]; clear hl
    go_enter Try.func28, Try.ntmps28
    go_wp2
    go_ret
    exact ⟨rfl, 0, rfl⟩
set_option maxHeartbeats 400000 in
theorem rhnew_any (y : Int) (w : World) (h1 : -4 ≤ y) (h2 : y ≤ 20099) :
    Calls Try.prog 27 #[.int .i64 y] w fun e w' => e = .returned (.int .i64 (Heb.bg y)) ∧ w = w' := by
  obtain ⟨_, _, _, _, a1, a2⟩ := Heb.dd_bd (y := y - 1) (by omega) (by omega)
  obtain ⟨_, _, _, _, b1, b2⟩ := Heb.dd_bd (y := y) (by omega) (by omega)
  obtain ⟨_, _, _, _, c1, c2⟩ := Heb.dd_bd (y := y + 1) (by omega) (by omega)
  by_cases q1 : Heb.el (y + 1) - Heb.el y = 356
  · have q1' : (Heb.el (y + 1) - Heb.el y == 356) = true := by simpa using q1
    rw [Heb.bg_1a q1]; clear q1
    go_enter Try.func27, Try.ntmps27
    go_wp2_with (first | (go_at_call 26; refine (rhelapsed_any _ _ (by omega) (by omega)).mono ?_; rintro e w' ⟨rfl, rfl⟩))
    go_ret
    exact ⟨rfl, rfl⟩
  · by_cases q2 : Heb.el y - Heb.el (y - 1) = 382
    · rw [Heb.bg_2a q1 q2]
      have q1' : (Heb.el (y + 1) - Heb.el y == 356) = false := by simpa using q1
      have q2' : (Heb.el y - Heb.el (y - 1) == 382) = true := by simpa using q2
      clear q1 q2
      go_enter Try.func27, Try.ntmps27
      go_wp2_with (first | (go_at_call 26; refine (rhelapsed_any _ _ (by omega) (by omega)).mono ?_; rintro e w' ⟨rfl, rfl⟩))
      go_ret
      exact ⟨rfl, rfl⟩
    · rw [Heb.bg_3a q1 q2]
      have q1' : (Heb.el (y + 1) - Heb.el y == 356) = false := by simpa using q1
      have q2' : (Heb.el y - Heb.el (y - 1) == 382) = false := by simpa using q2
      clear q1 q2
      go_enter Try.func27, Try.ntmps27
      go_wp2_with (first | (go_at_call 26; refine (rhelapsed_any _ _ (by omega) (by omega)).mono ?_; rintro e w' ⟨rfl, rfl⟩))
      go_ret
      exact ⟨rfl, rfl⟩
theorem rhylen_any (y : Int) (w : World) :
    Calls Try.prog 24 #[.int .i64 y] w fun e w' => e = .returned (.int .i64 (Heb.ylenc y)) ∧ w = w' := by
  by_cases hy : Heb.yB y = true
  · obtain ⟨h1, h2⟩ := Heb.yB_iff.1 hy
    have hl : Heb.ylenc y = Heb.bg (y + 1) - Heb.bg y := by simp [Heb.ylenc, hy, Heb.ylen]
    have s1 := Heb.bg_size (y := y) (by omega) (by omega)
    have s2 := Heb.bg_size (y := y + 1) (by omega) (by omega)
    rw [hl]; clear hl
    go_enter Try.func24, Try.ntmps24
    go_wp2_with (first | (go_at_call 25; refine (rhyear_any _ _).mono ?_; rintro e w' ⟨rfl, rfl⟩) | (go_at_call 27; refine (rhnew_any _ _ (by omega) (by omega)).mono ?_; rintro e w' ⟨rfl, rfl⟩))
    go_ret
    exact ⟨rfl, rfl⟩
  · have hl : Heb.ylenc y = 0 := by simp [Heb.ylenc, hy]
    have hy' : Heb.yB y = false := by simpa using hy
    rw [hl]; clear hl hy
    go_enter Try.func24, Try.ntmps24
    go_wp2_with (first | (go_at_call 25; refine (rhyear_any _ _).mono ?_; rintro e w' ⟨rfl, rfl⟩))
    go_ret
    exact ⟨rfl, rfl⟩
set_option maxHeartbeats 2000000 in
theorem rhlength_any (y m : Int) (w : World) :
    Calls Try.prog 32 #[.int .i64 y, .int .i64 m] w fun e w' => e = .returned (.int .i64 (Heb.lenc y m)) ∧ w = w' := by
  by_cases hm1 : 1 ≤ m
  · by_cases hm2 : m ≤ Heb.mthc y
    · obtain ⟨hy, hmm⟩ := Heb.mthc_y (y := y) (by omega)
      obtain ⟨h1, h2⟩ := Heb.yB_iff.1 hy
      have hmb := Heb.mths_bd y
      have hyl : Heb.ylenc y = Heb.ylen y := by simp [Heb.ylenc, hy]
      have hb := Heb.ylen_bd (y := y) (by omega) (by omega)
      have hlc : Heb.lenc y m = Heb.len y m := by unfold Heb.lenc; rw [if_pos ⟨hm1, hm2⟩]
      rw [hlc]; clear hlc
      have hylH := Lib.hid hyl
      have hyH := Lib.hid hy
      rw [← hyl] at hb
      have hm13 : m ≤ 13 := by omega
      clear hy hmm hyl
      refine Heb.len_tab y m (fun v => Calls Try.prog 32 #[.int .i64 y, .int .i64 m] w fun e w' => e = .returned (.int .i64 v) ∧ w = w') hm1 hm13 ?_ ?_ ?_ ?_ ?_
      · intro k
        rcases k with rfl | rfl | rfl | rfl | rfl
        all_goals
          go_enter Try.func32, Try.ntmps32
          go_wp2_with (first | (go_at_call 23; refine (rhmonths_any _ _).mono ?_; rintro e w' ⟨rfl, rfl⟩) | (go_at_call 24; refine (rhylen_any _ _).mono ?_; rintro e w' ⟨rfl, rfl⟩))
          go_ret
          exact ⟨rfl, rfl⟩
      · intro k
        rcases k with rfl | rfl | rfl | rfl | rfl
        all_goals
          go_enter Try.func32, Try.ntmps32
          go_wp2_with (first | (go_at_call 23; refine (rhmonths_any _ _).mono ?_; rintro e w' ⟨rfl, rfl⟩) | (go_at_call 24; refine (rhylen_any _ _).mono ?_; rintro e w' ⟨rfl, rfl⟩))
          go_ret
          exact ⟨rfl, rfl⟩
      · rintro rfl
        by_cases q : Heb.lp y = true
        all_goals
          try have q : Heb.lp y = false := by simpa using q
          rw [q]
          go_enter Try.func32, Try.ntmps32
          go_wp2_with (first | (go_at_call 23; refine (rhmonths_any _ _).mono ?_; rintro e w' ⟨rfl, rfl⟩) | (go_at_call 24; refine (rhylen_any _ _).mono ?_; rintro e w' ⟨rfl, rfl⟩) | (go_at_call 47; refine (rhleap_any _ _ (by omega) (by omega)).mono ?_; rintro e w' ⟨rfl, rfl⟩))
          go_ret
          exact ⟨rfl, rfl⟩
      · rintro rfl
        rw [← hylH.out]
        by_cases q : Heb.ylenc y % 10 = 5
        · rw [if_pos q]
          have q' : (Heb.ylenc y % 10 != 5) = false := by simpa using q
          go_enter Try.func32, Try.ntmps32
          go_wp2_with (first | (go_at_call 23; refine (rhmonths_any _ _).mono ?_; rintro e w' ⟨rfl, rfl⟩) | (go_at_call 24; refine (rhylen_any _ _).mono ?_; rintro e w' ⟨rfl, rfl⟩))
          go_ret
          exact ⟨rfl, rfl⟩
        · rw [if_neg q]
          have q' : (Heb.ylenc y % 10 != 5) = true := by simpa using q
          clear q
          go_enter Try.func32, Try.ntmps32
          go_wp2_with (first | (go_at_call 23; refine (rhmonths_any _ _).mono ?_; rintro e w' ⟨rfl, rfl⟩) | (go_at_call 24; refine (rhylen_any _ _).mono ?_; rintro e w' ⟨rfl, rfl⟩))
          go_ret
          exact ⟨rfl, rfl⟩
      · rintro rfl
        rw [← hylH.out]
        by_cases q : Heb.ylenc y % 10 = 3
        · rw [if_pos q]
          go_enter Try.func32, Try.ntmps32
          go_wp2_with (first | (go_at_call 23; refine (rhmonths_any _ _).mono ?_; rintro e w' ⟨rfl, rfl⟩) | (go_at_call 24; refine (rhylen_any _ _).mono ?_; rintro e w' ⟨rfl, rfl⟩))
          go_ret
          exact ⟨rfl, rfl⟩
        · rw [if_neg q]
          have q' : (Heb.ylenc y % 10 == 3) = false := by simpa using q
          clear q
          go_enter Try.func32, Try.ntmps32
          go_wp2_with (first | (go_at_call 23; refine (rhmonths_any _ _).mono ?_; rintro e w' ⟨rfl, rfl⟩) | (go_at_call 24; refine (rhylen_any _ _).mono ?_; rintro e w' ⟨rfl, rfl⟩))
          go_ret
          exact ⟨rfl, rfl⟩
    · have hl : Heb.lenc y m = 0 := by unfold Heb.lenc; rw [if_neg (fun q => hm2 q.2)]
      rw [hl]; clear hl
      go_enter Try.func32, Try.ntmps32
      go_wp2_with (first | (go_at_call 23; refine (rhmonths_any _ _).mono ?_; rintro e w' ⟨rfl, rfl⟩))
      go_ret
      exact ⟨rfl, rfl⟩
  · have hl : Heb.lenc y m = 0 := by unfold Heb.lenc; rw [if_neg (fun q => hm1 q.1)]
    rw [hl]; clear hl
    go_enter Try.func32, Try.ntmps32
    go_wp2
    go_ret
    exact ⟨rfl, rfl⟩
end Go.Proofs.Ytpoehjnhinapoaa
