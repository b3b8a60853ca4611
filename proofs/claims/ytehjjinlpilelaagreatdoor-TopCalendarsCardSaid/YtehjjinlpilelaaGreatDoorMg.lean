/- Contracts of the Hebrew calendar's years. Conditions: those on sizes. -/
import Derived.Test.YtehjjinlpilelaaGreatDoorMa
import Derived.Test.YtehjjinlpilelaaGreatDoorMb
namespace Heb
theorem dd_bd {y : Int} (h1 : -5 ≤ y) (h2 : y ≤ 20100) : -100 ≤ bf y ∧ bf y ≤ 250000 ∧ -4000 ≤ dd y ∧ dd y ≤ 7500000 ∧ -4000 ≤ el y ∧ el y ≤ 7500001 := by
  have hb : -100 ≤ bf y ∧ bf y ≤ 250000 := by unfold bf; omega
  have hd : -4000 ≤ dd y ∧ dd y ≤ 7500000 := by unfold dd; omega
  unfold el; split <;> omega
end Heb
namespace Go.Proofs.YtehjjinlpilelaaGreatDoor
set_option maxRecDepth 100000
open Go.ChangeShapes Go.WideShapes Go.ChangeAt Go.RowKit

theorem hyear_any (y : Int) (w : World) :
    Calls Tryz.prog 116 #[.int .i64 y] w fun e w' => e = .returned (.bool (Heb.yB y)) ∧ w = w' := by
  have hl : Heb.yB y = (decide (1 ≤ y) && decide (y ≤ 20000)) := by rw [Bool.eq_iff_iff]; simp [Heb.yB]
  rw [hl]; clear hl
  by_cases h1 : 1 ≤ y
  · go_enter Tryz.func116, Tryz.ntmps116
    go_wp2
    go_ret
    exact ⟨by simp [h1], rfl⟩
  · go_enter Tryz.func116, Tryz.ntmps116
    go_wp2
    go_ret
    exact ⟨by simp; omega, rfl⟩
theorem hleap_any (y : Int) (w : World) (h1 : -1000000 ≤ y) (h2 : y ≤ 1000000) :
    Calls Tryz.prog 108 #[.int .i64 y] w fun e w' => e = .returned (.bool (Heb.lp y)) ∧ ∃ k, w' = w.drewN k := by
  have hl : Heb.lp y = decide ((7 * y + 1) % 19 < 7) := rfl
  rw [hl]; clear hl
  go_enter Tryz.func108, Tryz.ntmps108
  go_wp2_with (first | (go_at_call 42; refine (mod_any _ _ _ (by omega) (by omega) (by omega) (by omega)).mono ?_; rintro e w' ⟨rfl, kd, rfl⟩))
  go_ret
  exact ⟨rfl, _, rfl⟩
theorem hmonths_any (y : Int) (w : World) :
    Calls Tryz.prog 107 #[.int .i64 y] w fun e w' => e = .returned (.int .i64 (Heb.mthc y)) ∧ ∃ k, w' = w.drewN k := by
  by_cases hy : Heb.yB y = true
  · obtain ⟨h1, h2⟩ := Heb.yB_iff.1 hy
    by_cases hl : Heb.lp y = true
    · have hm : Heb.mthc y = 13 := by simp [Heb.mthc, hy, Heb.mths, hl]
      rw [hm]; clear hm
      go_enter Tryz.func107, Tryz.ntmps107
      go_wp2_with (first | (go_at_call 116; refine (hyear_any _ _).mono ?_; rintro e w' ⟨rfl, rfl⟩) | (go_at_call 108; refine (hleap_any _ _ (by omega) (by omega)).mono ?_; rintro e w' ⟨rfl, kd, rfl⟩))
      go_ret
      exact ⟨rfl, _, rfl⟩
    · have hm : Heb.mthc y = 12 := by simp [Heb.mthc, hy, Heb.mths, hl]
      have hl' : Heb.lp y = false := by simpa using hl
      rw [hm]; clear hm hl
      go_enter Tryz.func107, Tryz.ntmps107
      go_wp2_with (first | (go_at_call 116; refine (hyear_any _ _).mono ?_; rintro e w' ⟨rfl, rfl⟩) | (go_at_call 108; refine (hleap_any _ _ (by omega) (by omega)).mono ?_; rintro e w' ⟨rfl, kd, rfl⟩))
      go_ret
      exact ⟨rfl, _, rfl⟩
  · have hm : Heb.mthc y = 0 := by simp [Heb.mthc, hy]
    have hy' : Heb.yB y = false := by simpa using hy
    rw [hm]; clear hm hy
    go_enter Tryz.func107, Tryz.ntmps107
    go_wp2_with (first | (go_at_call 116; refine (hyear_any _ _).mono ?_; rintro e w' ⟨rfl, rfl⟩))
    go_ret
    exact ⟨rfl, 0, rfl⟩
theorem hbefore_any (y : Int) (w : World) (h1 : -1000000 ≤ y) (h2 : y ≤ 1000000) :
    Calls Tryz.prog 115 #[.int .i64 y] w fun e w' => e = .returned (.int .i64 (Heb.bf y)) ∧ ∃ k, w' = w.drewN k := by
  go_enter Tryz.func115, Tryz.ntmps115
  go_wp2_with (first | (go_at_call 34; refine (floor_any _ _ _ (by omega) (by omega) (by omega) (by omega)).mono ?_; rintro e w' ⟨rfl, kd, rfl⟩))
  go_ret
  exact ⟨rfl, _, rfl⟩
set_option maxHeartbeats 400000 in
theorem helapsed_any (y : Int) (w : World) (h1 : -5 ≤ y) (h2 : y ≤ 20100) :
    Calls Tryz.prog 106 #[.int .i64 y] w fun e w' => e = .returned (.int .i64 (Heb.el y)) ∧ ∃ k, w' = w.drewN k := by
  obtain ⟨b1, b2, d1, d2, _, _⟩ := Heb.dd_bd h1 h2
  have hd : 29 * Heb.bf y + (12084 + 13753 * Heb.bf y) / 25920 = Heb.dd y := rfl
  have hdH := Lib.hid hd
  by_cases q : 3 * (Heb.dd y + 1) % 7 < 3
  · have he : Heb.el y = Heb.dd y + 1 := by unfold Heb.el; rw [if_pos q]
    rw [he]; clear he
    go_enter Tryz.func106, Tryz.ntmps106
    go_wp2_with (first | (go_at_call 115; refine (hbefore_any _ _ (by omega) (by omega)).mono ?_; rintro e w' ⟨rfl, kd, rfl⟩))
    clear hd
    go_wp2_with (first | (go_at_call 34; refine (floor_any _ _ _ (by omega) (by omega) (by omega) (by omega)).mono ?_; rintro e w' ⟨rfl, kd, rfl⟩))
    rw [hdH.out]
    go_wp2_with (first | (go_at_call 42; refine (mod_any _ _ _ (by omega) (by omega) (by omega) (by omega)).mono ?_; rintro e w' ⟨rfl, kd, rfl⟩))
    go_ret
    exact ⟨rfl, _, rfl⟩
  · have he : Heb.el y = Heb.dd y := by unfold Heb.el; rw [if_neg q]
    rw [he]; clear he
    go_enter Tryz.func106, Tryz.ntmps106
    go_wp2_with (first | (go_at_call 115; refine (hbefore_any _ _ (by omega) (by omega)).mono ?_; rintro e w' ⟨rfl, kd, rfl⟩))
    clear hd
    go_wp2_with (first | (go_at_call 34; refine (floor_any _ _ _ (by omega) (by omega) (by omega) (by omega)).mono ?_; rintro e w' ⟨rfl, kd, rfl⟩))
    rw [hdH.out]
    go_wp2_with (first | (go_at_call 42; refine (mod_any _ _ _ (by omega) (by omega) (by omega) (by omega)).mono ?_; rintro e w' ⟨rfl, kd, rfl⟩))
    go_ret
    exact ⟨rfl, _, rfl⟩
end Go.Proofs.YtehjjinlpilelaaGreatDoor
namespace Go.Proofs.YtehjjinlpilelaaGreatDoor
set_option maxRecDepth 100000
open Go.ChangeShapes Go.WideShapes Go.ChangeAt Go.RowKit

end Go.Proofs.YtehjjinlpilelaaGreatDoor
namespace Heb
theorem bg_1a {y : Int} (h : el (y + 1) - el y = 356) : bg y = -2092590 + el y + 2 := by unfold bg; rw [if_pos h]
theorem bg_2a {y : Int} (h : ¬ el (y + 1) - el y = 356) (h2 : el y - el (y - 1) = 382) : bg y = -2092590 + el y + 1 := by unfold bg; rw [if_neg h, if_pos h2]
theorem bg_3a {y : Int} (h : ¬ el (y + 1) - el y = 356) (h2 : ¬ el y - el (y - 1) = 382) : bg y = -2092590 + el y := by unfold bg; rw [if_neg h, if_neg h2]
theorem bg_size {y : Int} (h1 : -4 ≤ y) (h2 : y ≤ 20099) : -2097000 ≤ bg y ∧ bg y ≤ 5500000 := by
  obtain ⟨_, _, _, _, _, _⟩ := dd_bd (y := y) (by omega) (by omega)
  unfold bg; split
  · omega
  · split <;> omega
theorem len_tab (y m : Int) (P : Int → Prop) (h1 : 1 ≤ m) (h2 : m ≤ 13) (h30 : m = 1 ∨ m = 3 ∨ m = 5 ∨ m = 7 ∨ m = 11 → P 30) (h29 : m = 2 ∨ m = 4 ∨ m = 6 ∨ m = 10 ∨ m = 13 → P 29)
    (h12 : m = 12 → P (if lp y then 30 else 29)) (h8 : m = 8 → P (if ylen y % 10 = 5 then 30 else 29)) (h9 : m = 9 → P (if ylen y % 10 = 3 then 29 else 30)) : P (len y m) := by
  have k : m = 1 ∨ m = 2 ∨ m = 3 ∨ m = 4 ∨ m = 5 ∨ m = 6 ∨ m = 7 ∨ m = 8 ∨ m = 9 ∨ m = 10 ∨ m = 11 ∨ m = 12 ∨ m = 13 := by omega
  rcases k with rfl | rfl | rfl | rfl | rfl | rfl | rfl | rfl | rfl | rfl | rfl | rfl | rfl <;> simp [len, lenA] <;> simp_all
end Heb
namespace Go.Proofs.YtehjjinlpilelaaGreatDoor
set_option maxRecDepth 100000
open Go.ChangeShapes Go.WideShapes Go.ChangeAt Go.RowKit

set_option maxHeartbeats 400000 in
theorem hbegin_any (y : Int) (w : World) (h1 : -4 ≤ y) (h2 : y ≤ 20099) :
    Calls Tryz.prog 91 #[.int .i64 y] w fun e w' => e = .returned (.int .i64 (Heb.bg y)) ∧ ∃ k, w' = w.drewN k := by
  obtain ⟨_, _, _, _, a1, a2⟩ := Heb.dd_bd (y := y - 1) (by omega) (by omega)
  obtain ⟨_, _, _, _, b1, b2⟩ := Heb.dd_bd (y := y) (by omega) (by omega)
  obtain ⟨_, _, _, _, c1, c2⟩ := Heb.dd_bd (y := y + 1) (by omega) (by omega)
  by_cases q1 : Heb.el (y + 1) - Heb.el y = 356
  · have q1' : (Heb.el (y + 1) - Heb.el y == 356) = true := by simpa using q1
    rw [Heb.bg_1a q1]; clear q1
    go_enter Tryz.func91, Tryz.ntmps91
    go_wp2_with (first | (go_at_call 106; refine (helapsed_any _ _ (by omega) (by omega)).mono ?_; rintro e w' ⟨rfl, kd, rfl⟩))
    go_ret
    exact ⟨rfl, _, rfl⟩
  · by_cases q2 : Heb.el y - Heb.el (y - 1) = 382
    · rw [Heb.bg_2a q1 q2]
      have q1' : (Heb.el (y + 1) - Heb.el y == 356) = false := by simpa using q1
      have q2' : (Heb.el y - Heb.el (y - 1) == 382) = true := by simpa using q2
      clear q1 q2
      go_enter Tryz.func91, Tryz.ntmps91
      go_wp2_with (first | (go_at_call 106; refine (helapsed_any _ _ (by omega) (by omega)).mono ?_; rintro e w' ⟨rfl, kd, rfl⟩))
      go_ret
      exact ⟨rfl, _, rfl⟩
    · rw [Heb.bg_3a q1 q2]
      have q1' : (Heb.el (y + 1) - Heb.el y == 356) = false := by simpa using q1
      have q2' : (Heb.el y - Heb.el (y - 1) == 382) = false := by simpa using q2
      clear q1 q2
      go_enter Tryz.func91, Tryz.ntmps91
      go_wp2_with (first | (go_at_call 106; refine (helapsed_any _ _ (by omega) (by omega)).mono ?_; rintro e w' ⟨rfl, kd, rfl⟩))
      go_ret
      exact ⟨rfl, _, rfl⟩
theorem hylen_any (y : Int) (w : World) :
    Calls Tryz.prog 109 #[.int .i64 y] w fun e w' => e = .returned (.int .i64 (Heb.ylenc y)) ∧ ∃ k, w' = w.drewN k := by
  by_cases hy : Heb.yB y = true
  · obtain ⟨h1, h2⟩ := Heb.yB_iff.1 hy
    have hl : Heb.ylenc y = Heb.bg (y + 1) - Heb.bg y := by simp [Heb.ylenc, hy, Heb.ylen]
    have s1 := Heb.bg_size (y := y) (by omega) (by omega)
    have s2 := Heb.bg_size (y := y + 1) (by omega) (by omega)
    rw [hl]; clear hl
    go_enter Tryz.func109, Tryz.ntmps109
    go_wp2_with (first | (go_at_call 116; refine (hyear_any _ _).mono ?_; rintro e w' ⟨rfl, rfl⟩) | (go_at_call 91; refine (hbegin_any _ _ (by omega) (by omega)).mono ?_; rintro e w' ⟨rfl, kd, rfl⟩))
    go_ret
    exact ⟨rfl, _, rfl⟩
  · have hl : Heb.ylenc y = 0 := by simp [Heb.ylenc, hy]
    have hy' : Heb.yB y = false := by simpa using hy
    rw [hl]; clear hl hy
    go_enter Tryz.func109, Tryz.ntmps109
    go_wp2_with (first | (go_at_call 116; refine (hyear_any _ _).mono ?_; rintro e w' ⟨rfl, rfl⟩))
    go_ret
    exact ⟨rfl, 0, rfl⟩
set_option maxHeartbeats 2000000 in
theorem hlength_any (y m : Int) (w : World) :
    Calls Tryz.prog 93 #[.int .i64 y, .int .i64 m] w fun e w' => e = .returned (.int .i64 (Heb.lenc y m)) ∧ ∃ k, w' = w.drewN k := by
  by_cases hm1 : 1 ≤ m
  · by_cases hm2 : m ≤ Heb.mthc y
    · obtain ⟨hy, hmm⟩ := Heb.mthc_y (y := y) (by omega)
      obtain ⟨h1, h2⟩ := Heb.yB_iff.1 hy
      have hmb := Heb.mths_bd y
      have hyl : Heb.ylenc y = Heb.ylen y := by simp [Heb.ylenc, hy]
      have hb := Heb.ylen_bd (y := y) (by omega) (by omega)
      have hlc : Heb.lenc y m = Heb.len y m := by unfold Heb.lenc; rw [if_pos ⟨hm1, hm2⟩]
      rw [hlc]; clear hlc
      have hylH := Lib.hid hyl
      have hyH := Lib.hid hy
      rw [← hyl] at hb
      have hm13 : m ≤ 13 := by omega
      clear hy hmm hyl
      refine Heb.len_tab y m (fun v => Calls Tryz.prog 93 #[.int .i64 y, .int .i64 m] w fun e w' => e = .returned (.int .i64 v) ∧ ∃ k, w' = w.drewN k) hm1 hm13 ?_ ?_ ?_ ?_ ?_
      · intro k
        rcases k with rfl | rfl | rfl | rfl | rfl
        all_goals
          go_enter Tryz.func93, Tryz.ntmps93
          go_wp2_with (first | (go_at_call 107; refine (hmonths_any _ _).mono ?_; rintro e w' ⟨rfl, kd, rfl⟩) | (go_at_call 109; refine (hylen_any _ _).mono ?_; rintro e w' ⟨rfl, kd, rfl⟩))
          go_ret
          exact ⟨rfl, _, rfl⟩
      · intro k
        rcases k with rfl | rfl | rfl | rfl | rfl
        all_goals
          go_enter Tryz.func93, Tryz.ntmps93
          go_wp2_with (first | (go_at_call 107; refine (hmonths_any _ _).mono ?_; rintro e w' ⟨rfl, kd, rfl⟩) | (go_at_call 109; refine (hylen_any _ _).mono ?_; rintro e w' ⟨rfl, kd, rfl⟩))
          go_ret
          exact ⟨rfl, _, rfl⟩
      · rintro rfl
        by_cases q : Heb.lp y = true
        all_goals
          try have q : Heb.lp y = false := by simpa using q
          rw [q]
          go_enter Tryz.func93, Tryz.ntmps93
          go_wp2_with (first | (go_at_call 107; refine (hmonths_any _ _).mono ?_; rintro e w' ⟨rfl, kd, rfl⟩) | (go_at_call 109; refine (hylen_any _ _).mono ?_; rintro e w' ⟨rfl, kd, rfl⟩) | (go_at_call 108; refine (hleap_any _ _ (by omega) (by omega)).mono ?_; rintro e w' ⟨rfl, kd, rfl⟩))
          go_ret
          exact ⟨rfl, _, rfl⟩
      · rintro rfl
        rw [← hylH.out]
        by_cases q : Heb.ylenc y % 10 = 5
        · rw [if_pos q]
          have q' : (Heb.ylenc y % 10 != 5) = false := by simpa using q
          go_enter Tryz.func93, Tryz.ntmps93
          go_wp2_with (first | (go_at_call 107; refine (hmonths_any _ _).mono ?_; rintro e w' ⟨rfl, kd, rfl⟩) | (go_at_call 109; refine (hylen_any _ _).mono ?_; rintro e w' ⟨rfl, kd, rfl⟩))
          go_ret
          exact ⟨rfl, _, rfl⟩
        · rw [if_neg q]
          have q' : (Heb.ylenc y % 10 != 5) = true := by simpa using q
          clear q
          go_enter Tryz.func93, Tryz.ntmps93
          go_wp2_with (first | (go_at_call 107; refine (hmonths_any _ _).mono ?_; rintro e w' ⟨rfl, kd, rfl⟩) | (go_at_call 109; refine (hylen_any _ _).mono ?_; rintro e w' ⟨rfl, kd, rfl⟩))
          go_ret
          exact ⟨rfl, _, rfl⟩
      · rintro rfl
        rw [← hylH.out]
        by_cases q : Heb.ylenc y % 10 = 3
        · rw [if_pos q]
          go_enter Tryz.func93, Tryz.ntmps93
          go_wp2_with (first | (go_at_call 107; refine (hmonths_any _ _).mono ?_; rintro e w' ⟨rfl, kd, rfl⟩) | (go_at_call 109; refine (hylen_any _ _).mono ?_; rintro e w' ⟨rfl, kd, rfl⟩))
          go_ret
          exact ⟨rfl, _, rfl⟩
        · rw [if_neg q]
          have q' : (Heb.ylenc y % 10 == 3) = false := by simpa using q
          clear q
          go_enter Tryz.func93, Tryz.ntmps93
          go_wp2_with (first | (go_at_call 107; refine (hmonths_any _ _).mono ?_; rintro e w' ⟨rfl, kd, rfl⟩) | (go_at_call 109; refine (hylen_any _ _).mono ?_; rintro e w' ⟨rfl, kd, rfl⟩))
          go_ret
          exact ⟨rfl, _, rfl⟩
    · have hl : Heb.lenc y m = 0 := by unfold Heb.lenc; rw [if_neg (fun q => hm2 q.2)]
      rw [hl]; clear hl
      go_enter Tryz.func93, Tryz.ntmps93
      go_wp2_with (first | (go_at_call 107; refine (hmonths_any _ _).mono ?_; rintro e w' ⟨rfl, kd, rfl⟩))
      go_ret
      exact ⟨rfl, _, rfl⟩
  · have hl : Heb.lenc y m = 0 := by unfold Heb.lenc; rw [if_neg (fun q => hm1 q.1)]
    rw [hl]; clear hl
    go_enter Tryz.func93, Tryz.ntmps93
    go_wp2
    go_ret
    exact ⟨rfl, 0, rfl⟩
end Go.Proofs.YtehjjinlpilelaaGreatDoor
