/- Contracts of the reference of layer 3: rules, years, weekdays, first days of week-years, the week of a day. No conditions. -/
import Derived.Test.YtajpbajffmiceaaWkB
namespace Wk
open Cal
theorem yG_of {n y : Int} (hi : inB n = true) (h1 : ysG y ≤ n) (h2 : n < ysG (y + 1)) : yG n = y := by
  obtain ⟨ho, hd⟩ := dtG_spec hi
  have hb := dayG_bd ho
  rw [hd] at hb
  rcases Int.lt_trichotomy (yG n) y with q | q | q
  · have := ysG_lt q; omega
  · exact q
  · have := ysG_lt q; omega
end Wk
namespace Go.Proofs.Ytajpbajffmiceaa
open Go.ChangeShapes Go.WideShapes Go.ChangeAt Go.RowKit

theorem rwvalid_any (f mi : Int) (w : World) :
    Calls Try.prog 16 #[.agg #[.int .i64 f, .int .i64 mi]] w fun e w' => e = .returned (.bool (Wk.rB f mi)) ∧ Below w.heap.size w w' := by
  have hl : Wk.rB f mi = (decide (1 ≤ f) && (decide (f ≤ 7) && (decide (1 ≤ mi) && decide (mi ≤ 7)))) := by rw [Bool.eq_iff_iff]; simp [Wk.rB]
  rw [hl]; clear hl
  by_cases h1 : 1 ≤ f
  · by_cases h2 : f ≤ 7
    · by_cases h3 : 1 ≤ mi
      all_goals
        go_enter Try.func16, Try.ntmps16
        go_wp2
        go_ret
        exact ⟨by simp [h1, h2]; try omega, by go_grown⟩
    · go_enter Try.func16, Try.ntmps16
      go_wp2
      go_ret
      exact ⟨by simp; try omega, by go_grown⟩
  · go_enter Try.func16, Try.ntmps16
    go_wp2
    go_ret
    exact ⟨by simp; try omega, by go_grown⟩
theorem rwinside_any (n : Int) (w : World) :
    Calls Try.prog 39 #[.int .i64 n] w fun e w' => e = .returned (.bool (Cal.inB n)) ∧ w = w' := by
  have hl : Cal.inB n = (decide (-719162 ≤ n) && decide (n < 2932897)) := by rw [Bool.eq_iff_iff]; simp [Cal.inB]
  rw [hl]; clear hl
  by_cases h1 : -719162 ≤ n
  · go_enter Try.func39, Try.ntmps39
    go_wp2
    go_ret
    exact ⟨by simp [h1], rfl⟩
  · go_enter Try.func39, Try.ntmps39
    go_wp2
    go_ret
    exact ⟨by simp; omega, rfl⟩

theorem rwfloor_any (a b : Int) (w : World) (ha : -4611686018427387904 ≤ a) (ha' : a ≤ 4611686018427387904) (hb : 1 ≤ b) (hb' : b ≤ 2147483647) :
    Calls Try.prog 52 #[.int .i64 a, .int .i64 b] w fun e w' => e = .returned (.int .i64 (a / b)) ∧ w = w' := by
  have m0 := Int.emod_nonneg a (b := b) (by omega)
  have m1 := Int.emod_lt_of_pos a (b := b) (by omega)
  by_cases h : 0 ≤ a
  · have hd := (div_le (a := a) hb).1 h
    have ht := tdiv_pos (b := b) h
    have hm := tmod_pos (b := b) h
    have hl : ¬ a % b < 0 := by omega
    go_enter Try.func52, Try.ntmps52
    go_wp2
    go_ret
    exact ⟨rfl, rfl⟩
  · have hd := (div_le (a := a) hb).2 (by omega)
    by_cases k : b ∣ a
    · have hq := tdiv_neg_dvd k
      have hr := tmod_neg_dvd k
      go_enter Try.func52, Try.ntmps52
      go_wp2
      go_ret
      exact ⟨rfl, rfl⟩
    · have hq := tdiv_neg_not (by omega) hb k
      have hr := tmod_neg_not (by omega) hb k
      have hl : a % b - b < 0 := by omega
      go_enter Try.func52, Try.ntmps52
      go_wp2
      go_ret
      exact ⟨ret_int (by omega), rfl⟩
theorem rwnewyear_any (y : Int) (w : World) (h1 : 1 ≤ y) (h2 : y ≤ 20000) :
    Calls Try.prog 42 #[.int .i64 y] w fun e w' => e = .returned (.int .i64 (Cal.ysG y)) ∧ w = w' := by
  go_enter Try.func42, Try.ntmps42
  go_wp2
  go_ret
  exact ⟨ret_int (by unfold Cal.ysG; omega), rfl⟩
theorem rwweekday_any (n : Int) (w : World) (h1 : -100000000 ≤ n) (h2 : n ≤ 100000000) :
    Calls Try.prog 41 #[.int .i64 n] w fun e w' => e = .returned (.int .i64 (Wk.wd n)) ∧ w = w' := by
  go_enter Try.func41, Try.ntmps41
  go_wp2_with (go_at_call 52; refine (rwfloor_any _ _ _ (by omega) (by omega) (by omega) (by omega)).mono ?_; rintro e w' ⟨rfl, rfl⟩)
  go_ret
  exact ⟨ret_int (by unfold Wk.wd; omega), rfl⟩
theorem rwyear_any (n : Int) (w : World) (hi : Cal.inB n = true) :
    Calls Try.prog 40 #[.int .i64 n] w fun e w' => e = .returned (.int .i64 (Cal.yG n)) ∧ w = w' := by
  obtain ⟨i1, i2⟩ := Cal.inB_iff.1 hi
  have hiH := Lib.hid hi
  clear hi
  go_enter Try.func40, Try.ntmps40
  go_wp2_with (go_at_call 52; refine (rwfloor_any _ _ _ (by omega) (by omega) (by omega) (by omega)).mono ?_; rintro e w' ⟨rfl, rfl⟩)
  go_loop [3] (fun t => ∃ y : Int, 1 ≤ y ∧ y ≤ 9999 ∧ Cal.ysG y ≤ n ∧ t = .int .i64 y) (fun t => (9999 - intOf t).toNat)
  case atStart => exact ⟨_, by omega, by omega, by simp only [Cal.ysG]; omega, rfl⟩
  case round =>
    obtain ⟨y, h1, h2, h3, rfl⟩ := hrel
    by_cases hc : Cal.ysG (y + 1) ≤ n
    · have h4 : y < 9999 := by
        rcases (show y < 9999 ∨ y = 9999 by omega) with q | q
        · exact q
        · subst q; have : Cal.ysG (9999 + 1) = 2932897 := by decide
          omega
      go_wp2_with (go_at_call 42; refine (rwnewyear_any _ _ (by omega) (by omega)).mono ?_; rintro e w' ⟨rfl, rfl⟩)
      go_round
      case rel => exact ⟨y + 1, by omega, by omega, hc, rfl⟩
      case measure => simp [intOf]; omega
    · have hy := Lib.hid (Wk.yG_of hiH.out h3 (show n < Cal.ysG (y + 1) by omega))
      go_wp2_with (go_at_call 42; refine (rwnewyear_any _ _ (by omega) (by omega)).mono ?_; rintro e w' ⟨rfl, rfl⟩)
      go_ret
      exact ⟨by rw [hy.out]; rfl, rfl⟩

def StartRel (w wr : World) (f mi : Int) (p : Prop) : Prop := Below w.heap.size w wr ∧ Box2 wr w.heap.size (.int .i64 f) (.int .i64 mi) ∧ p
set_option maxHeartbeats 400000 in
theorem rwstart_any (f mi y : Int) (w : World) (hr : Wk.rB f mi = true) (h1 : 1 ≤ y) (h2 : y ≤ 10000) :
    Calls Try.prog 20 #[.agg #[.int .i64 f, .int .i64 mi], .int .i64 y] w fun e w' => e = .returned (.int .i64 (Wk.bg f mi y)) ∧ Below w.heap.size w w' := by
  obtain ⟨r1, r2, r3, r4⟩ := Wk.rB_iff.1 hr
  have hys := Cal.ysG_bd h1 h2
  have hbg : Wk.bg f mi y = (if mi ≤ 7 - (Wk.wd (Cal.ysG y) - f) % 7 then Cal.ysG y - (Wk.wd (Cal.ysG y) - f) % 7 else Cal.ysG y - (Wk.wd (Cal.ysG y) - f) % 7 + 7) := rfl
  have hC : 0 ≤ (Wk.wd (Cal.ysG y) - f) % 7 ∧ (Wk.wd (Cal.ysG y) - f) % 7 ≤ 6 := by omega
  have hkey : ∀ j : Int, 0 ≤ j → j ≤ (Wk.wd (Cal.ysG y) - f) % 7 → (Wk.wd (Cal.ysG y - j) = f ↔ j = (Wk.wd (Cal.ysG y) - f) % 7) := by
    intro j j1 j2; unfold Wk.wd at *; omega
  have hkH := Lib.hid hkey
  have hbH := Lib.hid hbg
  clear hr hkey hbg
  generalize hq : (Wk.wd (Cal.ysG y) - f) % 7 = c at *
  clear hq
  go_enter Try.func20, Try.ntmps20
  go_wp2_with (go_at_call 42; refine (rwnewyear_any _ _ h1 (by omega)).mono ?_; rintro e w' ⟨rfl, rfl⟩)
  go_loopg [6] 7 (fun g t6 wr => ∃ j : Int, 0 ≤ j ∧ j ≤ c ∧ t6 = .int .i64 (Cal.ysG y - j) ∧ StartRel w wr f mi ((6 - j).toNat ≤ g))
  case atStart => exact ⟨0, by omega, by omega, val_int (by omega), by go_grown, Box2.new _ _ _ _, by omega⟩
  case round =>
    obtain ⟨j, j1, j2, rfl, hb, hB, hg⟩ := hrel
    have hBH := Lib.hid hB
    have hk := hkH.out j j1 j2
    obtain ⟨lb, c0, c1⟩ := hB
    by_cases hj : j = c
    · subst hj
      have hw : Wk.wd (Cal.ysG y - j) = f := hk.2 rfl
      have hne : (Wk.wd (Cal.ysG y - j) != f) = false := by rw [hw]; simp
      clear hk hw
      by_cases hm : mi ≤ 7 - j
      all_goals
        have hbv := hbH.out
        first | rw [if_pos hm] at hbv | rw [if_neg hm] at hbv
        have hbvH := Lib.hid hbv
        clear hbv
        go_wp2_with fail
        go_quiet ((go_at_call 41; exact quiet_same (rwweekday_any _ _ (by omega) (by omega))))
        go_wp2
        go_ret
        exact ⟨by rw [hbvH.out]; rfl, below_drewN hb _⟩
    · have hne : (Wk.wd (Cal.ysG y - j) != f) = true := by simp; intro q; exact hj (hk.1 q)
      clear hk
      go_wp2_with fail
      go_quiet ((go_at_call 41; exact quiet_same (rwweekday_any _ _ (by omega) (by omega))))
      go_wp2_with fail
      go_roundg (gk - 1)
      case measure => omega
      case rel => exact ⟨j + 1, by omega, by omega, val_int (by omega), below_drewN hb _, hBH.out.later (below_drewN (Below.refl _ _) _), by omega⟩
end Go.Proofs.Ytajpbajffmiceaa
