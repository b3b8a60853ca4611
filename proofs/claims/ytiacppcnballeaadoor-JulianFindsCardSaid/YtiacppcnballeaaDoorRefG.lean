/- Contracts of the reference's Gregorian, first, Fields and Offset of layer 5, and of julian.Offset. No conditions. -/
import Derived.Test.YtiacppcnballeaaDoorRefJulDate
import Derived.Test.YtiacppcnballeaaDoorCalB
import Derived.Test.YtiacppcnballeaaDoorBox
import Derived.Test.YtiacppcnballeaaDoorCivil
namespace Cal
noncomputable def offJ (n : Int) : Int := if inB n then (if mG n ≤ 2 then (yG n - 1) / 100 - (yG n - 1) / 400 - 2 else yG n / 100 - yG n / 400 - 2) else 0
/-- the Julian day of a Gregorian date's fields -/
theorem dayJ_off {y m d : Int} : dayJ y m d = dayG y m d + (if m ≤ 2 then (y - 1) / 100 - (y - 1) / 400 - 2 else y / 100 - y / 400 - 2) := by
  by_cases h : m ≤ 2
  · simp only [dayJ, dayG, ysJ, ysG, cumJ, cumG, if_pos h]; omega
  · simp only [dayJ, dayG, ysJ, ysG, cumJ, cumG, if_neg h, lg, lj]; split <;> split <;> omega
theorem okG_J {y m d : Int} (h : okG y m d) : okJ y m d := by
  obtain ⟨h1, h2, h3, h4, h5, h6⟩ := h
  refine ⟨h1, h2, h3, h4, h5, Int.le_trans h6 ?_⟩
  unfold lenG lenJ lg lj; split
  · split <;> split <;> omega
  · omega
theorem off_day {n : Int} (h : inB n = true) : dayJ (yG n) (mG n) (aG n) = n + offJ n := by
  rw [dayJ_off, (dtG_spec h).2]; simp [offJ, h]
/-- whether the reference takes a year for a leap year, of whatever sign -/
def leapT (y : Int) : Bool := (y.tmod 4 == 0) && ((y.tmod 100 != 0) || (y.tmod 400 == 0))
theorem leapT_pos {y : Int} (h : 1 ≤ y) : leapT y = decide (lg y = 1) := by
  unfold leapT lg
  rw [Int.tmod_eq_emod_of_nonneg (by omega), Int.tmod_eq_emod_of_nonneg (by omega), Int.tmod_eq_emod_of_nonneg (by omega)]
  rw [Bool.eq_iff_iff]; simp
/-- the length that the reference takes for a Gregorian month -/
theorem lenG_of {y m : Int} (h : ¬ (m = 2 ∧ leapT y = false ∧ 0 < lenJc y m)) : lenJc y m = lenGc y m := by
  unfold lenJc lenGc at *
  by_cases k : 1 ≤ y ∧ y ≤ 9999 ∧ 1 ≤ m ∧ m ≤ 12
  · rw [if_pos k, if_pos k] at *
    by_cases h2 : m = 2
    · subst h2
      rw [leapT_pos k.1] at h
      have hl := lg_01 y
      have : lg y = 1 := by
        rcases (show lg y = 1 ∨ lg y = 0 by omega) with q | q
        · exact q
        · exact absurd ⟨rfl, by simp [q], by have := lj_01 y; simp [lenJ]; omega⟩ h
      have h3 : lj y = 1 := by unfold lg at this; unfold lj; split at this <;> (try split) <;> omega
      simp [lenJ, lenG, this, h3]
    · simp [lenJ, lenG, h2]
  · rw [if_neg k, if_neg k]
theorem lenG_28 {y m : Int} (h : m = 2 ∧ leapT y = false ∧ 0 < lenJc y m) : lenGc y m = 28 := by
  obtain ⟨rfl, h2, h3⟩ := h
  unfold lenJc at h3
  by_cases k : 1 ≤ y ∧ y ≤ 9999 ∧ (1 : Int) ≤ 2 ∧ (2 : Int) ≤ 12
  · rw [leapT_pos k.1] at h2
    unfold lenGc; rw [if_pos k]
    have hl := lg_01 y
    simp at h2; simp [lenG]; omega
  · rw [if_neg k] at h3; omega
theorem cumG_of {y m : Int} (h1 : 1 ≤ y) (h2 : y ≤ 9999) : cumG y m = if 2 < m ∧ leapJc y = true ∧ leapT y = false then cumJ y m - 1 else cumJ y m := by
  rw [leapT_pos h1]
  unfold cumG cumJ leapJc lg lj
  by_cases h : m ≤ 2
  · rw [if_pos h, if_pos h, if_neg (by omega)]
  · rw [if_neg h, if_neg h]; simp; split <;> split <;> split <;> omega
end Cal
namespace Go.Proofs.YtiacppcnballeaaDoor
open Go.ChangeShapes Go.WideShapes Go.ChangeAt Go.RowKit

set_option maxHeartbeats 400000 in
theorem rdiv_any (a b : Int) (w : World) (ha : -4611686018427387904 ≤ a) (ha' : a ≤ 4611686018427387904) (hb : 1 ≤ b) (hb' : b ≤ 2147483647) :
    Calls Tryd.prog 47 #[.int .i64 a, .int .i64 b] w fun e w' => e = .returned (.tuple #[.int .i64 (a / b), .int .i64 (a % b), .int .i64 0]) ∧ ∃ n, w' = w.drewN n := by
  have m0 := Int.emod_nonneg a (b := b) (by omega)
  have m1 := Int.emod_lt_of_pos a (b := b) (by omega)
  have hmin : (a == -9223372036854775808) = false := by simp; omega
  by_cases h : 0 ≤ a
  · have hd := (div_le (a := a) hb).1 h
    have ht := tdiv_pos (b := b) h
    have hm := tmod_pos (b := b) h
    have hl : decide (a % b < 0) = false := by simp; omega
    have hl' : decide (b < 0) = false := by simp; omega
    by_cases hz : a % b = 0
    · go_enter Tryd.func47, Tryd.ntmps47
      go_wp2_with fail
      go_quiet (fail)
      go_wp2
      go_ret3
      rw [hz]
      exact ⟨rfl, _, rfl⟩
    · have hn : (a % b != 0) = true := by simpa using hz
      go_enter Tryd.func47, Tryd.ntmps47
      go_wp2_with fail
      go_quiet (fail)
      go_wp2
      go_ret3
      exact ⟨rfl, _, rfl⟩
  · have hd := (div_le (a := a) hb).2 (by omega)
    by_cases k : b ∣ a
    · have hq := tdiv_neg_dvd k
      have hr := tmod_neg_dvd k
      have hz : a % b = 0 := Int.emod_eq_zero_of_dvd k
      go_enter Tryd.func47, Tryd.ntmps47
      go_wp2_with fail
      go_quiet (fail)
      go_wp2
      go_ret3
      rw [hz]
      exact ⟨rfl, _, rfl⟩
    · have hq := tdiv_neg_not (by omega) hb k
      have hr := tmod_neg_not (by omega) hb k
      have hl : decide (a % b - b < 0) = true := by simp; omega
      have hl' : decide (b < 0) = false := by simp; omega
      go_enter Tryd.func47, Tryd.ntmps47
      go_wp2_with fail
      go_quiet (fail)
      go_wp2
      go_ret3
      exact ⟨rfl, _, rfl⟩
theorem rfloor_any (a b : Int) (w : World) (ha : -4611686018427387904 ≤ a) (ha' : a ≤ 4611686018427387904) (hb : 1 ≤ b) (hb' : b ≤ 2147483647) :
    Calls Tryd.prog 42 #[.int .i64 a, .int .i64 b] w fun e w' => e = .returned (.int .i64 (a / b)) ∧ ∃ n, w' = w.drewN n := by
  go_enter Tryd.func42, Tryd.ntmps42
  go_wp2_with (go_at_call 47; refine (rdiv_any _ _ _ ha ha' hb hb').mono ?_; rintro e w' ⟨rfl, n, rfl⟩)
  go_ret
  exact ⟨rfl, _, rfl⟩

theorem rleapT_any (y : Int) (w : World) (hy : -9223372036854775808 ≤ y ∧ y ≤ 9223372036854775807) :
    Calls Tryd.prog 49 #[.int .i64 y] w fun e w' => e = .returned (.bool (Cal.leapT y)) ∧ w = w' := by
  have hl : Cal.leapT y = ((y.tmod 4 == 0) && ((y.tmod 100 != 0) || (y.tmod 400 == 0))) := rfl
  by_cases h : 0 ≤ y
  · rw [tmod_pos h, tmod_pos h, tmod_pos h] at hl
    by_cases h1 : (y % 4 == 0) = true
    · by_cases h2 : (y % 100 != 0) = true
      all_goals
        try have h2 : (y % 100 != 0) = false := by simpa using h2
        rw [hl, h1]; clear hl
        go_enter Tryd.func49, Tryd.ntmps49
        go_wp2
        go_ret
        exact ⟨by first | (simp; done) | simp [h2], rfl⟩
    · have h1 : (y % 4 == 0) = false := by simpa using h1
      rw [hl, h1]; clear hl
      go_enter Tryd.func49, Tryd.ntmps49
      go_wp2
      go_ret
      exact ⟨by simp, rfl⟩
  · by_cases h1 : (y.tmod 4 == 0) = true
    · by_cases h2 : (y.tmod 100 != 0) = true
      all_goals
        try have h2 : (y.tmod 100 != 0) = false := by simpa using h2
        rw [hl, h1]; clear hl
        go_enter Tryd.func49, Tryd.ntmps49
        go_wp2
        go_ret
        exact ⟨by first | (simp; done) | simp [h2], rfl⟩
    · have h1 : (y.tmod 4 == 0) = false := by simpa using h1
      rw [hl, h1]; clear hl
      go_enter Tryd.func49, Tryd.ntmps49
      go_wp2
      go_ret
      exact ⟨by simp, rfl⟩

def gregN (y m d : Int) : Int := if Cal.okGb y m d then Cal.dayG y m d else 0
set_option maxHeartbeats 1000000 in
theorem rgreg_no (y m d : Int) (w : World) (hy : -9223372036854775808 ≤ y ∧ y ≤ 9223372036854775807) (hv : Cal.okGb y m d = false) :
    Calls Tryd.prog 45 #[.agg #[.int .i64 y, .int .i64 m, .int .i64 d]] w fun e w' => e = .returned (.tuple #[.int .i64 0, .bool false]) ∧ Below w.heap.size w w' := by
  have hlen := Cal.lenJc_bd y m
  have hlg := Cal.lenGc_bd y m
  have hend : 1 ≤ d → Cal.lenGc y m < d := by
    intro k; rw [Cal.okGb_of] at hv; simp [k] at hv; exact hv
  clear hv
  by_cases hd : 1 ≤ d
  all_goals
    try have hend := hend hd
    by_cases hq : m = 2 ∧ Cal.leapT y = false ∧ 0 < Cal.lenJc y m
    · have h28 := Cal.lenG_28 hq
      obtain ⟨rfl, q2, q3⟩ := hq
      rw [h28] at hend
      clear h28
      go_enter Tryd.func45, Tryd.ntmps45
      go_wp2_with (first | (go_at_call 18; refine (rlength_any _ _ _).mono ?_; rintro e w' ⟨rfl, rfl⟩) | (go_at_call 49; refine (rleapT_any _ _ hy).mono ?_; rintro e w' ⟨rfl, rfl⟩))
      go_ret2
      exact ⟨rfl, by go_grown⟩
    · have hl := Cal.lenG_of hq
      rw [← hl] at hend
      clear hl
      by_cases hm : m = 2
      · subst hm
        by_cases hp : Cal.leapT y = true
        · clear hq
          go_enter Tryd.func45, Tryd.ntmps45
          go_wp2_with (first | (go_at_call 18; refine (rlength_any _ _ _).mono ?_; rintro e w' ⟨rfl, rfl⟩) | (go_at_call 49; refine (rleapT_any _ _ hy).mono ?_; rintro e w' ⟨rfl, rfl⟩))
          go_ret2
          exact ⟨rfl, by go_grown⟩
        · have hp' : Cal.leapT y = false := by simpa using hp
          have hz : ¬ 0 < Cal.lenJc y 2 := fun k => hq ⟨rfl, hp', k⟩
          clear hq hp
          go_enter Tryd.func45, Tryd.ntmps45
          go_wp2_with (first | (go_at_call 18; refine (rlength_any _ _ _).mono ?_; rintro e w' ⟨rfl, rfl⟩) | (go_at_call 49; refine (rleapT_any _ _ hy).mono ?_; rintro e w' ⟨rfl, rfl⟩))
          go_ret2
          exact ⟨rfl, by go_grown⟩
      · have hm' : (m == 2) = false := by simpa using hm
        clear hq hm
        go_enter Tryd.func45, Tryd.ntmps45
        go_wp2_with (first | (go_at_call 18; refine (rlength_any _ _ _).mono ?_; rintro e w' ⟨rfl, rfl⟩) | (go_at_call 49; refine (rleapT_any _ _ hy).mono ?_; rintro e w' ⟨rfl, rfl⟩))
        go_ret2
        exact ⟨rfl, by go_grown⟩
set_option maxHeartbeats 1000000 in
theorem rgreg_yes (y m d : Int) (w : World) (hv : Cal.okG y m d) :
    Calls Tryd.prog 45 #[.agg #[.int .i64 y, .int .i64 m, .int .i64 d]] w fun e w' => e = .returned (.tuple #[.int .i64 (Cal.dayG y m d), .bool true]) ∧ Below w.heap.size w w' := by
  have hin := Cal.dayG_in hv
  obtain ⟨h1, h2, h3, h4, h5, h6⟩ := hv
  have hlen := Cal.lenJc_bd y m
  have hlg := Cal.lenG_bd y m
  have hys := Cal.ysG_bd h1 (by omega)
  have hcl : Cal.lenGc y m = Cal.lenG y m := by unfold Cal.lenGc; rw [if_pos (by omega)]
  have hH := Lib.hid (Cal.cumG_of (m := m) h1 h2)
  by_cases hq : m = 2 ∧ Cal.leapT y = false ∧ 0 < Cal.lenJc y m
  · have h28 := Cal.lenG_28 hq
    obtain ⟨rfl, q2, q3⟩ := hq
    have hd28 : d ≤ 28 := by omega
    clear h28 hcl
    go_enter Tryd.func45, Tryd.ntmps45
    go_wp2_with (first | (go_at_call 18; refine (rlength_any _ _ _).mono ?_; rintro e w' ⟨rfl, rfl⟩) | (go_at_call 49; refine (rleapT_any _ _ (by omega)).mono ?_; rintro e w' ⟨rfl, rfl⟩))
    go_loop [6, 7] (fun t5 t6 => ∃ k : Int, 1 ≤ k ∧ k ≤ 2 ∧ t6 = .int .i64 k ∧ t5 = .int .i64 (Cal.ysG y + Cal.cumJ y k)) (fun _ t6 => (2 - intOf t6).toNat)
    case atStart => exact ⟨1, by omega, by omega, rfl, val_int (by simp [Cal.ysG, Cal.cumJ]; omega)⟩
    case round =>
      obtain ⟨k, hk1, hk2, rfl, rfl⟩ := hrel
      have hk3 := Cal.cumJ_bd y hk1 (by omega)
      have hlj := Cal.lj_01 y
      have hk4 := Cal.lenJc_bd y k
      have hk5 := Cal.lenJ_bd y k
      by_cases hlt : k < 2
      · have hs : Cal.ysG y + Cal.cumJ y k + Cal.lenJc y k = Cal.ysG y + Cal.cumJ y (k + 1) := by have := Cal.cumJ_succ' y k hk1 (by omega) h1 h2; omega
        go_wp2_with (go_at_call 18; refine (rlength_any _ _ _).mono ?_; rintro e w' ⟨rfl, rfl⟩)
        go_round
        case rel => exact ⟨k + 1, by omega, by omega, rfl, rfl⟩
        case measure => simp [intOf]; omega
      · obtain rfl : k = 2 := by omega
        go_wp2
        go_ret2
        exact ⟨by rw [show Cal.dayG y 2 d = Cal.ysG y + Cal.cumJ y 2 + d - 1 by simp [Cal.dayG, Cal.cumG, Cal.cumJ]]; rfl, by go_grown⟩
  · have hl := Cal.lenG_of hq
    have hdl : d ≤ Cal.lenJc y m := by omega
    have hcon : ¬ (m = 2) ∨ (m = 2 ∧ Cal.leapT y = true) := by
      by_cases k : m = 2
      · refine Or.inr ⟨k, ?_⟩
        by_cases k2 : Cal.leapT y = true
        · exact k2
        · exact absurd ⟨k, by simpa using k2, by omega⟩ hq
      · exact Or.inl k
    clear hq hl hcl
    by_cases hb : 2 < m ∧ Cal.leapJc y = true ∧ Cal.leapT y = false
    · have hc : Cal.cumG y m = Cal.cumJ y m - 1 := by rw [hH.out, if_pos hb]
      obtain ⟨b1, b2, b3⟩ := hb
      have hday : Cal.dayG y m d = Cal.ysG y + Cal.cumJ y m - 1 + d - 1 := by unfold Cal.dayG; omega
      have hdayH := Lib.hid hday
      have hm' : (m == 2) = false := by simp; omega
      clear hday hc hcon
      go_enter Tryd.func45, Tryd.ntmps45
      go_wp2_with (first | (go_at_call 18; refine (rlength_any _ _ _).mono ?_; rintro e w' ⟨rfl, rfl⟩) | (go_at_call 49; refine (rleapT_any _ _ (by omega)).mono ?_; rintro e w' ⟨rfl, rfl⟩))
      go_loop [6, 7] (fun t5 t6 => ∃ k : Int, 1 ≤ k ∧ k ≤ m ∧ t6 = .int .i64 k ∧ t5 = .int .i64 (Cal.ysG y + Cal.cumJ y k)) (fun _ t6 => (m - intOf t6).toNat)
      case atStart => exact ⟨1, by omega, by omega, rfl, val_int (by simp [Cal.ysG, Cal.cumJ]; omega)⟩
      case round =>
        obtain ⟨k, hk1, hk2, rfl, rfl⟩ := hrel
        have hk3 := Cal.cumJ_bd y hk1 (by omega)
        have hlj := Cal.lj_01 y
        have hk4 := Cal.lenJc_bd y k
        have hk5 := Cal.lenJ_bd y k
        by_cases hlt : k < m
        · have hs : Cal.ysG y + Cal.cumJ y k + Cal.lenJc y k = Cal.ysG y + Cal.cumJ y (k + 1) := by have := Cal.cumJ_succ' y k hk1 (by omega) h1 h2; omega
          go_wp2_with (go_at_call 18; refine (rlength_any _ _ _).mono ?_; rintro e w' ⟨rfl, rfl⟩)
          go_round
          case rel => exact ⟨k + 1, by omega, by omega, rfl, rfl⟩
          case measure => simp [intOf]; omega
        have hkm : k = m := by omega
        subst hkm
        go_wp2_with (first | (go_at_call 16; refine (rleap_any _ _).mono ?_; rintro e w' ⟨rfl, rfl⟩) | (go_at_call 49; refine (rleapT_any _ _ (by omega)).mono ?_; rintro e w' ⟨rfl, rfl⟩))
        go_ret2
        exact ⟨by rw [hdayH.out]; rfl, by go_grown⟩
    · have hc : Cal.cumG y m = Cal.cumJ y m := by rw [hH.out, if_neg hb]
      have hday : Cal.dayG y m d = Cal.ysG y + Cal.cumJ y m + d - 1 := by unfold Cal.dayG; omega
      have hdayH := Lib.hid hday
      have hb' : ¬ 2 < m ∨ (2 < m ∧ Cal.leapJc y = false) ∨ (2 < m ∧ Cal.leapJc y = true ∧ Cal.leapT y = true) := by
        by_cases k1 : 2 < m
        · by_cases k2 : Cal.leapJc y = true
          · by_cases k3 : Cal.leapT y = true
            · exact Or.inr (Or.inr ⟨k1, k2, k3⟩)
            · exact absurd ⟨k1, k2, by simpa using k3⟩ hb
          · exact Or.inr (Or.inl ⟨k1, by simpa using k2⟩)
        · exact Or.inl k1
      clear hday hc hb
      rcases hb' with b1 | ⟨b1, b2⟩ | ⟨b1, b2, b3⟩
      · rcases hcon with hm | ⟨hm, b3⟩
        · have hm' : (m == 2) = false := by simpa using hm
          clear hm
          go_enter Tryd.func45, Tryd.ntmps45
          go_wp2_with (first | (go_at_call 18; refine (rlength_any _ _ _).mono ?_; rintro e w' ⟨rfl, rfl⟩) | (go_at_call 49; refine (rleapT_any _ _ (by omega)).mono ?_; rintro e w' ⟨rfl, rfl⟩))
          go_loop [6, 7] (fun t5 t6 => ∃ k : Int, 1 ≤ k ∧ k ≤ m ∧ t6 = .int .i64 k ∧ t5 = .int .i64 (Cal.ysG y + Cal.cumJ y k)) (fun _ t6 => (m - intOf t6).toNat)
          case atStart => exact ⟨1, by omega, by omega, rfl, val_int (by simp [Cal.ysG, Cal.cumJ]; omega)⟩
          case round =>
            obtain ⟨k, hk1, hk2, rfl, rfl⟩ := hrel
            have hk3 := Cal.cumJ_bd y hk1 (by omega)
            have hlj := Cal.lj_01 y
            have hk4 := Cal.lenJc_bd y k
            have hk5 := Cal.lenJ_bd y k
            by_cases hlt : k < m
            · have hs : Cal.ysG y + Cal.cumJ y k + Cal.lenJc y k = Cal.ysG y + Cal.cumJ y (k + 1) := by have := Cal.cumJ_succ' y k hk1 (by omega) h1 h2; omega
              go_wp2_with (go_at_call 18; refine (rlength_any _ _ _).mono ?_; rintro e w' ⟨rfl, rfl⟩)
              go_round
              case rel => exact ⟨k + 1, by omega, by omega, rfl, rfl⟩
              case measure => simp [intOf]; omega
            have hkm : k = m := by omega
            subst hkm
            go_wp2
            go_ret2
            exact ⟨by rw [hdayH.out]; rfl, by go_grown⟩
        · subst hm
          go_enter Tryd.func45, Tryd.ntmps45
          go_wp2_with (first | (go_at_call 18; refine (rlength_any _ _ _).mono ?_; rintro e w' ⟨rfl, rfl⟩) | (go_at_call 49; refine (rleapT_any _ _ (by omega)).mono ?_; rintro e w' ⟨rfl, rfl⟩))
          go_loop [6, 7] (fun t5 t6 => ∃ k : Int, 1 ≤ k ∧ k ≤ 2 ∧ t6 = .int .i64 k ∧ t5 = .int .i64 (Cal.ysG y + Cal.cumJ y k)) (fun _ t6 => (2 - intOf t6).toNat)
          case atStart => exact ⟨1, by omega, by omega, rfl, val_int (by simp [Cal.ysG, Cal.cumJ]; omega)⟩
          case round =>
            obtain ⟨k, hk1, hk2, rfl, rfl⟩ := hrel
            have hk3 := Cal.cumJ_bd y hk1 (by omega)
            have hlj := Cal.lj_01 y
            have hk4 := Cal.lenJc_bd y k
            have hk5 := Cal.lenJ_bd y k
            by_cases hlt : k < 2
            · have hs : Cal.ysG y + Cal.cumJ y k + Cal.lenJc y k = Cal.ysG y + Cal.cumJ y (k + 1) := by have := Cal.cumJ_succ' y k hk1 (by omega) h1 h2; omega
              go_wp2_with (go_at_call 18; refine (rlength_any _ _ _).mono ?_; rintro e w' ⟨rfl, rfl⟩)
              go_round
              case rel => exact ⟨k + 1, by omega, by omega, rfl, rfl⟩
              case measure => simp [intOf]; omega
            have hkm : k = 2 := by omega
            subst hkm
            go_wp2
            go_ret2
            exact ⟨by rw [hdayH.out]; rfl, by go_grown⟩
      all_goals
        have hm' : (m == 2) = false := by simp; omega
        clear hcon
        go_enter Tryd.func45, Tryd.ntmps45
        go_wp2_with (first | (go_at_call 18; refine (rlength_any _ _ _).mono ?_; rintro e w' ⟨rfl, rfl⟩) | (go_at_call 49; refine (rleapT_any _ _ (by omega)).mono ?_; rintro e w' ⟨rfl, rfl⟩))
        go_loop [6, 7] (fun t5 t6 => ∃ k : Int, 1 ≤ k ∧ k ≤ m ∧ t6 = .int .i64 k ∧ t5 = .int .i64 (Cal.ysG y + Cal.cumJ y k)) (fun _ t6 => (m - intOf t6).toNat)
        case atStart => exact ⟨1, by omega, by omega, rfl, val_int (by simp [Cal.ysG, Cal.cumJ]; omega)⟩
        case round =>
          obtain ⟨k, hk1, hk2, rfl, rfl⟩ := hrel
          have hk3 := Cal.cumJ_bd y hk1 (by omega)
          have hlj := Cal.lj_01 y
          have hk4 := Cal.lenJc_bd y k
          have hk5 := Cal.lenJ_bd y k
          by_cases hlt : k < m
          · have hs : Cal.ysG y + Cal.cumJ y k + Cal.lenJc y k = Cal.ysG y + Cal.cumJ y (k + 1) := by have := Cal.cumJ_succ' y k hk1 (by omega) h1 h2; omega
            go_wp2_with (go_at_call 18; refine (rlength_any _ _ _).mono ?_; rintro e w' ⟨rfl, rfl⟩)
            go_round
            case rel => exact ⟨k + 1, by omega, by omega, rfl, rfl⟩
            case measure => simp [intOf]; omega
          have hkm : k = m := by omega
          subst hkm
          go_wp2_with (first | (go_at_call 16; refine (rleap_any _ _).mono ?_; rintro e w' ⟨rfl, rfl⟩) | (go_at_call 49; refine (rleapT_any _ _ (by omega)).mono ?_; rintro e w' ⟨rfl, rfl⟩))
          go_ret2
          exact ⟨by rw [hdayH.out]; rfl, by go_grown⟩
end Go.Proofs.YtiacppcnballeaaDoor
