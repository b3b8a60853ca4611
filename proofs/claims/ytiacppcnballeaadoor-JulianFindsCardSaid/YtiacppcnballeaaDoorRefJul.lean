/- Contracts of the reference of layer 5. No conditions. -/
import Derived.Test.YtiacppcnballeaaDoorCal
import Derived.Test.YtiacppcnballeaaDoorInt
import Derived.Test.YtiacppcnballeaaDoorBase
namespace Go.Proofs.YtiacppcnballeaaDoor
open Go.ChangeShapes Go.WideShapes Go.ChangeAt Go.RowKit

theorem rleap_any (y : Int) (w : World) :
    Calls Tryd.prog 16 #[.int .i64 y] w fun e w' => e = .returned (.bool (Cal.leapJc y)) ∧ w = w' := by
  by_cases h1 : 1 ≤ y
  · by_cases h2 : y ≤ 9999
    · have hl : Cal.leapJc y = (y % 4 == 0) := by simp [Cal.leapJc, h1, h2]; rw [Bool.eq_iff_iff]; simp
      rw [hl]; clear hl
      go_enter Tryd.func16, Tryd.ntmps16
      go_wp2
      go_ret
      exact ⟨rfl, rfl⟩
    · have hl : Cal.leapJc y = false := by simp [Cal.leapJc]; omega
      rw [hl]; clear hl
      go_enter Tryd.func16, Tryd.ntmps16
      go_wp2
      go_ret
      exact ⟨rfl, rfl⟩
  · have hl : Cal.leapJc y = false := by simp [Cal.leapJc]; omega
    rw [hl]; clear hl
    go_enter Tryd.func16, Tryd.ntmps16
    go_wp2
    go_ret
    exact ⟨rfl, rfl⟩


theorem rlength_any (y m : Int) (w : World) :
    Calls Tryd.prog 18 #[.int .i64 y, .int .i64 m] w fun e w' => e = .returned (.int .i64 (Cal.lenJc y m)) ∧ w = w' := by
  by_cases h : 1 ≤ y ∧ y ≤ 9999 ∧ 1 ≤ m ∧ m ≤ 12
  · have hl : Cal.lenJc y m = Cal.lenJ y m := by unfold Cal.lenJc; rw [if_pos h]
    rw [hl]; clear hl
    obtain ⟨h1, h2, h3, h4⟩ := h
    obtain ⟨l4, l6, l9, l11⟩ := Cal.lenJ_30 y
    obtain ⟨l1, l3, l5, l7, l8, l10, l12⟩ := Cal.lenJ_31 y
    rcases Cal.m12 h3 h4 with rfl | rfl | rfl | rfl | rfl | rfl | rfl | rfl | rfl | rfl | rfl | rfl
    case inr.inl =>
      clear l1 l3 l4 l5 l6 l7 l8 l9 l10 l11 l12
      by_cases h6 : y % 4 = 0
      · have hl : Cal.lenJ y 2 = 29 := by simp [Cal.lenJ, Cal.lj, h6]
        rw [hl]; clear hl
        go_enter Tryd.func18, Tryd.ntmps18
        go_wp2
        go_ret
        exact ⟨rfl, rfl⟩
      · have hl : Cal.lenJ y 2 = 28 := by simp [Cal.lenJ, Cal.lj, h6]
        have hl6 : (y % 4 == 0) = false := by simpa using h6
        rw [hl]; clear hl h6
        go_enter Tryd.func18, Tryd.ntmps18
        go_wp2
        go_ret
        exact ⟨rfl, rfl⟩
    all_goals
      first | rw [l1] | rw [l3] | rw [l4] | rw [l5] | rw [l6] | rw [l7] | rw [l8] | rw [l9] | rw [l10] | rw [l11] | rw [l12]
      clear l1 l3 l4 l5 l6 l7 l8 l9 l10 l11 l12
      go_enter Tryd.func18, Tryd.ntmps18
      go_wp2
      go_ret
      exact ⟨rfl, rfl⟩
  · have hl : Cal.lenJc y m = 0 := by unfold Cal.lenJc; rw [if_neg h]
    rw [hl]; clear hl
    by_cases h1 : 1 ≤ y
    · by_cases h2 : y ≤ 9999
      · by_cases h3 : 1 ≤ m
        · have h4 : ¬ m ≤ 12 := by omega
          clear h
          go_enter Tryd.func18, Tryd.ntmps18
          go_wp2
          go_ret
          exact ⟨rfl, rfl⟩
        · clear h
          go_enter Tryd.func18, Tryd.ntmps18
          go_wp2
          go_ret
          exact ⟨rfl, rfl⟩
      · clear h
        go_enter Tryd.func18, Tryd.ntmps18
        go_wp2
        go_ret
        exact ⟨rfl, rfl⟩
    · clear h
      go_enter Tryd.func18, Tryd.ntmps18
      go_wp2
      go_ret
      exact ⟨rfl, rfl⟩
theorem rvalid_any (y m d : Int) (w : World) :
    Calls Tryd.prog 35 #[.agg #[.int .i64 y, .int .i64 m, .int .i64 d]] w fun e w' => e = .returned (.bool (Cal.okJb y m d)) ∧ Below w.heap.size w w' := by
  have hl := Cal.lenJc_bd y m
  rw [Cal.okJb_of]
  by_cases h1 : 1 ≤ d
  · go_enter Tryd.func35, Tryd.ntmps35
    go_wp2_with fail
    go_quiet ((go_at_call 18; exact quiet_same (rlength_any _ _ _)))
    go_wp2
    go_ret
    exact ⟨by simp [h1], below_drewN (by go_grown) _⟩
  · have hd : decide (1 ≤ d) = false := by simpa using h1
    go_enter Tryd.func35, Tryd.ntmps35
    go_wp2_with fail
    go_quiet ((go_at_call 18; exact quiet_same (rlength_any _ _ _)))
    go_wp2
    go_ret
    exact ⟨by simp [hd], below_drewN (by go_grown) _⟩
theorem rright_any (n : Int) (w : World) :
    Calls Tryd.prog 19 #[.int .i64 n] w fun e w' => e = .returned (.bool (Cal.inB n)) ∧ w = w' := by
  have hl : Cal.inB n = (decide (-719162 ≤ n) && decide (n < 2932897)) := by rw [Bool.eq_iff_iff]; simp [Cal.inB]
  rw [hl]; clear hl
  by_cases h1 : -719162 ≤ n
  · go_enter Tryd.func19, Tryd.ntmps19
    go_wp2
    go_ret
    exact ⟨by simp [h1], rfl⟩
  · go_enter Tryd.func19, Tryd.ntmps19
    go_wp2
    go_ret
    exact ⟨by simp; omega, rfl⟩



set_option maxHeartbeats 400000 in
theorem rcount_any (y m d : Int) (w : World) (hv : Cal.okJ y m d) :
    Calls Tryd.prog 36 #[.agg #[.int .i64 y, .int .i64 m, .int .i64 d]] w fun e w' => e = .returned (.int .i64 (Cal.dayJ y m d)) ∧ Below w.heap.size w w' := by
  obtain ⟨h1, h2, h3, h4, h5, h6⟩ := hv
  have hl := Cal.lenJ_bd y m
  have hys := Cal.ysJ_bd h1 (by omega)
  go_enter Tryd.func36, Tryd.ntmps36
  go_wp2
  go_loop [3, 4] (fun t5 t6 => ∃ k : Int, 1 ≤ k ∧ k ≤ m ∧ t6 = .int .i64 k ∧ t5 = .int .i64 (Cal.dayJ y k 1)) (fun _ t6 => (m - intOf t6).toNat)
  case atStart => exact ⟨1, by omega, h3, rfl, val_int (by simp [Cal.dayJ, Cal.ysJ, Cal.cumJ]; omega)⟩
  case round =>
    obtain ⟨k, hk1, hk2, rfl, rfl⟩ := hrel
    have hk3 := Cal.cumJ_bd y hk1 (by omega)
    have hlj := Cal.lj_01 y
    have hk4 := Cal.lenJc_bd y k
    have hk5 : -719164 ≤ Cal.dayJ y k 1 ∧ Cal.dayJ y k 1 ≤ 2933400 := by unfold Cal.dayJ; have := Cal.lenJ_bd y k; omega
    by_cases hlt : k < m
    · have hs : Cal.dayJ y k 1 + Cal.lenJc y k = Cal.dayJ y (k + 1) 1 := by have := Cal.cumJ_succ' y k hk1 (by omega) h1 h2; unfold Cal.dayJ; omega
      go_wp2_with (go_at_call 18; refine (rlength_any _ _ _).mono ?_; rintro e w' ⟨rfl, rfl⟩)
      go_round
      case rel => exact ⟨k + 1, by omega, by omega, rfl, rfl⟩
      case measure => simp [intOf]; omega
    · obtain rfl : k = m := by omega
      go_wp2
      go_ret
      exact ⟨ret_int (by unfold Cal.dayJ; omega), by go_grown⟩
set_option maxHeartbeats 400000 in
theorem rday_any (y m d : Int) (w : World) :
    Calls Tryd.prog 14 #[.agg #[.int .i64 y, .int .i64 m, .int .i64 d]] w fun e w' => e = .returned (.tuple #[.int .i64 (Cal.dayJn y m d), .int .i64 (Cal.dayJe y m d)]) ∧ Below w.heap.size w w' := by
  by_cases hv : Cal.okJb y m d = true
  · have hok := Cal.okJb_iff.1 hv
    have hokH := Lib.hid hok
    by_cases hi : Cal.inB (Cal.dayJ y m d) = true
    all_goals
      have hn : Cal.dayJn y m d = (if Cal.inB (Cal.dayJ y m d) then Cal.dayJ y m d else 0) := by simp [Cal.dayJn, hv]
      have he : Cal.dayJe y m d = (if Cal.inB (Cal.dayJ y m d) then 0 else 2) := by simp [Cal.dayJe, hv]
      rw [hn, he]; clear hn he hok
      first | rw [if_pos hi, if_pos hi] | rw [if_neg hi, if_neg hi]
      go_enter Tryd.func14, Tryd.ntmps14
      go_wp2_with (first | (go_at_call 35; refine (rvalid_any _ _ _ _).mono ?_; rintro e w1 ⟨rfl, hb⟩; obtain ⟨c0, c1, c2⟩ := box3 hb) | (go_at_call 36; refine (rcount_any _ _ _ _ hokH.out).mono ?_; rintro e w2 ⟨rfl, hb2⟩) | (go_at_call 19; refine (rright_any _ _).mono ?_; rintro e w3 ⟨rfl, rfl⟩))
      go_ret2
      exact ⟨rfl, below_box (below_then hb hb2)⟩
  · have hn : Cal.dayJn y m d = 0 := by simp [Cal.dayJn, hv]
    have he : Cal.dayJe y m d = 1 := by simp [Cal.dayJe, hv]
    rw [hn, he]; clear hn he
    go_enter Tryd.func14, Tryd.ntmps14
    go_wp2_with (go_at_call 35; refine (rvalid_any _ _ _ _).mono ?_; rintro e w1 ⟨rfl, hb⟩)
    go_ret2
    exact ⟨rfl, below_box hb⟩
end Go.Proofs.YtiacppcnballeaaDoor
