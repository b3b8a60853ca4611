/- The contract of the reference's Date of layer 5. No conditions. -/
import Derived.Test.YtiacppcnballeaaDoorRefJul
namespace Go.Proofs.YtiacppcnballeaaDoor
open Go.ChangeShapes Go.WideShapes Go.ChangeAt Go.RowKit

/-- the search for the year ends at the year of the day n -/
theorem rdate_year {n k : Int} (h1 : -719162 ≤ n) (h2 : n < 2932897) (k0 : 0 ≤ k) (k3 : k ≤ 3) (hr : 0 ≤ (n + 719164) % 1461 - 365 * k) (he : k = 3 ∨ (n + 719164) % 1461 - 365 * k < 365) :
    1 ≤ 4 * ((n + 719164) / 1461) + 1 + k ∧ 4 * ((n + 719164) / 1461) + 1 + k ≤ 9999 ∧ n < Cal.ysJ (4 * ((n + 719164) / 1461) + 1 + k + 1) ∧ Cal.dayJ (4 * ((n + 719164) / 1461) + 1 + k) 1 ((n + 719164) % 1461 - 365 * k + 1) = n := by
  refine ⟨by omega, by omega, ?_, ?_⟩
  · simp only [Cal.ysJ]; omega
  · simp only [Cal.dayJ, Cal.ysJ, Cal.cumJ]; simp; omega
theorem rdate_round {n y m x : Int} (hm : m ≤ 12) (h1 : 1 ≤ m) (hy : 1 ≤ y) (hy' : y ≤ 9999) (hd : Cal.dayJ y m (x + 1) = n) (hn : n < Cal.ysJ (y + 1)) (hl : Cal.lenJc y m ≤ x) : m < 12 ∧ Cal.dayJ y (m + 1) (x - Cal.lenJc y m + 1) = n := by
  have hc : m < 12 := by
    rcases (show m < 12 ∨ m = 12 by omega) with h | h
    · exact h
    · obtain rfl : m = 12 := h
      rw [Cal.ysJ_succ] at hn
      have e1 : Cal.cumJ y 12 = 334 + Cal.lj y := by simp [Cal.cumJ]
      have e2 : Cal.lenJc y 12 = 31 := by unfold Cal.lenJc; rw [if_pos (by omega)]; simp [Cal.lenJ, Cal.lenB]
      unfold Cal.dayJ at hd; omega
  refine ⟨hc, ?_⟩
  have := Cal.cumJ_succ' y m h1 (by omega) hy hy'
  unfold Cal.dayJ at *; omega

set_option maxHeartbeats 1000000 in
theorem rdate_any (n : Int) (w : World) :
    Calls Tryd.prog 24 #[.int .i64 n] w fun e w' => e = .returned (.tuple #[.agg #[.int .i64 (Cal.yJ n), .int .i64 (Cal.mJ n), .int .i64 (Cal.aJ n)], .int .i64 (Cal.inE n)]) ∧ Below w.heap.size w w' := by
  by_cases hi : Cal.inB n = true
  · have hE : Cal.inE n = 0 := by simp [Cal.inE, hi]
    rw [hE]; clear hE
    obtain ⟨i1, i2⟩ := Cal.inB_iff.1 hi
    go_enter Tryd.func24, Tryd.ntmps24
    go_wp2_with (go_at_call 19; refine (rright_any _ _).mono ?_; rintro e w' ⟨rfl, rfl⟩)
    go_loop [4, 5, 6] (fun t4 t5 t6 => ∃ k : Int, 0 ≤ k ∧ k ≤ 3 ∧ 0 ≤ (n + 719164) % 1461 - 365 * k ∧ t6 = .int .i64 k ∧ t5 = .int .i64 (4 * ((n + 719164) / 1461) + 1 + k) ∧ t4 = .int .i64 ((n + 719164) % 1461 - 365 * k)) (fun _ _ t6 => (3 - intOf t6).toNat)
    case atStart => exact ⟨0, by omega, by omega, by omega, rfl, val_int (by omega), val_int (by omega)⟩
    case round =>
      obtain ⟨k, k0, k3, hr, rfl, rfl, rfl⟩ := hrel
      by_cases hc : k < 3 ∧ 365 ≤ (n + 719164) % 1461 - 365 * k
      · obtain ⟨hc1, hc2⟩ := hc
        go_wp2
        go_round
        case rel => exact ⟨k + 1, by omega, by omega, by omega, rfl, val_int (by omega), val_int (by omega)⟩
        case measure => simp [intOf]; omega
      · obtain ⟨y1, y2, y3, y4⟩ := rdate_year i1 i2 k0 k3 hr (by omega)
        have y4H := Lib.hid y4
        clear y4
        have hc2 : k < 3 → ¬ 365 ≤ (n + 719164) % 1461 - 365 * k := by omega
        clear hc
        by_cases hk : k < 3
        all_goals
          try have hc2 := hc2 hk
          go_wp2
          generalize hY : 4 * ((n + 719164) / 1461) + 1 + k = y at *
          go_loop [4, 7] (fun t4 t7 => ∃ m x : Int, 1 ≤ m ∧ m ≤ 12 ∧ 0 ≤ x ∧ x ≤ 365 ∧ Cal.dayJ y m (x + 1) = n ∧ t4 = .int .i64 x ∧ t7 = .int .i64 m) (fun _ t7 => (12 - intOf t7).toNat)
          case atStart => exact ⟨1, _, by omega, by omega, hr, by omega, y4H.out, rfl, rfl⟩
          case round =>
            obtain ⟨m, x, m1, m2, x1, x2, hd, rfl, rfl⟩ := hrel
            have hdH := Lib.hid hd
            clear hd
            have hl := Cal.lenJc_bd y m
            by_cases hc : Cal.lenJc y m ≤ x
            · have hR := Lib.hid (rdate_round m2 m1 y1 y2 hdH.out y3 hc)
              go_wp2_with (go_at_call 18; refine (rlength_any _ _ _).mono ?_; rintro e w' ⟨rfl, rfl⟩)
              obtain ⟨q1, q2⟩ := hR.out
              go_round
              case rel => exact ⟨m + 1, x - Cal.lenJc y m, by omega, by omega, by omega, by omega, q2, rfl, rfl⟩
              case measure => simp [intOf]; omega
            · have hlen : Cal.lenJc y m = Cal.lenJ y m := by unfold Cal.lenJc; rw [if_pos (by omega)]
              have hok : Cal.okJ y m (x + 1) := ⟨y1, y2, m1, m2, by omega, by omega⟩
              have hres := Lib.hid (Cal.dtJ_eq hi hok hdH.out)
              clear hok hlen
              go_wp2_with (go_at_call 18; refine (rlength_any _ _ _).mono ?_; rintro e w' ⟨rfl, rfl⟩)
              obtain ⟨e1, e2, e3⟩ := hres.out
              rw [← e1, ← e2, ← e3]
              refine bodyPost_ret (v := .tuple #[.agg #[.int .i64 y, .int .i64 m, .int .i64 (x + 1)], .int .i64 0]) (by simp [results, Tryd.results24, go_sem]) rfl ⟨rfl, by go_grown⟩
  · have hE : Cal.inE n = 2 := by simp [Cal.inE, hi]
    have hi' : Cal.inB n = false := by simpa using hi
    obtain ⟨e1, e2, e3⟩ := Cal.dtJ_out hi'
    rw [hE, e1, e2, e3]; clear hE e1 e2 e3 hi
    go_enter Tryd.func24, Tryd.ntmps24
    go_wp2_with (go_at_call 19; refine (rright_any _ _).mono ?_; rintro e w' ⟨rfl, rfl⟩)
    exact bodyPost_ret (v := .tuple #[.agg #[.int .i64 0, .int .i64 0, .int .i64 0], .int .i64 2]) (by simp [results, Tryd.results24, go_sem]) rfl ⟨rfl, by go_grown⟩
end Go.Proofs.YtiacppcnballeaaDoor
