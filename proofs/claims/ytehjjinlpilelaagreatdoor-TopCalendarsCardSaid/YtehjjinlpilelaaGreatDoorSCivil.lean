/- Contracts of the functions of package civil: lengths of months, the day of a date, the date of a day, the weekday. No conditions. -/
import Derived.Test.YtehjjinlpilelaaGreatDoorMa
import Derived.Test.YtehjjinlpilelaaGreatDoorMb
namespace Go.Proofs.YtehjjinlpilelaaGreatDoor
open Go.ChangeShapes Go.WideShapes Go.ChangeAt Go.RowKit

theorem cyear_any (y : Int) (w : World) :
    Calls Tryz.prog 41 #[.int .i64 y] w fun e w' => e = .returned (.bool (decide (1 ≤ y ∧ y ≤ 9999))) ∧ w = w' := by
  by_cases h1 : 1 ≤ y
  all_goals
    go_enter Tryz.func41, Tryz.ntmps41
    go_wp2
    go_ret
    exact ⟨by simp; try omega, rfl⟩

theorem cleap_any (y : Int) (w : World) :
    Calls Tryz.prog 84 #[.int .i64 y] w fun e w' => e = .returned (.bool (Cal.leapGc y)) ∧ w = w' := by
  by_cases h1 : 1 ≤ y ∧ y ≤ 9999
  · have hy : decide (1 ≤ y ∧ y ≤ 9999) = true := by simpa using h1
    obtain ⟨h2, h3⟩ := h1
    by_cases h4 : y % 4 = 0
    · by_cases h5 : y % 100 = 0
      · have hl : Cal.leapGc y = (y % 400 == 0) := by rw [Bool.eq_iff_iff]; simp [Cal.leapGc, h2, h3, h4, h5]
        rw [hl]; clear hl
        go_enter Tryz.func84, Tryz.ntmps84
        go_wp2_with (go_at_call 41; refine (cyear_any _ _).mono ?_; rintro e w' ⟨rfl, rfl⟩)
        go_ret
        exact ⟨rfl, rfl⟩
      · have hl : Cal.leapGc y = true := by simp [Cal.leapGc, h2, h3, h4, h5]
        have h6 : (y % 100 != 0) = true := by simpa using h5
        rw [hl]; clear hl
        go_enter Tryz.func84, Tryz.ntmps84
        go_wp2_with (go_at_call 41; refine (cyear_any _ _).mono ?_; rintro e w' ⟨rfl, rfl⟩)
        go_ret
        exact ⟨rfl, rfl⟩
    · have hl : Cal.leapGc y = false := by simp [Cal.leapGc, h4]
      have h6 : (y % 4 == 0) = false := by simpa using h4
      rw [hl]; clear hl
      go_enter Tryz.func84, Tryz.ntmps84
      go_wp2_with (go_at_call 41; refine (cyear_any _ _).mono ?_; rintro e w' ⟨rfl, rfl⟩)
      go_ret
      exact ⟨rfl, rfl⟩
  · have hy : decide (1 ≤ y ∧ y ≤ 9999) = false := by simpa using h1
    have hl : Cal.leapGc y = false := by simp [Cal.leapGc]; omega
    rw [hl]; clear hl h1
    go_enter Tryz.func84, Tryz.ntmps84
    go_wp2_with (go_at_call 41; refine (cyear_any _ _).mono ?_; rintro e w' ⟨rfl, rfl⟩)
    go_ret
    exact ⟨rfl, rfl⟩

theorem month_index (m : Int) (h1 : 1 ≤ m) (h2 : m ≤ 12) (h3 : m ≠ 2) (w : World) :
    (Instr.index 89 (.agg #[.int .i64 31, .int .i64 28, .int .i64 31, .int .i64 30, .int .i64 31, .int .i64 30, .int .i64 31, .int .i64 31, .int .i64 30, .int .i64 31, .int .i64 30, .int .i64 31]) (.int .i64 (m - 1))).run Tryz.prog w = .ok (.int .i64 (Cal.lenB m)) w := by
  have k : m = 1 ∨ m = 3 ∨ m = 4 ∨ m = 5 ∨ m = 6 ∨ m = 7 ∨ m = 8 ∨ m = 9 ∨ m = 10 ∨ m = 11 ∨ m = 12 := by omega
  rcases k with rfl | rfl | rfl | rfl | rfl | rfl | rfl | rfl | rfl | rfl | rfl <;> (show _ = _; kernel_rfl)

theorem clength_any (y m : Int) (w : World) :
    Calls Tryz.prog 43 #[.int .i64 y, .int .i64 m] w fun e w' => e = .returned (.int .i64 (Cal.lenGc y m)) ∧ w = w' := by
  by_cases hy : 1 ≤ y ∧ y ≤ 9999
  · have hd : decide (1 ≤ y ∧ y ≤ 9999) = true := by simpa using hy
    by_cases h3 : 1 ≤ m
    · by_cases h4 : m ≤ 12
      · have hl : Cal.lenGc y m = Cal.lenG y m := by unfold Cal.lenGc; rw [if_pos (by omega)]
        rw [hl]; clear hl
        by_cases h5 : m = 2
        · subst h5
          by_cases h6 : Cal.leapGc y = true
          · have hl : Cal.lenG y 2 = 29 := by simp only [Cal.leapGc, decide_eq_true_eq] at h6; simp [Cal.lenG, Cal.lg]; omega
            rw [hl]; clear hl
            go_enter Tryz.func43, Tryz.ntmps43
            go_wp2_with (first | (go_at_call 41; refine (cyear_any _ _).mono ?_; rintro e w' ⟨rfl, rfl⟩) | (go_at_call 84; refine (cleap_any _ _).mono ?_; rintro e w' ⟨rfl, rfl⟩))
            go_ret
            exact ⟨rfl, rfl⟩
          · have h6' : Cal.leapGc y = false := by simpa using h6
            have hl : Cal.lenG y 2 = 28 := by simp only [Cal.leapGc, decide_eq_true_eq] at h6; simp [Cal.lenG, Cal.lg]; omega
            rw [hl]; clear hl
            have hk : ∀ w, (Instr.index 89 (.agg #[.int .i64 31, .int .i64 28, .int .i64 31, .int .i64 30, .int .i64 31, .int .i64 30, .int .i64 31, .int .i64 31, .int .i64 30, .int .i64 31, .int .i64 30, .int .i64 31]) (.int .i64 1)).run Tryz.prog w = .ok (.int .i64 28) w := fun w => by kernel_rfl
            go_enter Tryz.func43, Tryz.ntmps43
            go_wp2_with (first | (go_at_call 41; refine (cyear_any _ _).mono ?_; rintro e w' ⟨rfl, rfl⟩) | (go_at_call 84; refine (cleap_any _ _).mono ?_; rintro e w' ⟨rfl, rfl⟩))
            go_ret
            exact ⟨rfl, rfl⟩
        · have hl : Cal.lenG y m = Cal.lenB m := by simp [Cal.lenG, h5]
          have hk := month_index m h3 h4 h5
          have h5' : (m == 2) = false := by simpa using h5
          rw [hl]; clear hl h5
          go_enter Tryz.func43, Tryz.ntmps43
          go_wp2_with (go_at_call 41; refine (cyear_any _ _).mono ?_; rintro e w' ⟨rfl, rfl⟩)
          go_ret
          exact ⟨rfl, rfl⟩
      · have hl : Cal.lenGc y m = 0 := by unfold Cal.lenGc; rw [if_neg (by omega)]
        rw [hl]; clear hl
        go_enter Tryz.func43, Tryz.ntmps43
        go_wp2_with (go_at_call 41; refine (cyear_any _ _).mono ?_; rintro e w' ⟨rfl, rfl⟩)
        go_ret
        exact ⟨rfl, rfl⟩
    · have hl : Cal.lenGc y m = 0 := by unfold Cal.lenGc; rw [if_neg (by omega)]
      rw [hl]; clear hl
      go_enter Tryz.func43, Tryz.ntmps43
      go_wp2_with (go_at_call 41; refine (cyear_any _ _).mono ?_; rintro e w' ⟨rfl, rfl⟩)
      go_ret
      exact ⟨rfl, rfl⟩
  · have hd : decide (1 ≤ y ∧ y ≤ 9999) = false := by simpa using hy
    have hl : Cal.lenGc y m = 0 := by unfold Cal.lenGc; rw [if_neg (by omega)]
    rw [hl]; clear hl hy
    go_enter Tryz.func43, Tryz.ntmps43
    go_wp2_with (go_at_call 41; refine (cyear_any _ _).mono ?_; rintro e w' ⟨rfl, rfl⟩)
    go_ret
    exact ⟨rfl, rfl⟩

theorem cvalid_any (y m d : Int) (w : World) :
    Calls Tryz.prog 39 #[.agg #[.int .i64 y, .int .i64 m, .int .i64 d]] w fun e w' => e = .returned (.bool (Cal.okGb y m d)) ∧ Below w.heap.size w w' := by
  have hl := Cal.lenGc_bd y m
  rw [Cal.okGb_of]
  by_cases h1 : 1 ≤ d
  · go_enter Tryz.func39, Tryz.ntmps39
    go_wp2_with fail
    go_quiet ((go_at_call 43; exact quiet_same (clength_any _ _ _)))
    go_wp2
    go_ret
    exact ⟨by simp [h1], below_drewN (by go_grown) _⟩
  · have hd : decide (1 ≤ d) = false := by simpa using h1
    go_enter Tryz.func39, Tryz.ntmps39
    go_wp2_with fail
    go_quiet ((go_at_call 43; exact quiet_same (clength_any _ _ _)))
    go_wp2
    go_ret
    exact ⟨by simp [hd], below_drewN (by go_grown) _⟩

theorem ccount_any (y m d : Int) (w : World) (h1 : 1 ≤ y) (h2 : y ≤ 10000) (h3 : 1 ≤ m) (h4 : m ≤ 12) (h5 : -1000 ≤ d) (h6 : d ≤ 1000) :
    Calls Tryz.prog 38 #[.int .i64 y, .int .i64 m, .int .i64 d] w fun e w' => e = .returned (.int .i64 (Cal.dayG y m d)) ∧ w = w' := by
  by_cases h : m ≤ 2
  · go_enter Tryz.func38, Tryz.ntmps38
    go_wp2
    go_ret
    exact ⟨ret_int (by simp only [Cal.dayG, Cal.ysG, Cal.cumG, if_pos h]; omega), rfl⟩
  · go_enter Tryz.func38, Tryz.ntmps38
    go_wp2
    go_ret
    exact ⟨ret_int (by simp only [Cal.dayG, Cal.ysG, Cal.cumG, if_neg (show ¬ m ≤ 2 by omega), Cal.lg]; split <;> omega), rfl⟩

set_option maxHeartbeats 400000 in
theorem cday_any (y m d : Int) (w : World) :
    Calls Tryz.prog 8 #[.agg #[.int .i64 y, .int .i64 m, .int .i64 d]] w fun e w' => e = .returned (.tuple #[.int .i64 (Cal.dayGn y m d), .int .i64 (Cal.dayGe y m d)]) ∧ Below w.heap.size w w' := by
  by_cases hv : Cal.okGb y m d = true
  · obtain ⟨h1, h2, h3, h4, h5, h6⟩ := Cal.okGb_iff.1 hv
    have hl := Cal.lenG_bd y m
    have hn : Cal.dayGn y m d = Cal.dayG y m d := by simp [Cal.dayGn, hv]
    have he : Cal.dayGe y m d = 0 := by simp [Cal.dayGe, hv]
    rw [hn, he]; clear hn he
    go_enter Tryz.func8, Tryz.ntmps8
    go_wp2_with (first | (go_at_call 39; refine (cvalid_any _ _ _ _).mono ?_; rintro e w1 ⟨rfl, hb⟩; obtain ⟨c0, c1, c2⟩ := box3 hb) | (go_at_call 38; refine (ccount_any _ _ _ _ h1 (by omega) h3 h4 (by omega) (by omega)).mono ?_; rintro e w' ⟨rfl, rfl⟩))
    go_ret2
    exact ⟨rfl, below_box (by assumption)⟩
  · have hn : Cal.dayGn y m d = 0 := by simp [Cal.dayGn, hv]
    have he : Cal.dayGe y m d = 1 := by simp [Cal.dayGe, hv]
    rw [hn, he]; clear hn he
    go_enter Tryz.func8, Tryz.ntmps8
    go_wp2_with (go_at_call 39; refine (cvalid_any _ _ _ _).mono ?_; rintro e w1 ⟨rfl, hb⟩)
    go_ret2
    exact ⟨rfl, below_box hb⟩

theorem cinside_any (n : Int) (w : World) :
    Calls Tryz.prog 37 #[.int .i64 n] w fun e w' => e = .returned (.bool (Cal.inB n)) ∧ w = w' := by
  have hl : Cal.inB n = (decide (-719162 ≤ n) && decide (n < 2932897)) := by rw [Bool.eq_iff_iff]; simp [Cal.inB]
  rw [hl]; clear hl
  by_cases h1 : -719162 ≤ n
  · go_enter Tryz.func37, Tryz.ntmps37
    go_wp2
    go_ret
    exact ⟨by simp [h1], rfl⟩
  · go_enter Tryz.func37, Tryz.ntmps37
    go_wp2
    go_ret
    exact ⟨by simp; omega, rfl⟩

/-- what the two searches end with: a date whose day is n -/
def okEnd (n y m : Int) : Prop := Cal.okG y m (n - Cal.dayG y m 1 + 1) ∧ Cal.dayG y m (n - Cal.dayG y m 1 + 1) = n
theorem okEnd_of {n y m : Int} (h1 : 1 ≤ y) (h2 : y ≤ 9999) (k1 : 1 ≤ m) (k2 : m ≤ 12) (k3 : Cal.dayG y m 1 ≤ n) (hy : Cal.dayG (y + 1) 1 1 = Cal.ysG (y + 1)) (hz : n < Cal.dayG (y + 1) 1 1) (hc : ¬ m < 12 ∨ n < Cal.dayG y (m + 1) 1) : okEnd n y m := by
  refine ⟨⟨h1, h2, k1, k2, by omega, ?_⟩, by unfold Cal.dayG; omega⟩
  rw [hy, Cal.ysG_succ] at hz
  by_cases hm : m < 12
  · have := Cal.cumG_succ y k1 (by omega)
    unfold Cal.dayG at *; omega
  · obtain rfl : m = 12 := by omega
    have e1 : Cal.cumG y 12 = 334 + Cal.lg y := by simp [Cal.cumG]
    have e2 : Cal.lenG y 12 = 31 := by simp [Cal.lenG, Cal.lenB]
    unfold Cal.dayG at *; omega
theorem okEnd_bd {n y m : Int} (h : okEnd n y m) (h1 : 1 ≤ y) (h2 : y ≤ 9999) : -719162 ≤ Cal.dayG y m 1 ∧ Cal.dayG y m 1 ≤ 2932896 := by
  have hg := Cal.dayG_in h.1
  have hl := Cal.lenG_bd y m
  obtain ⟨⟨_, _, k1, k2, k3, k4⟩, _⟩ := h
  have := Cal.cumG_bd y k1 k2
  have := Cal.ysG_bd h1 (by omega)
  unfold Cal.dayG at *; omega

set_option maxHeartbeats 1000000 in
theorem cdate_any (n : Int) (w : World) :
    Calls Tryz.prog 6 #[.int .i64 n] w fun e w' => e = .returned (.tuple #[.agg #[.int .i64 (Cal.yG n), .int .i64 (Cal.mG n), .int .i64 (Cal.aG n)], .int .i64 (Cal.inE n)]) ∧ Below w.heap.size w w' := by
  by_cases hi : Cal.inB n = true
  · have hE : Cal.inE n = 0 := by simp [Cal.inE, hi]
    rw [hE]; clear hE
    obtain ⟨i1, i2⟩ := Cal.inB_iff.1 hi
    go_enter Tryz.func6, Tryz.ntmps6
    go_wp2_with (go_at_call 37; refine (cinside_any _ _).mono ?_; rintro e w' ⟨rfl, rfl⟩)
    go_loop [4] (fun t => ∃ y : Int, 1 ≤ y ∧ y ≤ 9999 ∧ Cal.dayG y 1 1 ≤ n ∧ t = .int .i64 y) (fun t => (9999 - intOf t).toNat)
    case atStart => exact ⟨_, by omega, by omega, by simp [Cal.dayG, Cal.ysG, Cal.cumG]; omega, rfl⟩
    case round =>
      obtain ⟨y, h1, h2, h3, rfl⟩ := hrel
      by_cases hc : y < 9999 ∧ Cal.dayG (y + 1) 1 1 ≤ n
      · obtain ⟨hc1, hc2⟩ := hc
        go_wp2_with (go_at_call 38; refine (ccount_any _ _ _ _ (by omega) (by omega) (by omega) (by omega) (by omega) (by omega)).mono ?_; rintro e w' ⟨rfl, rfl⟩)
        go_round
        case rel => exact ⟨y + 1, by omega, by omega, hc2, rfl⟩
        case measure => simp [intOf]; omega
      · have hz : n < Cal.dayG (y + 1) 1 1 := by
          by_cases e : y = 9999
          · subst e; have : Cal.dayG (9999 + 1) 1 1 = 2932897 := by decide
            omega
          · omega
        clear hc
        have hy1 : Cal.dayG (y + 1) 1 1 = Cal.ysG (y + 1) := by simp [Cal.dayG, Cal.cumG]
        have hy0 : Cal.dayG y 1 1 = Cal.ysG y := by simp [Cal.dayG, Cal.cumG]
        have hyH := Lib.hid hy1; have hy0H := Lib.hid hy0; clear hy1 hy0
        by_cases hlt : y < 9999
        all_goals
          go_wp2_with (go_at_call 38; refine (ccount_any _ _ _ _ (by omega) (by omega) (by omega) (by omega) (by omega) (by omega)).mono ?_; rintro e w' ⟨rfl, rfl⟩)
          go_loop [5] (fun t => ∃ m : Int, 1 ≤ m ∧ m ≤ 12 ∧ Cal.dayG y m 1 ≤ n ∧ t = .int .i64 m) (fun t => (12 - intOf t).toNat)
          case atStart => exact ⟨1, by omega, by omega, h3, rfl⟩
          case round =>
            obtain ⟨m, k1, k2, k3, rfl⟩ := hrel
            by_cases hc : m < 12 ∧ Cal.dayG y (m + 1) 1 ≤ n
            · obtain ⟨hc1, hc2⟩ := hc
              go_wp2_with (go_at_call 38; refine (ccount_any _ _ _ _ (by omega) (by omega) (by omega) (by omega) (by omega) (by omega)).mono ?_; rintro e w' ⟨rfl, rfl⟩)
              go_round
              case rel => exact ⟨m + 1, by omega, by omega, hc2, rfl⟩
              case measure => simp [intOf]; omega
            · have hd : okEnd n y m := okEnd_of h1 h2 k1 k2 k3 hyH.out hz (by omega)
              have hdb := okEnd_bd hd h1 h2
              have hz' : m < 12 → n < Cal.dayG y (m + 1) 1 := by omega
              clear hc
              by_cases hm : m < 12
              all_goals
                try have hz' := hz' hm
                go_wp2_with (go_at_call 38; refine (ccount_any _ _ _ _ (by omega) (by omega) (by omega) (by omega) (by omega) (by omega)).mono ?_; rintro e w' ⟨rfl, rfl⟩)
                obtain ⟨e1, e2, e3⟩ := Cal.dtG_eq hi hd.1 hd.2
                rw [← e1, ← e2, ← e3]
                exact bodyPost_ret (v := .tuple #[.agg #[.int .i64 y, .int .i64 m, .int .i64 (n - Cal.dayG y m 1 + 1)], .int .i64 0]) (by simp [results, Tryz.results6, go_sem]) rfl ⟨rfl, by go_grown⟩
  · have hE : Cal.inE n = 2 := by simp [Cal.inE, hi]
    have hi' : Cal.inB n = false := by simpa using hi
    obtain ⟨e1, e2, e3⟩ := Cal.dtG_out hi'
    rw [hE, e1, e2, e3]; clear hE e1 e2 e3 hi
    go_enter Tryz.func6, Tryz.ntmps6
    go_wp2_with (go_at_call 37; refine (cinside_any _ _).mono ?_; rintro e w' ⟨rfl, rfl⟩)
    exact bodyPost_ret (v := .tuple #[.agg #[.int .i64 0, .int .i64 0, .int .i64 0], .int .i64 2]) (by simp [results, Tryz.results6, go_sem]) rfl ⟨rfl, by go_grown⟩

def wdG (n : Int) : Int := if Cal.inB n then (n + 3) % 7 + 1 else 0
theorem cweekday_any (n : Int) (w : World) :
    Calls Tryz.prog 15 #[.int .i64 n] w fun e w' => e = .returned (.int .i64 (wdG n)) ∧ ∃ k, w' = w.drewN k := by
  by_cases hi : Cal.inB n = true
  · have hE : wdG n = (n + 3) % 7 + 1 := by simp [wdG, hi]
    obtain ⟨i1, i2⟩ := Cal.inB_iff.1 hi
    rw [hE]; clear hE
    go_enter Tryz.func15, Tryz.ntmps15
    go_wp2_with (first | (go_at_call 37; refine (cinside_any _ _).mono ?_; rintro e w' ⟨rfl, rfl⟩) | (go_at_call 42; refine (mod_any _ _ _ (by omega) (by omega) (by omega) (by omega)).mono ?_; rintro e w' ⟨rfl, k, rfl⟩))
    go_ret
    exact ⟨rfl, _, rfl⟩
  · have hE : wdG n = 0 := by simp [wdG, hi]
    have hi' : Cal.inB n = false := by simpa using hi
    rw [hE]; clear hE hi
    go_enter Tryz.func15, Tryz.ntmps15
    go_wp2_with (go_at_call 37; refine (cinside_any _ _).mono ?_; rintro e w' ⟨rfl, rfl⟩)
    go_ret
    exact ⟨rfl, 0, rfl⟩
end Go.Proofs.YtehjjinlpilelaaGreatDoor
