/- The contract of the reference's Day of a date of weeks, and the walk of WeekDays. No conditions. -/
import Derived.Test.YtajpbajffmiceaaWkD
import Derived.Deep.LoopGhost
namespace Wk
open Cal
theorem wd_at {f mi y k j : Int} (hr : rB f mi = true) : wd (bg f mi y + 7 * (k - 1) + j) = (f - 1 + j) % 7 + 1 := by
  obtain ⟨g, _, _⟩ := bg_spec hr y
  have := rB_iff.1 hr
  unfold wd at *; omega
/-- the ways of the reference's test -/
theorem rdy_ways {y k d c : Int} (h : ¬ (1 ≤ y ∧ y ≤ 9999 ∧ 1 ≤ k ∧ k ≤ c ∧ 1 ≤ d ∧ d ≤ 7)) :
    (decide (y < 1) = true) ∨ (decide (y < 1) = false ∧ decide (y > 9999) = true) ∨ (decide (y < 1) = false ∧ decide (y > 9999) = false ∧ decide (k < 1) = true) ∨ (decide (y < 1) = false ∧ decide (y > 9999) = false ∧ decide (k < 1) = false ∧ decide (k > 60) = true) ∨
    (decide (y < 1) = false ∧ decide (y > 9999) = false ∧ decide (k < 1) = false ∧ decide (k > 60) = false ∧ decide (k > c) = true) ∨ (decide (y < 1) = false ∧ decide (y > 9999) = false ∧ decide (k < 1) = false ∧ decide (k > 60) = false ∧ decide (k > c) = false ∧ decide (d < 1) = true) ∨
    (decide (y < 1) = false ∧ decide (y > 9999) = false ∧ decide (k < 1) = false ∧ decide (k > 60) = false ∧ decide (k > c) = false ∧ decide (d < 1) = false ∧ decide (d > 7) = true) := by
  simp only [decide_eq_true_eq, decide_eq_false_iff_not]; omega
end Wk
namespace Go.Proofs.Ytajpbajffmiceaa
open Go.ChangeShapes Go.WideShapes Go.ChangeAt Go.RowKit

theorem rwday_rule (f mi y k d : Int) (w : World) (hr : Wk.rB f mi = false) :
    Calls Try.prog 29 #[.agg #[.int .i64 f, .int .i64 mi], .agg #[.int .i64 y, .int .i64 k, .int .i64 d]] w fun e w' => e = .returned (.tuple #[.int .i64 0, .int .i64 1]) ∧ Below w.heap.size w w' := by
  go_enter Try.func29, Try.ntmps29
  go_wp2_with fail
  refine (rwvalid_any _ _ _).mono ?_; rintro e w1 ⟨rfl, hb1⟩
  have hb := below_box (below_box hb1)
  clear hb1
  go_wp2_with fail
  go_ret2
  exact ⟨rfl, hb⟩
set_option maxHeartbeats 4000000 in
theorem rwday_early (f mi y k d : Int) (w : World) (hr : Wk.rB f mi = true) (h : (decide (y < 1) = true) ∨ (decide (y < 1) = false ∧ decide (y > 9999) = true) ∨ (decide (y < 1) = false ∧ decide (y > 9999) = false ∧ decide (k < 1) = true) ∨ (decide (y < 1) = false ∧ decide (y > 9999) = false ∧ decide (k < 1) = false ∧ decide (k > 60) = true)) :
    Calls Try.prog 29 #[.agg #[.int .i64 f, .int .i64 mi], .agg #[.int .i64 y, .int .i64 k, .int .i64 d]] w fun e w' => e = .returned (.tuple #[.int .i64 0, .int .i64 2]) ∧ Below w.heap.size w w' := by
  rcases h with q | ⟨q, q2⟩ | ⟨q, q2, q3⟩ | ⟨q, q2, q3, q4⟩
  all_goals
    go_enter Try.func29, Try.ntmps29
    go_wp2_with fail
    refine (rwvalid_any _ _ _).mono ?_; rintro e w1 ⟨rfl, hb1⟩
    have hT := Lib.hid (TwoB.start hb1)
    have hb := below_box (below_box hb1)
    clear hb1
    obtain ⟨⟨_, c0, c1⟩, ⟨_, e0, e1, e2, _, _, _⟩⟩ := hT.out
    go_wp2_with fail
    go_quiet (fail)
    go_wp2_with fail
    go_ret2
    exact ⟨rfl, by (repeat (first | exact Below.refl _ _ | assumption | refine below_drewN ?_ _ | refine below_alloc1 ?_ _ | refine below_then ?_ (by assumption)))⟩
set_option maxHeartbeats 4000000 in
theorem rwday_7 (f mi y k d : Int) (w : World) (hr : Wk.rB f mi = true) (y1 : 1 ≤ y) (y2 : y ≤ 9999) (c : Int) (hc : Wk.wks f mi y = c) (q : decide (y < 1) = false) (q2 : decide (y > 9999) = false) (q3 : decide (k < 1) = false) (q4 : decide (k > 60) = false) (q5 : decide (k > c) = false) (q6 : decide (d < 1) = false) (q7 : decide (d > 7) = true) :
    Calls Try.prog 29 #[.agg #[.int .i64 f, .int .i64 mi], .agg #[.int .i64 y, .int .i64 k, .int .i64 d]] w fun e w' => e = .returned (.tuple #[.int .i64 0, .int .i64 2]) ∧ Below w.heap.size w w' := by
  have hrH := Lib.hid hr
  have hcH := Lib.hid hc
  clear hc
  go_enter Try.func29, Try.ntmps29
  go_wp2_with fail
  refine (rwvalid_any _ _ _).mono ?_; rintro e w1 ⟨rfl, hb1⟩
  have hT := Lib.hid (TwoB.start hb1)
  have hb := below_box (below_box hb1)
  clear hb1
  obtain ⟨⟨lt, c0, c1⟩, ⟨lt2, e0, e1, e2, _, _, _⟩⟩ := hT.out
  go_wp2_with fail
  go_region_held3 (fun w' => (w'.cell? ⟨w.heap.size, 0, none⟩ = some (.int .i64 f) ∧ w'.cell? ⟨w.heap.size, 1, none⟩ = some (.int .i64 mi)) ∧ (w'.cell? ⟨w.heap.size + 1, 0, none⟩ = some (.int .i64 y) ∧ w'.cell? ⟨w.heap.size + 1, 1, none⟩ = some (.int .i64 k) ∧ w'.cell? ⟨w.heap.size + 1, 2, none⟩ = some (.int .i64 d)))
    (first | go_keep | (go_split_ands; exact ⟨⟨keep1 hb3 lt (by assumption), keep1 hb3 lt (by assumption)⟩, ⟨keep1 hb3 lt2 (by assumption), keep1 hb3 lt2 (by assumption), keep1 hb3 lt2 (by assumption)⟩⟩))
    (first | (go_at_call 21; refine (rwweeks_any _ _ _ _ hrH.out y1 (by omega)).mono ?_; rintro e w3 ⟨rfl, hb3⟩; rw [hcH.out]))
  have hb := below_then hb (below_undrew hb3)
  go_wp2_with fail
  go_ret2
  exact ⟨rfl, by (repeat (first | exact Below.refl _ _ | assumption | refine below_drewN ?_ _ | refine below_alloc1 ?_ _ | refine below_then ?_ (by assumption)))⟩
def DayRelW (w wr : World) (f mi y k d : Int) (p : Prop) : Prop := Below w.heap.size w wr ∧ TwoB w wr f mi y k d ∧ p
set_option maxHeartbeats 8000000 in
theorem rwday_good (f mi y k d : Int) (w : World) (hr : Wk.rB f mi = true) (y1 : 1 ≤ y) (y2 : y ≤ 9999) (c : Int) (hc : Wk.wks f mi y = c) (q : decide (y < 1) = false) (q2 : decide (y > 9999) = false) (q3 : decide (k < 1) = false) (q4 : decide (k > 60) = false) (q5 : decide (k > c) = false) (q6 : decide (d < 1) = false) (q7 : decide (d > 7) = false) (k1 : 1 ≤ k) (k53 : k ≤ 53) (d1 : 1 ≤ d) (d2 : d ≤ 7) (N E : Int)
    (hN : (Cal.inB (Wk.bg f mi y + 7 * (k - 1) + (d - f) % 7) = true ∧ N = Wk.bg f mi y + 7 * (k - 1) + (d - f) % 7 ∧ E = 0) ∨ (Cal.inB (Wk.bg f mi y + 7 * (k - 1) + (d - f) % 7) = false ∧ N = 0 ∧ E = 2)) :
    Calls Try.prog 29 #[.agg #[.int .i64 f, .int .i64 mi], .agg #[.int .i64 y, .int .i64 k, .int .i64 d]] w fun e w' => e = .returned (.tuple #[.int .i64 N, .int .i64 E]) ∧ Below w.heap.size w w' := by
  obtain ⟨r1, r2, r3, r4⟩ := Wk.rB_iff.1 hr
  have hbb := Wk.dy_bd hr y1 y2
  have hw2 : IntKind.i64.wrap (k - 1) = k - 1 := IntWalk.i64_in _ (by omega)
  have hw3 : IntKind.i64.wrap (7 * (k - 1)) = 7 * (k - 1) := IntWalk.i64_in _ (by omega)
  have hwd := Lib.hid (fun j => Wk.wd_at (y := y) (k := k) (j := j) hr)
  have hrH := Lib.hid hr
  have hcH := Lib.hid hc
  clear hc
  go_enter Try.func29, Try.ntmps29
  go_wp2_with fail
  refine (rwvalid_any _ _ _).mono ?_; rintro e w1 ⟨rfl, hb1⟩
  have hT := Lib.hid (TwoB.start hb1)
  have hb := below_box (below_box hb1)
  clear hb1
  obtain ⟨⟨lt, c0, c1⟩, ⟨lt2, e0, e1, e2, _, _, _⟩⟩ := hT.out
  go_wp2_with fail
  go_region_held3 (fun w' => (w'.cell? ⟨w.heap.size, 0, none⟩ = some (.int .i64 f) ∧ w'.cell? ⟨w.heap.size, 1, none⟩ = some (.int .i64 mi)) ∧ (w'.cell? ⟨w.heap.size + 1, 0, none⟩ = some (.int .i64 y) ∧ w'.cell? ⟨w.heap.size + 1, 1, none⟩ = some (.int .i64 k) ∧ w'.cell? ⟨w.heap.size + 1, 2, none⟩ = some (.int .i64 d)))
    (first | go_keep | (go_split_ands; exact ⟨⟨keep1 hb3 lt (by assumption), keep1 hb3 lt (by assumption)⟩, ⟨keep1 hb3 lt2 (by assumption), keep1 hb3 lt2 (by assumption), keep1 hb3 lt2 (by assumption)⟩⟩))
    (first | (go_at_call 21; refine (rwweeks_any _ _ _ _ hrH.out y1 (by omega)).mono ?_; rintro e w3 ⟨rfl, hb3⟩; rw [hcH.out]))
  have hT2 := Lib.hid (hT.out.later (below_undrew hb3))
  have hb := below_then hb (below_undrew hb3)
  clear hb3 hT c0 c1 e0 e1 e2 lt lt2 q q2 q3 q4 q5 q6 q7
  obtain ⟨⟨lt, c0, c1⟩, ⟨lt2, e0, e1, e2, _, _, _⟩⟩ := hT2.out
  go_wp2_with fail
  go_region_held3 (fun w' => (w'.cell? ⟨w.heap.size, 0, none⟩ = some (.int .i64 f) ∧ w'.cell? ⟨w.heap.size, 1, none⟩ = some (.int .i64 mi)) ∧ (w'.cell? ⟨w.heap.size + 1, 0, none⟩ = some (.int .i64 y) ∧ w'.cell? ⟨w.heap.size + 1, 1, none⟩ = some (.int .i64 k) ∧ w'.cell? ⟨w.heap.size + 1, 2, none⟩ = some (.int .i64 d)))
    (first | go_keep | (go_split_ands; exact ⟨⟨keep1 hb3 lt (by assumption), keep1 hb3 lt (by assumption)⟩, ⟨keep1 hb3 lt2 (by assumption), keep1 hb3 lt2 (by assumption), keep1 hb3 lt2 (by assumption)⟩⟩))
    (first | (go_at_call 20; refine (rwstart_any _ _ _ _ hrH.out y1 (by omega)).mono ?_; rintro e w4 ⟨rfl, hb3⟩))
  have hT3 := Lib.hid (hT2.out.later (below_undrew hb3))
  have hb := below_then hb (below_undrew hb3)
  clear hb3 hT2 c0 c1 e0 e1 e2 lt lt2
  simp (disch := omega) only [IntWalk.i64_in]
  go_wp2_with fail
  go_loopg [6] 7 (fun g t6 wr => ∃ j : Int, 0 ≤ j ∧ j ≤ (d - f) % 7 ∧ t6 = .int .i64 (Wk.bg f mi y + 7 * (k - 1) + j) ∧ DayRelW w wr f mi y k d ((7 - j).toNat ≤ g))
  case atStart => exact ⟨0, by omega, by omega, val_int (by omega), hb, hT3.out, by omega⟩
  case round =>
    clear hb hT3
    obtain ⟨j, j1, j2, rfl, hb, hT, hg⟩ := hrel
    have hTH := Lib.hid hT
    obtain ⟨⟨lt, c0, c1⟩, ⟨lt2, e0, e1, e2, _, _, _⟩⟩ := hT
    have hwj := hwd.out j
    by_cases hj : j = (d - f) % 7
    · have hv : Wk.wd (Wk.bg f mi y + 7 * (k - 1) + j) = d := by rw [hwj, hj]; omega
      have hvb : (Wk.wd (Wk.bg f mi y + 7 * (k - 1) + j) != d) = false := by rw [hv]; simp
      clear hwj hv
      subst hj
      rcases hN with ⟨hi, rfl, rfl⟩ | ⟨hi, rfl, rfl⟩
      all_goals
        go_wp2_with fail
        go_quiet ((first | (go_at_call 41; exact quiet_same (rwweekday_any _ _ (by omega) (by omega)))))
        go_wp2_with (first | (go_at_call 39; refine (rwinside_any _ _).mono ?_; rintro e w' ⟨rfl, rfl⟩))
        go_ret2
        exact ⟨rfl, by (repeat (first | exact Below.refl _ _ | assumption | refine below_drewN ?_ _ | refine below_alloc1 ?_ _ | refine below_then ?_ (by assumption)))⟩
    · have hv : Wk.wd (Wk.bg f mi y + 7 * (k - 1) + j) ≠ d := by rw [hwj]; omega
      have hvb : (Wk.wd (Wk.bg f mi y + 7 * (k - 1) + j) != d) = true := by simpa using hv
      have hjl : j < (d - f) % 7 := by omega
      clear hwj hv hj
      go_wp2_with fail
      go_quiet ((first | (go_at_call 41; exact quiet_same (rwweekday_any _ _ (by omega) (by omega)))))
      go_wp2_with fail
      go_roundg (gk - 1)
      case measure => omega
      case rel => exact ⟨j + 1, by omega, by omega, val_int (by omega), by (repeat (first | exact Below.refl _ _ | assumption | refine below_drewN ?_ _ | refine below_alloc1 ?_ _ | refine below_then ?_ (by assumption))), hTH.out.later (below_drewN (Below.refl _ _) _), by omega⟩
end Go.Proofs.Ytajpbajffmiceaa
