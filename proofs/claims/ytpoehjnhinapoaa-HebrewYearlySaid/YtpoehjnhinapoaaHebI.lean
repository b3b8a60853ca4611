/- The first four laws of layer 7: years, months, days, dates. No conditions. -/
import Derived.Test.YtpoehjnhinapoaaHebH
namespace Heb
def elc (y : Int) : Int := if yB y then el y else 0
def nwc (y : Int) : Int := if yB y then bg y else 0
def yE (y : Int) : Int := if yB y then 0 else 2
theorem ex_new : nwc 5786 = 20354 ∧ yE 5786 = 0 ∧ dayN 5786 1 15 = 20545 ∧ dayE 5786 1 15 = 0 ∧ ylenc 5786 = 354 := by decide +kernel
end Heb
namespace Go.Proofs.Ytpoehjnhinapoaa
open Go.ChangeShapes Go.WideShapes Go.ChangeAt Go.RowKit

theorem below_alloc1 {w w1 : World} (h : Below w.heap.size w w1) (o : Obj) : Below w.heap.size w (w1.alloc o) := h.alloc h.size o
theorem hElapsed_any (y : Int) (w : World) :
    Calls Try.prog 21 #[.int .i64 y] w fun e w' => e = .returned (.tuple #[.int .i64 (Heb.elc y), .int .i64 (Heb.yE y)]) ∧ ∃ k, w' = w.drewN k := by
  by_cases hy : Heb.yB y = true
  · obtain ⟨y1, y2⟩ := Heb.yB_iff.1 hy
    have e1 : Heb.elc y = Heb.el y := by simp [Heb.elc, hy]
    have e2 : Heb.yE y = 0 := by simp [Heb.yE, hy]
    rw [e1, e2]; clear e1 e2
    go_enter Try.func21, Try.ntmps21
    go_wp2_with (first | (go_at_call 43; refine (hyear_any _ _).mono ?_; rintro e w' ⟨rfl, rfl⟩) | (go_at_call 46; refine (helapsed_any _ _ (by omega) (by omega)).mono ?_; rintro e w' ⟨rfl, kd, rfl⟩))
    go_ret2
    exact ⟨rfl, _, rfl⟩
  · have e1 : Heb.elc y = 0 := by simp [Heb.elc, hy]
    have e2 : Heb.yE y = 2 := by simp [Heb.yE, hy]
    have hy' : Heb.yB y = false := by simpa using hy
    rw [e1, e2]; clear e1 e2 hy
    go_enter Try.func21, Try.ntmps21
    go_wp2_with (first | (go_at_call 43; refine (hyear_any _ _).mono ?_; rintro e w' ⟨rfl, rfl⟩))
    go_ret2
    exact ⟨rfl, 0, rfl⟩
theorem hNew_any (y : Int) (w : World) :
    Calls Try.prog 20 #[.int .i64 y] w fun e w' => e = .returned (.tuple #[.int .i64 (Heb.nwc y), .int .i64 (Heb.yE y)]) ∧ ∃ k, w' = w.drewN k := by
  by_cases hy : Heb.yB y = true
  · obtain ⟨y1, y2⟩ := Heb.yB_iff.1 hy
    have e1 : Heb.nwc y = Heb.bg y := by simp [Heb.nwc, hy]
    have e2 : Heb.yE y = 0 := by simp [Heb.yE, hy]
    rw [e1, e2]; clear e1 e2
    go_enter Try.func20, Try.ntmps20
    go_wp2_with (first | (go_at_call 43; refine (hyear_any _ _).mono ?_; rintro e w' ⟨rfl, rfl⟩) | (go_at_call 45; refine (hbegin_any _ _ (by omega) (by omega)).mono ?_; rintro e w' ⟨rfl, kd, rfl⟩))
    go_ret2
    exact ⟨rfl, _, rfl⟩
  · have e1 : Heb.nwc y = 0 := by simp [Heb.nwc, hy]
    have e2 : Heb.yE y = 2 := by simp [Heb.yE, hy]
    have hy' : Heb.yB y = false := by simpa using hy
    rw [e1, e2]; clear e1 e2 hy
    go_enter Try.func20, Try.ntmps20
    go_wp2_with (first | (go_at_call 43; refine (hyear_any _ _).mono ?_; rintro e w' ⟨rfl, rfl⟩))
    go_ret2
    exact ⟨rfl, 0, rfl⟩
theorem awake_any (w : World) :
    Calls Try.prog 14 #[] w fun e w' => e = .returned (.bool true) ∧ Below w.heap.size w w' := by
  obtain ⟨e1, e2, e3, e4, e5⟩ := Heb.ex_new
  go_enter Try.func14, Try.ntmps14
  go_wp2_with fail
  refine (hNew_any _ _).mono ?_; rintro e w1 ⟨rfl, k1, rfl⟩
  rw [e1, e2]
  go_wp2_with fail
  refine (hday_any _ _ _ _).mono ?_; rintro e w2 ⟨rfl, hb2⟩
  rw [e3, e4]
  go_wp2_with fail
  refine (hylen_any _ _).mono ?_; rintro e w3 ⟨rfl, k3, rfl⟩
  rw [e5]
  go_wp2_with fail
  go_ret
  exact ⟨by simp, by (repeat (first | exact Below.refl _ _ | assumption | refine below_drewN ?_ _ | refine below_alloc1 ?_ _ | refine below_then ?_ (by assumption)))⟩

set_option maxHeartbeats 1000000 in
theorem wHebrewYears (y : Int) (w : World) (_h : -9223372036854775808 ≤ y ∧ y ≤ 9223372036854775807) :
    Calls Try.prog 5 #[.int .i64 y] w fun e w' => e = .returned (.bool true) ∧ Below w.heap.size w w' := by
  by_cases hy : Heb.yB y = true
  · obtain ⟨y1, y2⟩ := Heb.yB_iff.1 hy
    have e1 : Heb.elc y = Heb.el y := by simp [Heb.elc, hy]
    have e2 : Heb.nwc y = Heb.bg y := by simp [Heb.nwc, hy]
    have e3 : Heb.yE y = 0 := by simp [Heb.yE, hy]
    go_enter Try.func5, Try.ntmps5
    go_wp2_with (first | (go_at_call 14; refine (awake_any _).mono ?_; rintro e w' ⟨rfl, hb0⟩) | (go_at_call 20; refine (hNew_any _ _).mono ?_; rintro e w' ⟨rfl, kd, rfl⟩) | (go_at_call 21; refine (hElapsed_any _ _).mono ?_; rintro e w' ⟨rfl, kd, rfl⟩) | (go_at_call 19; refine (hLeap_any _ _).mono ?_; rintro e w' ⟨rfl, kd, rfl⟩) | (go_at_call 17; refine (hmonths_any _ _).mono ?_; rintro e w' ⟨rfl, kd, rfl⟩) | (go_at_call 18; refine (hylen_any _ _).mono ?_; rintro e w' ⟨rfl, kd, rfl⟩) | (go_at_call 22; refine (rhLeap_any _ _).mono ?_; rintro e w' ⟨rfl, rfl⟩) | (go_at_call 23; refine (rhmonths_any _ _).mono ?_; rintro e w' ⟨rfl, rfl⟩) | (go_at_call 24; refine (rhylen_any _ _).mono ?_; rintro e w' ⟨rfl, rfl⟩) | (go_at_call 25; refine (rhyear_any _ _).mono ?_; rintro e w' ⟨rfl, rfl⟩) | (go_at_call 26; refine (rhelapsed_any _ _ (by omega) (by omega)).mono ?_; rintro e w' ⟨rfl, rfl⟩) | (go_at_call 27; refine (rhnew_any _ _ (by omega) (by omega)).mono ?_; rintro e w' ⟨rfl, rfl⟩))
    go_ret
    exact ⟨by simp, by (repeat (first | exact Below.refl _ _ | assumption | refine below_drewN ?_ _ | refine below_alloc1 ?_ _ | refine below_then ?_ (by assumption)))⟩
  · have e1 : Heb.elc y = 0 := by simp [Heb.elc, hy]
    have e2 : Heb.nwc y = 0 := by simp [Heb.nwc, hy]
    have e3 : Heb.yE y = 2 := by simp [Heb.yE, hy]
    have hy' : Heb.yB y = false := by simpa using hy
    clear hy
    go_enter Try.func5, Try.ntmps5
    go_wp2_with (first | (go_at_call 14; refine (awake_any _).mono ?_; rintro e w' ⟨rfl, hb0⟩) | (go_at_call 20; refine (hNew_any _ _).mono ?_; rintro e w' ⟨rfl, kd, rfl⟩) | (go_at_call 21; refine (hElapsed_any _ _).mono ?_; rintro e w' ⟨rfl, kd, rfl⟩) | (go_at_call 19; refine (hLeap_any _ _).mono ?_; rintro e w' ⟨rfl, kd, rfl⟩) | (go_at_call 17; refine (hmonths_any _ _).mono ?_; rintro e w' ⟨rfl, kd, rfl⟩) | (go_at_call 18; refine (hylen_any _ _).mono ?_; rintro e w' ⟨rfl, kd, rfl⟩) | (go_at_call 22; refine (rhLeap_any _ _).mono ?_; rintro e w' ⟨rfl, rfl⟩) | (go_at_call 23; refine (rhmonths_any _ _).mono ?_; rintro e w' ⟨rfl, rfl⟩) | (go_at_call 24; refine (rhylen_any _ _).mono ?_; rintro e w' ⟨rfl, rfl⟩) | (go_at_call 25; refine (rhyear_any _ _).mono ?_; rintro e w' ⟨rfl, rfl⟩) | (go_at_call 26; refine (rhelapsed_any _ _ (by omega) (by omega)).mono ?_; rintro e w' ⟨rfl, rfl⟩) | (go_at_call 27; refine (rhnew_any _ _ (by omega) (by omega)).mono ?_; rintro e w' ⟨rfl, rfl⟩))
    go_ret
    exact ⟨by simp, by (repeat (first | exact Below.refl _ _ | assumption | refine below_drewN ?_ _ | refine below_alloc1 ?_ _ | refine below_then ?_ (by assumption)))⟩
set_option maxHeartbeats 1000000 in
theorem wHebrewMonths (y m : Int) (w : World) (_h : -9223372036854775808 ≤ y ∧ y ≤ 9223372036854775807) (_h2 : -9223372036854775808 ≤ m ∧ m ≤ 9223372036854775807) :
    Calls Try.prog 7 #[.int .i64 y, .int .i64 m] w fun e w' => e = .returned (.bool true) ∧ Below w.heap.size w w' := by
  go_enter Try.func7, Try.ntmps7
  go_wp2_with (first | (go_at_call 14; refine (awake_any _).mono ?_; rintro e w' ⟨rfl, hb0⟩) | (go_at_call 30; refine (hmolad_any _ _ _).mono ?_; rintro e w' ⟨rfl, kd, rfl⟩) | (go_at_call 31; refine (rhmolad_any _ _ _).mono ?_; rintro e w' ⟨rfl, rfl⟩) | (go_at_call 28; refine (hlength_any _ _ _).mono ?_; rintro e w' ⟨rfl, kd, rfl⟩) | (go_at_call 32; refine (rhlength_any _ _ _).mono ?_; rintro e w' ⟨rfl, rfl⟩))
  go_ret
  exact ⟨by simp, by (repeat (first | exact Below.refl _ _ | assumption | refine below_drewN ?_ _ | refine below_alloc1 ?_ _ | refine below_then ?_ (by assumption)))⟩
set_option maxHeartbeats 1000000 in
theorem wHebrewDays (y m d : Int) (w : World) (_h : -9223372036854775808 ≤ y ∧ y ≤ 9223372036854775807) (_h2 : -9223372036854775808 ≤ m ∧ m ≤ 9223372036854775807) (_h3 : -9223372036854775808 ≤ d ∧ d ≤ 9223372036854775807) :
    Calls Try.prog 3 #[.agg #[.int .i64 y, .int .i64 m, .int .i64 d]] w fun e w' => e = .returned (.bool true) ∧ Below w.heap.size w w' := by
  go_enter Try.func3, Try.ntmps3
  go_wp2_with fail
  refine (awake_any _).mono ?_; rintro e w1 ⟨rfl, hb1⟩
  have hD := Lib.hid (Box3.born hb1)
  have hb := below_box hb1
  obtain ⟨_, c0, c1, c2, _, _, _⟩ := hD.out
  clear hb1
  go_wp2_with fail
  refine (hday_any _ _ _ _).mono ?_; rintro e w2 ⟨rfl, hb2⟩
  have hD2 := Lib.hid (hD.out.later hb2)
  have hb := below_then hb hb2
  clear hb2 hD c0 c1 c2
  obtain ⟨_, c0, c1, c2, _, _, _⟩ := hD2.out
  go_wp2_with fail
  refine (rhday_any _ _ _ _).mono ?_; rintro e w3 ⟨rfl, hb3⟩
  have hb := below_then hb hb3
  clear hb3 hD2 c0 c1 c2
  go_wp2
  go_ret
  exact ⟨by simp, hb⟩
set_option maxHeartbeats 1000000 in
theorem wHebrewDates (n : Int) (w : World) (_h : -9223372036854775808 ≤ n ∧ n ≤ 9223372036854775807) :
    Calls Try.prog 9 #[.int .i64 n] w fun e w' => e = .returned (.bool true) ∧ Below w.heap.size w w' := by
  go_enter Try.func9, Try.ntmps9
  go_wp2_with fail
  refine (awake_any _).mono ?_; rintro e w1 ⟨rfl, hb1⟩
  go_wp2_with fail
  refine (hDate_any _ _).mono ?_; rintro e w2 ⟨rfl, hb2⟩
  have hb := below_then hb1 hb2
  clear hb1 hb2
  go_wp2_with fail
  refine (rhDate_any _ _).mono ?_; rintro e w3 ⟨rfl, hb3⟩
  have hD := Box3.born hb3
  have hb := below_then hb (below_box hb3)
  clear hb3
  obtain ⟨_, c0, c1, c2, _, _, _⟩ := hD.alloc (Obj.cells #[.int .i64 (Heb.dY n), .int .i64 (Heb.dM n), .int .i64 (Heb.dA n)] 23)
  go_wp2
  go_ret
  exact ⟨by simp, by (repeat (first | exact Below.refl _ _ | assumption | refine below_drewN ?_ _ | refine below_alloc1 ?_ _ | refine below_then ?_ (by assumption)))⟩
end Go.Proofs.Ytpoehjnhinapoaa
