/- Contracts of Date and Molad, of package hebrew and of its reference. No conditions. -/
import Derived.Test.YtpoehjnhinapoaaHebG
namespace Heb
def mx (y m : Int) : Int := if m < 7 then y + 1 else y
def prt (y m : Int) : Int := 765433 * (m - 7 + bf (mx y m)) - 876
def moB (y m : Int) : Bool := decide (1 ≤ m) && decide (m ≤ mthc y)
def moD (y m : Int) : Int := if moB y m then -2092590 + prt y m / 25920 else 0
def moP (y m : Int) : Int := if moB y m then prt y m % 25920 else 0
def moE (y m : Int) : Int := if moB y m then 0 else 2
theorem moB_iff {y m : Int} : moB y m = true ↔ 1 ≤ m ∧ m ≤ mthc y := by unfold moB; rw [Bool.and_eq_true, decide_eq_true_eq, decide_eq_true_eq]
end Heb
namespace Go.Proofs.Ytpoehjnhinapoaa
open Go.ChangeShapes Go.WideShapes Go.ChangeAt Go.RowKit

set_option maxHeartbeats 1000000 in
theorem hDate_any (n : Int) (w : World) :
    Calls Try.prog 34 #[.int .i64 n] w fun e w' => e = .returned (.tuple #[.agg #[.int .i64 (Heb.dY n), .int .i64 (Heb.dM n), .int .i64 (Heb.dA n)], .int .i64 (Heb.dE n)]) ∧ Below w.heap.size w w' := by
  by_cases hi : Cal.inB n = true
  · obtain ⟨i1, i2⟩ := Cal.inB_iff.1 hi
    have e1 : Heb.dY n = Heb.yH n := by simp [Heb.dY, hi]
    have e2 : Heb.dM n = Heb.mH n := by simp [Heb.dM, hi]
    have e3 : Heb.dA n = Heb.aH n := by simp [Heb.dA, hi]
    have e4 : Heb.dE n = 0 := by simp [Heb.dE, hi]
    rw [e1, e2, e3, e4]; clear e1 e2 e3 e4
    go_enter Try.func34, Try.ntmps34
    go_wp2_with (first | (go_at_call 55; refine (hdate_any _ _ (by omega) (by omega)).mono ?_; rintro e w' ⟨rfl, hb1⟩; obtain ⟨_, r0, r1, r2, g0, g1, g2⟩ := Box3.born hb1))
    exact bodyPost_ret (v := .tuple #[.agg #[.int .i64 (Heb.yH n), .int .i64 (Heb.mH n), .int .i64 (Heb.aH n)], .int .i64 0]) (by simp [results, Try.results34, go_sem, r0, r1, r2]) rfl ⟨rfl, (below_box hb1).trans (by go_grown)⟩
  · have hi' : Cal.inB n = false := by simpa using hi
    have hways : n < -719162 ∨ (¬ n < -719162 ∧ 2932897 ≤ n) := by rw [Cal.inB_iff] at hi; omega
    have e1 : Heb.dY n = 0 := by simp [Heb.dY, hi]
    have e2 : Heb.dM n = 0 := by simp [Heb.dM, hi]
    have e3 : Heb.dA n = 0 := by simp [Heb.dA, hi]
    have e4 : Heb.dE n = 2 := by simp [Heb.dE, hi]
    rw [e1, e2, e3, e4]; clear e1 e2 e3 e4 hi
    rcases hways with q | ⟨q, q'⟩
    all_goals
      go_enter Try.func34, Try.ntmps34
      go_wp2_with fail
      exact bodyPost_ret (v := .tuple #[.agg #[.int .i64 0, .int .i64 0, .int .i64 0], .int .i64 2]) (by simp [results, Try.results34, go_sem]) rfl ⟨rfl, by go_grown⟩
set_option maxHeartbeats 1000000 in
theorem rhDate_any (n : Int) (w : World) :
    Calls Try.prog 35 #[.int .i64 n] w fun e w' => e = .returned (.tuple #[.agg #[.int .i64 (Heb.dY n), .int .i64 (Heb.dM n), .int .i64 (Heb.dA n)], .int .i64 (Heb.dE n)]) ∧ Below w.heap.size w w' := by
  by_cases hi : Cal.inB n = true
  · obtain ⟨i1, i2⟩ := Cal.inB_iff.1 hi
    have e1 : Heb.dY n = Heb.yH n := by simp [Heb.dY, hi]
    have e2 : Heb.dM n = Heb.mH n := by simp [Heb.dM, hi]
    have e3 : Heb.dA n = Heb.aH n := by simp [Heb.dA, hi]
    have e4 : Heb.dE n = 0 := by simp [Heb.dE, hi]
    rw [e1, e2, e3, e4]; clear e1 e2 e3 e4
    go_enter Try.func35, Try.ntmps35
    go_wp2_with (first | (go_at_call 56; refine (rhat_any _ _ (by omega) (by omega)).mono ?_; rintro e w' ⟨rfl, hb1⟩; obtain ⟨_, r0, r1, r2, g0, g1, g2⟩ := Box3.born hb1) | (go_at_call 42; refine (rhinside_any _ _).mono ?_; rintro e w' ⟨rfl, rfl⟩))
    exact bodyPost_ret (v := .tuple #[.agg #[.int .i64 (Heb.yH n), .int .i64 (Heb.mH n), .int .i64 (Heb.aH n)], .int .i64 0]) (by simp [results, Try.results35, go_sem, r0, r1, r2]) rfl ⟨rfl, (below_box hb1).trans (by go_grown)⟩
  · have hi' : Cal.inB n = false := by simpa using hi
    have hways : n < -719162 ∨ (¬ n < -719162 ∧ 2932897 ≤ n) := by rw [Cal.inB_iff] at hi; omega
    have e1 : Heb.dY n = 0 := by simp [Heb.dY, hi]
    have e2 : Heb.dM n = 0 := by simp [Heb.dM, hi]
    have e3 : Heb.dA n = 0 := by simp [Heb.dA, hi]
    have e4 : Heb.dE n = 2 := by simp [Heb.dE, hi]
    rw [e1, e2, e3, e4]; clear e1 e2 e3 e4 hi
    rcases hways with q | ⟨q, q'⟩
    all_goals
      go_enter Try.func35, Try.ntmps35
      go_wp2_with (first | (go_at_call 42; refine (rhinside_any _ _).mono ?_; rintro e w' ⟨rfl, rfl⟩))
      exact bodyPost_ret (v := .tuple #[.agg #[.int .i64 0, .int .i64 0, .int .i64 0], .int .i64 2]) (by simp [results, Try.results35, go_sem]) rfl ⟨rfl, by go_grown⟩
set_option maxHeartbeats 1000000 in
theorem hmolad_any (y m : Int) (w : World) :
    Calls Try.prog 30 #[.int .i64 y, .int .i64 m] w fun e w' => e = .returned (.tuple #[.int .i64 (Heb.moD y m), .int .i64 (Heb.moP y m), .int .i64 (Heb.moE y m)]) ∧ ∃ k, w' = w.drewN k := by
  by_cases hm : Heb.moB y m = true
  · obtain ⟨m1, m2⟩ := Heb.moB_iff.1 hm
    obtain ⟨hy, hmm⟩ := Heb.mthc_y (y := y) (by omega)
    obtain ⟨y1, y2⟩ := Heb.yB_iff.1 hy
    have hmb := Heb.mths_bd y
    have e1 : Heb.moD y m = -2092590 + Heb.prt y m / 25920 := by simp [Heb.moD, hm]
    have e2 : Heb.moP y m = Heb.prt y m % 25920 := by simp [Heb.moP, hm]
    have e3 : Heb.moE y m = 0 := by simp [Heb.moE, hm]
    rw [e1, e2, e3]
    have m13 : m ≤ 13 := by omega
    clear e1 e2 e3 hm hmm hy
    have hpe : Heb.prt y m % 25920 = Heb.prt y m - 25920 * (Heb.prt y m / 25920) := by omega
    by_cases q : m < 7
    all_goals
      first
        | (have hx : Heb.prt y m = 765433 * (m - 7 + Heb.bf (y + 1)) - 876 := by unfold Heb.prt Heb.mx; rw [if_pos q])
        | (have hx : Heb.prt y m = 765433 * (m - 7 + Heb.bf y) - 876 := by unfold Heb.prt Heb.mx; rw [if_neg q])
      obtain ⟨b1, b2, _⟩ := Heb.dd_bd (y := y) (by omega) (by omega)
      obtain ⟨b3, b4, _⟩ := Heb.dd_bd (y := y + 1) (by omega) (by omega)
      have hpb : -100000000000 ≤ Heb.prt y m ∧ Heb.prt y m ≤ 1000000000000 := by rw [hx]; omega
      rw [hpe]; clear hpe
      rw [hx] at hpb ⊢
      clear hx
      go_enter Try.func30, Try.ntmps30
      go_wp2_with (first | (go_at_call 17; refine (hmonths_any _ _).mono ?_; rintro e w' ⟨rfl, kd, rfl⟩) | (go_at_call 53; refine (hbefore_any _ _ (by omega) (by omega)).mono ?_; rintro e w' ⟨rfl, kd, rfl⟩) | (go_at_call 54; refine (floor_any _ _ _ (by omega) (by omega) (by omega) (by omega)).mono ?_; rintro e w' ⟨rfl, kd, rfl⟩))
      go_ret3
      exact ⟨rfl, _, rfl⟩
  · have e1 : Heb.moD y m = 0 := by simp [Heb.moD, hm]
    have e2 : Heb.moP y m = 0 := by simp [Heb.moP, hm]
    have e3 : Heb.moE y m = 2 := by simp [Heb.moE, hm]
    have hways : m < 1 ∨ (¬ m < 1 ∧ Heb.mthc y < m) := by rw [Heb.moB_iff] at hm; omega
    rw [e1, e2, e3]; clear e1 e2 e3 hm
    rcases hways with q | ⟨q, q'⟩
    · go_enter Try.func30, Try.ntmps30
      go_wp2
      go_ret3
      exact ⟨rfl, 0, rfl⟩
    · go_enter Try.func30, Try.ntmps30
      go_wp2_with (first | (go_at_call 17; refine (hmonths_any _ _).mono ?_; rintro e w' ⟨rfl, kd, rfl⟩) | (go_at_call 53; refine (hbefore_any _ _ (by omega) (by omega)).mono ?_; rintro e w' ⟨rfl, kd, rfl⟩) | (go_at_call 54; refine (floor_any _ _ _ (by omega) (by omega) (by omega) (by omega)).mono ?_; rintro e w' ⟨rfl, kd, rfl⟩))
      go_ret3
      exact ⟨rfl, _, rfl⟩
set_option maxHeartbeats 1000000 in
theorem rhmolad_any (y m : Int) (w : World) :
    Calls Try.prog 31 #[.int .i64 y, .int .i64 m] w fun e w' => e = .returned (.tuple #[.int .i64 (Heb.moD y m), .int .i64 (Heb.moP y m), .int .i64 (Heb.moE y m)]) ∧ w = w' := by
  by_cases hm : Heb.moB y m = true
  · obtain ⟨m1, m2⟩ := Heb.moB_iff.1 hm
    obtain ⟨hy, hmm⟩ := Heb.mthc_y (y := y) (by omega)
    obtain ⟨y1, y2⟩ := Heb.yB_iff.1 hy
    have hmb := Heb.mths_bd y
    have e1 : Heb.moD y m = -2092590 + Heb.prt y m / 25920 := by simp [Heb.moD, hm]
    have e2 : Heb.moP y m = Heb.prt y m % 25920 := by simp [Heb.moP, hm]
    have e3 : Heb.moE y m = 0 := by simp [Heb.moE, hm]
    rw [e1, e2, e3]
    have m13 : m ≤ 13 := by omega
    clear e1 e2 e3 hm hmm hy
    have hpe : Heb.prt y m % 25920 = Heb.prt y m - 25920 * (Heb.prt y m / 25920) := by omega
    by_cases q : m < 7
    all_goals
      first
        | (have hx : Heb.prt y m = 765433 * (m - 7 + Heb.bf (y + 1)) - 876 := by unfold Heb.prt Heb.mx; rw [if_pos q])
        | (have hx : Heb.prt y m = 765433 * (m - 7 + Heb.bf y) - 876 := by unfold Heb.prt Heb.mx; rw [if_neg q])
      obtain ⟨b1, b2, _⟩ := Heb.dd_bd (y := y) (by omega) (by omega)
      obtain ⟨b3, b4, _⟩ := Heb.dd_bd (y := y + 1) (by omega) (by omega)
      have hpb : -100000000000 ≤ Heb.prt y m ∧ Heb.prt y m ≤ 1000000000000 := by rw [hx]; omega
      clear hpe
      rw [hx] at hpb ⊢
      clear hx
      go_enter Try.func31, Try.ntmps31
      go_wp2_with (first | (go_at_call 23; refine (rhmonths_any _ _).mono ?_; rintro e w' ⟨rfl, rfl⟩) | (go_at_call 48; refine (rhbefore_any _ _ (by omega) (by omega)).mono ?_; rintro e w' ⟨rfl, rfl⟩) | (go_at_call 49; refine (rhfloor_any _ _ _ (by omega) (by omega) (by omega) (by omega)).mono ?_; rintro e w' ⟨rfl, rfl⟩) | (go_at_call 50; refine (rhrest_any _ _ _ (by omega) (by omega) (by omega) (by omega)).mono ?_; rintro e w' ⟨rfl, rfl⟩))
      go_ret3
      exact ⟨rfl, rfl⟩
  · have e1 : Heb.moD y m = 0 := by simp [Heb.moD, hm]
    have e2 : Heb.moP y m = 0 := by simp [Heb.moP, hm]
    have e3 : Heb.moE y m = 2 := by simp [Heb.moE, hm]
    have hways : m < 1 ∨ (¬ m < 1 ∧ Heb.mthc y < m) := by rw [Heb.moB_iff] at hm; omega
    rw [e1, e2, e3]; clear e1 e2 e3 hm
    rcases hways with q | ⟨q, q'⟩
    · go_enter Try.func31, Try.ntmps31
      go_wp2
      go_ret3
      exact ⟨rfl, rfl⟩
    · go_enter Try.func31, Try.ntmps31
      go_wp2_with (first | (go_at_call 23; refine (rhmonths_any _ _).mono ?_; rintro e w' ⟨rfl, rfl⟩) | (go_at_call 48; refine (rhbefore_any _ _ (by omega) (by omega)).mono ?_; rintro e w' ⟨rfl, rfl⟩) | (go_at_call 49; refine (rhfloor_any _ _ _ (by omega) (by omega) (by omega) (by omega)).mono ?_; rintro e w' ⟨rfl, rfl⟩) | (go_at_call 50; refine (rhrest_any _ _ _ (by omega) (by omega) (by omega) (by omega)).mono ?_; rintro e w' ⟨rfl, rfl⟩))
      go_ret3
      exact ⟨rfl, rfl⟩
end Go.Proofs.Ytpoehjnhinapoaa
