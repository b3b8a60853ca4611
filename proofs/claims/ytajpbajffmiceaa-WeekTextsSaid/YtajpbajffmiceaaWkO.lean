/- Contracts of the ordinal dates of package week and of its reference, and the walk of WeekOrdinals. No conditions. -/
import Derived.Test.YtajpbajffmiceaaLaws3A
namespace Go.Proofs.Ytajpbajffmiceaa
open Go.ChangeShapes Go.WideShapes Go.ChangeAt Go.RowKit

theorem below_alloc1 {w w1 : World} (h : Below w.heap.size w w1) (o : Obj) : Below w.heap.size w (w1.alloc o) := h.alloc h.size o
set_option maxHeartbeats 400000 in
theorem kordinal_any (n : Int) (w : World) :
    Calls Try.prog 22 #[.int .i64 n] w fun e w' => e = .returned (.tuple #[.int .i64 (Cal.yG n), .int .i64 (Wk.orN n), .int .i64 (Cal.inE n)]) ∧ Below w.heap.size w w' := by
  by_cases hi : Cal.inB n = true
  · obtain ⟨i1, i2⟩ := Cal.inB_iff.1 hi
    obtain ⟨ho, hd⟩ := Cal.dtG_spec hi
    have hdb := Cal.dayG_bd ho
    have hsy := Cal.ysG_bd ho.1 (show Cal.yG n ≤ 10000 by have := ho.2.1; omega)
    obtain ⟨y1, y2, _⟩ := ho
    have hE : Cal.inE n = 0 := by simp [Cal.inE, hi]
    have hN : Wk.orN n = n - Cal.ysG (Cal.yG n) + 1 := by simp [Wk.orN, hi]
    rw [hE, hN]
    have hEH := Lib.hid hE
    clear hE hN hi hd hdb
    go_enter Try.func22, Try.ntmps22
    go_wp2_with fail
    refine (cdate_any _ _).mono ?_; rintro e w1 ⟨rfl, hb1⟩
    rw [hEH.out]
    go_wp2_with fail
    go_region_held3 (fun w' => w'.cell? ⟨w1.heap.size, 0, none⟩ = some (.int .i64 (Cal.yG n)))
      (first | go_keep | exact keep1 hb2 (by simp) (by assumption))
      (first | (go_at_call 43; refine (knewyear_any _ _ (by omega) (by omega)).mono ?_; rintro e w2 ⟨rfl, hb2⟩))
    simp (disch := omega) only [IntWalk.i64_in]
    go_wp2_with fail
    go_ret3
    exact ⟨rfl, below_then (below_alloc1 hb1 _) (below_undrew hb2)⟩
  · have hi' : Cal.inB n = false := by simpa using hi
    have hE : Cal.inE n = 2 := by simp [Cal.inE, hi]
    have hN : Wk.orN n = 0 := by simp [Wk.orN, hi]
    obtain ⟨e1, e2, e3⟩ := Cal.dtG_out hi'
    have hEH := Lib.hid hE
    have h1H := Lib.hid e1
    rw [hE, hN, e1]
    clear hE hN hi e1 e2 e3
    go_enter Try.func22, Try.ntmps22
    go_wp2_with fail
    refine (cdate_any _ _).mono ?_; rintro e w1 ⟨rfl, hb1⟩
    rw [hEH.out]
    go_wp2_with fail
    go_ret3
    exact ⟨rfl, below_alloc1 hb1 _⟩
theorem rwordinal_any (n : Int) (w : World) :
    Calls Try.prog 23 #[.int .i64 n] w fun e w' => e = .returned (.tuple #[.int .i64 (Cal.yG n), .int .i64 (Wk.orN n), .int .i64 (Cal.inE n)]) ∧ w = w' := by
  by_cases hi : Cal.inB n = true
  · obtain ⟨i1, i2⟩ := Cal.inB_iff.1 hi
    obtain ⟨ho, hd⟩ := Cal.dtG_spec hi
    have hsy := Cal.ysG_bd ho.1 (show Cal.yG n ≤ 10000 by have := ho.2.1; omega)
    obtain ⟨y1, y2, _⟩ := ho
    have hE : Cal.inE n = 0 := by simp [Cal.inE, hi]
    have hN : Wk.orN n = n - Cal.ysG (Cal.yG n) + 1 := by simp [Wk.orN, hi]
    rw [hE, hN]
    clear hE hN hd
    go_enter Try.func23, Try.ntmps23
    go_wp2_with (first | (go_at_call 39; refine (rwinside_any _ _).mono ?_; rintro e w' ⟨rfl, rfl⟩) | (go_at_call 40; refine (rwyear_any _ _ hi).mono ?_; rintro e w' ⟨rfl, rfl⟩) | (go_at_call 42; refine (rwnewyear_any _ _ (by omega) (by omega)).mono ?_; rintro e w' ⟨rfl, rfl⟩))
    go_ret3
    exact ⟨rfl, rfl⟩
  · have hi' : Cal.inB n = false := by simpa using hi
    have hE : Cal.inE n = 2 := by simp [Cal.inE, hi]
    have hN : Wk.orN n = 0 := by simp [Wk.orN, hi]
    rw [hE, hN, (Cal.dtG_out hi').1]
    clear hE hN hi
    go_enter Try.func23, Try.ntmps23
    go_wp2_with (first | (go_at_call 39; refine (rwinside_any _ _).mono ?_; rintro e w' ⟨rfl, rfl⟩))
    go_ret3
    exact ⟨rfl, rfl⟩
theorem fo_ways (y n : Int) : (Wk.foB y n = true ∧ 1 ≤ y ∧ y ≤ 9999 ∧ 1 ≤ n ∧ n ≤ 366 ∧ n ≤ Cal.ysG (y + 1) - Cal.ysG y ∧ Wk.foN y n = Cal.ysG y + n - 1 ∧ Wk.foE y n = 0) ∨
    (Wk.foB y n = false ∧ Wk.foN y n = 0 ∧ Wk.foE y n = 2 ∧ (y < 1 ∨ (1 ≤ y ∧ 9999 < y) ∨ (1 ≤ y ∧ y ≤ 9999 ∧ n < 1) ∨ (1 ≤ y ∧ y ≤ 9999 ∧ 1 ≤ n ∧ 366 < n ∧ Cal.ysG (y + 1) - Cal.ysG y < n) ∨ (1 ≤ y ∧ y ≤ 9999 ∧ 1 ≤ n ∧ n ≤ 366 ∧ Cal.ysG (y + 1) - Cal.ysG y < n))) := by
  have hs := Cal.ysG_succ y
  have hl := Cal.lg_01 y
  by_cases h : Wk.foB y n = true
  · have h' := h
    simp only [Wk.foB, Bool.and_eq_true, decide_eq_true_eq] at h'
    obtain ⟨a, b, c⟩ := h'
    have a := Wk.yB_iff.1 a
    exact Or.inl ⟨h, a.1, a.2, b, by omega, c, by simp [Wk.foN, h], by simp [Wk.foE, h]⟩
  · have h' := h
    simp only [Wk.foB, Bool.and_eq_true, decide_eq_true_eq, Wk.yB_iff] at h'
    exact Or.inr ⟨by simpa using h, by simp [Wk.foN, h], by simp [Wk.foE, h], by omega⟩
set_option maxHeartbeats 400000 in
theorem rwfrom_any (y n : Int) (w : World) :
    Calls Try.prog 25 #[.int .i64 y, .int .i64 n] w fun e w' => e = .returned (.tuple #[.int .i64 (Wk.foN y n), .int .i64 (Wk.foE y n)]) ∧ w = w' := by
  rcases fo_ways y n with ⟨_, y1, y2, n1, n2, n3, e1, e2⟩ | ⟨_, e1, e2, q⟩
  · have s1 := Cal.ysG_bd y1 (show y ≤ 10000 by omega)
    have s2 := Cal.ysG_bd (y := y + 1) (by omega) (by omega)
    rw [e1, e2]; clear e1 e2
    go_enter Try.func25, Try.ntmps25
    go_wp2_with (first | (go_at_call 42; refine (rwnewyear_any _ _ (by omega) (by omega)).mono ?_; rintro e w' ⟨rfl, rfl⟩))
    go_ret2
    exact ⟨rfl, rfl⟩
  · rw [e1, e2]; clear e1 e2
    rcases q with q | ⟨q, q2⟩ | ⟨q, q2, q3⟩ | ⟨q, q2, q3, q4, q5⟩ | ⟨q, q2, q3, q4, q5⟩
    all_goals
      try have s1 := Cal.ysG_bd (y := y) (by omega) (by omega)
      try have s2 := Cal.ysG_bd (y := y + 1) (by omega) (by omega)
      go_enter Try.func25, Try.ntmps25
      go_wp2_with (first | (go_at_call 42; refine (rwnewyear_any _ _ (by omega) (by omega)).mono ?_; rintro e w' ⟨rfl, rfl⟩))
      go_ret2
      exact ⟨rfl, rfl⟩
set_option maxHeartbeats 400000 in
theorem kfrom_any (y n : Int) (w : World) :
    Calls Try.prog 24 #[.int .i64 y, .int .i64 n] w fun e w' => e = .returned (.tuple #[.int .i64 (Wk.foN y n), .int .i64 (Wk.foE y n)]) ∧ Below w.heap.size w w' := by
  have hB : ∀ y, Wk.yB y = (decide (1 ≤ y) && decide (y ≤ 9999)) := fun y => by rw [Bool.eq_iff_iff]; simp [Wk.yB]
  rcases fo_ways y n with ⟨_, y1, y2, n1, n2, n3, e1, e2⟩ | ⟨_, e1, e2, q⟩
  · have s1 := Cal.ysG_bd y1 (show y ≤ 10000 by omega)
    have s2 := Cal.ysG_bd (y := y + 1) (by omega) (by omega)
    have hy : Wk.yB y = true := Wk.yB_iff.2 ⟨y1, y2⟩
    rw [e1, e2]; clear e1 e2 hB
    go_enter Try.func24, Try.ntmps24
    go_wp2_with (first | (go_at_call 37; refine (kiny_any _ _).mono ?_; rintro e w' ⟨rfl, rfl⟩) | (go_at_call 43; refine (knewyear_any _ _ (by omega) (by omega)).mono ?_; rintro e w' ⟨rfl, hbn⟩))
    go_ret2
    exact ⟨rfl, by (repeat (first | exact Below.refl _ _ | assumption | refine below_drewN ?_ _ | refine below_alloc1 ?_ _ | refine below_then ?_ (by assumption)))⟩
  · rw [e1, e2]; clear e1 e2
    rcases q with q | ⟨q, q2⟩ | ⟨q, q2, q3⟩ | ⟨q, q2, q3, q4, q5⟩ | ⟨q, q2, q3, q4, q5⟩
    · have hy : Wk.yB y = false := by rw [hB]; simp; omega
      clear hB
      go_enter Try.func24, Try.ntmps24
      go_wp2_with (first | (go_at_call 37; refine (kiny_any _ _).mono ?_; rintro e w' ⟨rfl, rfl⟩))
      go_ret2
      exact ⟨rfl, by (repeat (first | exact Below.refl _ _ | assumption | refine below_drewN ?_ _ | refine below_alloc1 ?_ _ | refine below_then ?_ (by assumption)))⟩
    · have hy : Wk.yB y = false := by rw [hB]; simp; omega
      clear hB
      go_enter Try.func24, Try.ntmps24
      go_wp2_with (first | (go_at_call 37; refine (kiny_any _ _).mono ?_; rintro e w' ⟨rfl, rfl⟩))
      go_ret2
      exact ⟨rfl, by (repeat (first | exact Below.refl _ _ | assumption | refine below_drewN ?_ _ | refine below_alloc1 ?_ _ | refine below_then ?_ (by assumption)))⟩
    all_goals
      have hy : Wk.yB y = true := Wk.yB_iff.2 ⟨by omega, by omega⟩
      have s1 := Cal.ysG_bd (y := y) (by omega) (by omega)
      have s2 := Cal.ysG_bd (y := y + 1) (by omega) (by omega)
      clear hB
      go_enter Try.func24, Try.ntmps24
      go_wp2_with (first | (go_at_call 37; refine (kiny_any _ _).mono ?_; rintro e w' ⟨rfl, rfl⟩) | (go_at_call 43; refine (knewyear_any _ _ (by omega) (by omega)).mono ?_; rintro e w' ⟨rfl, hbn⟩))
      go_ret2
      exact ⟨rfl, by (repeat (first | exact Below.refl _ _ | assumption | refine below_drewN ?_ _ | refine below_alloc1 ?_ _ | refine below_then ?_ (by assumption)))⟩
set_option maxHeartbeats 400000 in
theorem wWeekOrdinals (d y n : Int) (w : World) (_hd : -9223372036854775808 ≤ d ∧ d ≤ 9223372036854775807) (_hy : -9223372036854775808 ≤ y ∧ y ≤ 9223372036854775807) (_hn : -9223372036854775808 ≤ n ∧ n ≤ 9223372036854775807) :
    Calls Try.prog 6 #[.int .i64 d, .int .i64 y, .int .i64 n] w fun e w' => e = .returned (.bool true) ∧ Below w.heap.size w w' := by
  go_enter Try.func6, Try.ntmps6
  go_wp2_with (first | (go_at_call 12; refine (awake_any _).mono ?_; rintro e w' ⟨rfl, hb0⟩) | (go_at_call 22; refine (kordinal_any _ _).mono ?_; rintro e w' ⟨rfl, hb1⟩) | (go_at_call 23; refine (rwordinal_any _ _).mono ?_; rintro e w' ⟨rfl, rfl⟩) | (go_at_call 24; refine (kfrom_any _ _ _).mono ?_; rintro e w' ⟨rfl, hb2⟩) | (go_at_call 25; refine (rwfrom_any _ _ _).mono ?_; rintro e w' ⟨rfl, rfl⟩))
  go_ret
  exact ⟨by simp, by (repeat (first | exact Below.refl _ _ | assumption | refine below_drewN ?_ _ | refine below_alloc1 ?_ _ | refine below_then ?_ (by assumption)))⟩
end Go.Proofs.Ytajpbajffmiceaa
