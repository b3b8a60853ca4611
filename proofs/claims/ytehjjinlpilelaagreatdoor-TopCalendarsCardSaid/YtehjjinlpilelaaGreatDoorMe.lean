/- Contracts of week.Ordinal and week.FromOrdinal. No conditions. -/
import Derived.Test.YtehjjinlpilelaaGreatDoorSWkB
namespace Wk
open Cal
theorem yG_of {n y : Int} (hi : inB n = true) (h1 : ysG y ≤ n) (h2 : n < ysG (y + 1)) : yG n = y := by
  obtain ⟨ho, hd⟩ := dtG_spec hi
  have hb := dayG_bd ho
  rw [hd] at hb
  rcases Int.lt_trichotomy (yG n) y with q | q | q
  · have := ysG_lt q; omega
  · exact q
  · have := ysG_lt q; omega
end Wk
namespace Go.Proofs.YtehjjinlpilelaaGreatDoor
open Go.ChangeShapes Go.WideShapes Go.ChangeAt Go.RowKit

def StartRel (w wr : World) (f mi : Int) (p : Prop) : Prop := Below w.heap.size w wr ∧ Box2 wr w.heap.size (.int .i64 f) (.int .i64 mi) ∧ p
end Go.Proofs.YtehjjinlpilelaaGreatDoor
namespace Wk
open Cal
theorem wy_range {f mi n : Int} (h : rB f mi = true) (hi : inB n = true) : yB (wy f mi n) = true ↔ bg f mi 1 ≤ n ∧ n < bg f mi 10000 := by
  obtain ⟨s1, s2, s3, s4⟩ := wy_spec h hi
  rw [yB_iff]
  constructor
  · rintro ⟨a, b⟩
    refine ⟨?_, ?_⟩
    · rcases (show wy f mi n = 1 ∨ 1 < wy f mi n by omega) with q | q
      · rw [q] at s1; exact s1
      · have := bg_mono h q; have := bg_succ h 1; omega
    · rcases (show wy f mi n = 9999 ∨ wy f mi n < 9999 by omega) with q | q
      · rw [q] at s2; exact s2
      · have := bg_mono h (show wy f mi n < 10000 by omega); omega
  · rintro ⟨a, b⟩
    refine ⟨?_, ?_⟩
    · rcases (show wy f mi n = 0 ∨ 1 ≤ wy f mi n by omega) with q | q
      · rw [q] at s2; have e : bg f mi (0 + 1) = bg f mi 1 := rfl
        omega
      · exact q
    · rcases (show wy f mi n = 10000 ∨ wy f mi n ≤ 9999 by omega) with q | q
      · rw [q] at s1; omega
      · exact q
end Wk
namespace Go.Proofs.YtehjjinlpilelaaGreatDoor
open Go.ChangeShapes Go.WideShapes Go.ChangeAt Go.RowKit

theorem below_in {w w' : World} (h : Below w.heap.size w w') : w.heap.size ≤ w'.heap.size := h.size
def OfRel (w wr : World) (f mi : Int) (p : Prop) : Prop := Below w.heap.size w wr ∧ Box2 wr w.heap.size (.int .i64 f) (.int .i64 mi) ∧ Box3 wr (w.heap.size + 1) (.int .i64 0) (.int .i64 0) (.int .i64 0) ∧ p
end Go.Proofs.YtehjjinlpilelaaGreatDoor
namespace Wk
open Cal
theorem of_2026 : ofY 1 4 20454 = 2026 ∧ ofW 1 4 20454 = 1 ∧ ofD 1 4 20454 = 4 ∧ ofE 1 4 20454 = 0 := by
  have hr : rB 1 4 = true := by decide +kernel
  have hi : inB 20454 = true := by decide +kernel
  have hb : bg 1 4 2026 = 20451 := by decide +kernel
  have hw : wy 1 4 20454 = 2026 := (wy_eq hr hi (by rw [hb]; omega) (by decide +kernel)).symm
  have hk : okOf 1 4 20454 = true := by unfold okOf; rw [hr, hi, hw]; decide +kernel
  have hy : yB 2026 = true := by decide +kernel
  unfold ofY ofW ofD ofE
  rw [hk, hw, hb, hr, hi, hy]
  exact ⟨rfl, rfl, rfl, rfl⟩
theorem st_2026 : stN 1 4 2026 = 20451 ∧ stE 1 4 2026 = 0 ∧ stN 7 1 2026 = 20450 ∧ stE 7 1 2026 = 0 := by decide +kernel
end Wk
namespace Go.Proofs.YtehjjinlpilelaaGreatDoor
open Go.ChangeShapes Go.WideShapes Go.ChangeAt Go.RowKit

end Go.Proofs.YtehjjinlpilelaaGreatDoor
namespace Go.Proofs.YtehjjinlpilelaaGreatDoor
open Go.ChangeShapes Go.WideShapes Go.ChangeAt Go.RowKit

theorem below_alloc1 {w w1 : World} (h : Below w.heap.size w w1) (o : Obj) : Below w.heap.size w (w1.alloc o) := h.alloc h.size o
set_option maxHeartbeats 400000 in
theorem kordinal_any (n : Int) (w : World) :
    Calls Tryz.prog 18 #[.int .i64 n] w fun e w' => e = .returned (.tuple #[.int .i64 (Cal.yG n), .int .i64 (Wk.orN n), .int .i64 (Cal.inE n)]) ∧ Below w.heap.size w w' := by
  by_cases hi : Cal.inB n = true
  · obtain ⟨i1, i2⟩ := Cal.inB_iff.1 hi
    obtain ⟨ho, hd⟩ := Cal.dtG_spec hi
    have hdb := Cal.dayG_bd ho
    have hsy := Cal.ysG_bd ho.1 (show Cal.yG n ≤ 10000 by have := ho.2.1; omega)
    obtain ⟨y1, y2, _⟩ := ho
    have hE : Cal.inE n = 0 := by simp [Cal.inE, hi]
    have hN : Wk.orN n = n - Cal.ysG (Cal.yG n) + 1 := by simp [Wk.orN, hi]
    rw [hE, hN]
    have hEH := Lib.hid hE
    clear hE hN hi hd hdb
    go_enter Tryz.func18, Tryz.ntmps18
    go_wp2_with fail
    refine (cdate_any _ _).mono ?_; rintro e w1 ⟨rfl, hb1⟩
    rw [hEH.out]
    go_wp2_with fail
    go_region_held3 (fun w' => w'.cell? ⟨w1.heap.size, 0, none⟩ = some (.int .i64 (Cal.yG n)))
      (first | go_keep | exact keep1 hb2 (by simp) (by assumption))
      (first | (go_at_call 57; refine (knewyear_any _ _ (by omega) (by omega)).mono ?_; rintro e w2 ⟨rfl, hb2⟩))
    simp (disch := omega) only [IntWalk.i64_in]
    go_wp2_with fail
    go_ret3
    exact ⟨rfl, below_then (below_alloc1 hb1 _) (below_undrew hb2)⟩
  · have hi' : Cal.inB n = false := by simpa using hi
    have hE : Cal.inE n = 2 := by simp [Cal.inE, hi]
    have hN : Wk.orN n = 0 := by simp [Wk.orN, hi]
    obtain ⟨e1, e2, e3⟩ := Cal.dtG_out hi'
    have hEH := Lib.hid hE
    have h1H := Lib.hid e1
    rw [hE, hN, e1]
    clear hE hN hi e1 e2 e3
    go_enter Tryz.func18, Tryz.ntmps18
    go_wp2_with fail
    refine (cdate_any _ _).mono ?_; rintro e w1 ⟨rfl, hb1⟩
    rw [hEH.out]
    go_wp2_with fail
    go_ret3
    exact ⟨rfl, below_alloc1 hb1 _⟩
theorem fo_ways (y n : Int) : (Wk.foB y n = true ∧ 1 ≤ y ∧ y ≤ 9999 ∧ 1 ≤ n ∧ n ≤ 366 ∧ n ≤ Cal.ysG (y + 1) - Cal.ysG y ∧ Wk.foN y n = Cal.ysG y + n - 1 ∧ Wk.foE y n = 0) ∨
    (Wk.foB y n = false ∧ Wk.foN y n = 0 ∧ Wk.foE y n = 2 ∧ (y < 1 ∨ (1 ≤ y ∧ 9999 < y) ∨ (1 ≤ y ∧ y ≤ 9999 ∧ n < 1) ∨ (1 ≤ y ∧ y ≤ 9999 ∧ 1 ≤ n ∧ 366 < n ∧ Cal.ysG (y + 1) - Cal.ysG y < n) ∨ (1 ≤ y ∧ y ≤ 9999 ∧ 1 ≤ n ∧ n ≤ 366 ∧ Cal.ysG (y + 1) - Cal.ysG y < n))) := by
  have hs := Cal.ysG_succ y
  have hl := Cal.lg_01 y
  by_cases h : Wk.foB y n = true
  · have h' := h
    simp only [Wk.foB, Bool.and_eq_true, decide_eq_true_eq] at h'
    obtain ⟨a, b, c⟩ := h'
    have a := Wk.yB_iff.1 a
    exact Or.inl ⟨h, a.1, a.2, b, by omega, c, by simp [Wk.foN, h], by simp [Wk.foE, h]⟩
  · have h' := h
    simp only [Wk.foB, Bool.and_eq_true, decide_eq_true_eq, Wk.yB_iff] at h'
    exact Or.inr ⟨by simpa using h, by simp [Wk.foN, h], by simp [Wk.foE, h], by omega⟩
set_option maxHeartbeats 400000 in
theorem kfrom_any (y n : Int) (w : World) :
    Calls Tryz.prog 19 #[.int .i64 y, .int .i64 n] w fun e w' => e = .returned (.tuple #[.int .i64 (Wk.foN y n), .int .i64 (Wk.foE y n)]) ∧ Below w.heap.size w w' := by
  have hB : ∀ y, Wk.yB y = (decide (1 ≤ y) && decide (y ≤ 9999)) := fun y => by rw [Bool.eq_iff_iff]; simp [Wk.yB]
  rcases fo_ways y n with ⟨_, y1, y2, n1, n2, n3, e1, e2⟩ | ⟨_, e1, e2, q⟩
  · have s1 := Cal.ysG_bd y1 (show y ≤ 10000 by omega)
    have s2 := Cal.ysG_bd (y := y + 1) (by omega) (by omega)
    have hy : Wk.yB y = true := Wk.yB_iff.2 ⟨y1, y2⟩
    rw [e1, e2]; clear e1 e2 hB
    go_enter Tryz.func19, Tryz.ntmps19
    go_wp2_with (first | (go_at_call 58; refine (kiny_any _ _).mono ?_; rintro e w' ⟨rfl, rfl⟩) | (go_at_call 57; refine (knewyear_any _ _ (by omega) (by omega)).mono ?_; rintro e w' ⟨rfl, hbn⟩))
    go_ret2
    exact ⟨rfl, by (repeat (first | exact Below.refl _ _ | assumption | refine below_drewN ?_ _ | refine below_alloc1 ?_ _ | refine below_then ?_ (by assumption)))⟩
  · rw [e1, e2]; clear e1 e2
    rcases q with q | ⟨q, q2⟩ | ⟨q, q2, q3⟩ | ⟨q, q2, q3, q4, q5⟩ | ⟨q, q2, q3, q4, q5⟩
    · have hy : Wk.yB y = false := by rw [hB]; simp; omega
      clear hB
      go_enter Tryz.func19, Tryz.ntmps19
      go_wp2_with (first | (go_at_call 58; refine (kiny_any _ _).mono ?_; rintro e w' ⟨rfl, rfl⟩))
      go_ret2
      exact ⟨rfl, by (repeat (first | exact Below.refl _ _ | assumption | refine below_drewN ?_ _ | refine below_alloc1 ?_ _ | refine below_then ?_ (by assumption)))⟩
    · have hy : Wk.yB y = false := by rw [hB]; simp; omega
      clear hB
      go_enter Tryz.func19, Tryz.ntmps19
      go_wp2_with (first | (go_at_call 58; refine (kiny_any _ _).mono ?_; rintro e w' ⟨rfl, rfl⟩))
      go_ret2
      exact ⟨rfl, by (repeat (first | exact Below.refl _ _ | assumption | refine below_drewN ?_ _ | refine below_alloc1 ?_ _ | refine below_then ?_ (by assumption)))⟩
    all_goals
      have hy : Wk.yB y = true := Wk.yB_iff.2 ⟨by omega, by omega⟩
      have s1 := Cal.ysG_bd (y := y) (by omega) (by omega)
      have s2 := Cal.ysG_bd (y := y + 1) (by omega) (by omega)
      clear hB
      go_enter Tryz.func19, Tryz.ntmps19
      go_wp2_with (first | (go_at_call 58; refine (kiny_any _ _).mono ?_; rintro e w' ⟨rfl, rfl⟩) | (go_at_call 57; refine (knewyear_any _ _ (by omega) (by omega)).mono ?_; rintro e w' ⟨rfl, hbn⟩))
      go_ret2
      exact ⟨rfl, by (repeat (first | exact Below.refl _ _ | assumption | refine below_drewN ?_ _ | refine below_alloc1 ?_ _ | refine below_then ?_ (by assumption)))⟩
end Go.Proofs.YtehjjinlpilelaaGreatDoor
