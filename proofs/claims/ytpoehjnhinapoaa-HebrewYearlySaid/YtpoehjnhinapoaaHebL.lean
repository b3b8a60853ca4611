/- The walks of HebrewBack and HebrewNext. No conditions. -/
import Derived.Test.YtpoehjnhinapoaaHebK
namespace Heb
theorem back_day {n : Int} (h : Cal.inB n = true) : dayN (dY n) (dM n) (dA n) = n ∧ dayE (dY n) (dM n) (dA n) = 0 := by
  obtain ⟨a, b⟩ := dt_spec (in_r h)
  have e1 : dY n = yH n := by simp [dY, h]
  have e2 : dM n = mH n := by simp [dM, h]
  have e3 : dA n = aH n := by simp [dA, h]
  have ho : okb (yH n) (mH n) (aH n) = true := okb_iff.2 a
  rw [e1, e2, e3]
  have hd : dayB (yH n) (mH n) (aH n) = true := by simp [dayB, ho, b, h]
  simp [dayN, dayE, hd, b]
theorem back_date {y m d : Int} (h : dayE y m d = 0) : dY (dayN y m d) = y ∧ dM (dayN y m d) = m ∧ dA (dayN y m d) = d ∧ dE (dayN y m d) = 0 := by
  have hd : dayB y m d = true := by
    cases q : dayB y m d
    · simp [dayE, q] at h
    · rfl
  have hd' := hd
  simp only [dayB, Bool.and_eq_true] at hd'
  obtain ⟨ho, hi⟩ := hd'
  obtain ⟨a, b, c⟩ := dt_day (okb_iff.1 ho)
  have e : dayN y m d = day y m d := by simp [dayN, hd]
  rw [e]
  simp [dY, dM, dA, dE, hi, a, b, c]
theorem day_e (y m d : Int) : dayE y m d = 0 ∨ dayE y m d = 2 := by unfold dayE; split <;> simp
theorem dE_in {n : Int} (h : Cal.inB n = true) : dE n = 0 := by simp [dE, h]
theorem dE_out {n : Int} (h : Cal.inB n = false) : dE n = 2 := by simp [dE, h]
/-- the next day -/
theorem next_day {n : Int} (h : Cal.inB n = true) (h2 : Cal.inB (n + 1) = true) :
    ∃ Y M A : Int, dY n = Y ∧ dM n = M ∧ dA n = A ∧ dE n = 0 ∧ dE (n + 1) = 0 ∧ 1 ≤ Y ∧ Y ≤ 20000 ∧ 1 ≤ M ∧ M ≤ 13 ∧ 1 ≤ A ∧ A ≤ 30 ∧ lenc Y M = len Y M ∧
      ((A < len Y M ∧ dY (n + 1) = Y ∧ dM (n + 1) = M ∧ dA (n + 1) = A + 1) ∨ (A = len Y M ∧ dY (n + 1) = folY Y M ∧ dM (n + 1) = folM Y M ∧ dA (n + 1) = 1)) := by
  obtain ⟨a, b⟩ := dt_spec (in_r h)
  have e1 : dY n = yH n := by simp [dY, h]
  have e2 : dM n = mH n := by simp [dM, h]
  have e3 : dA n = aH n := by simp [dA, h]
  have f1 : dY (n + 1) = yH (n + 1) := by simp [dY, h2]
  have f2 : dM (n + 1) = mH (n + 1) := by simp [dM, h2]
  have f3 : dA (n + 1) = aH (n + 1) := by simp [dA, h2]
  rw [f1, f2, f3]
  have hr := in_r h2
  have hlb := len_bd (yH n) (mH n)
  have hmb := mths_bd (yH n)
  have ha := a
  obtain ⟨hy, m1, m2, d1, d2⟩ := a
  obtain ⟨y1, y2⟩ := yB_iff.1 hy
  have hmc : mthc (yH n) = mths (yH n) := by unfold mthc; rw [if_pos hy]
  refine ⟨yH n, mH n, aH n, e1, e2, e3, dE_in h, dE_in h2, y1, y2, m1, by omega, d1, by omega, ?_, ?_⟩
  · unfold lenc; rw [hmc, if_pos ⟨m1, m2⟩]
  · have hday : bg (yH n) + off (yH n) (mH n) + aH n - 1 = n := b
    by_cases q : aH n < len (yH n) (mH n)
    · have hk : ok (yH n) (mH n) (aH n + 1) := ⟨hy, m1, m2, by omega, by omega⟩
      obtain ⟨r1, r2, r3⟩ := dt_eq (n := n + 1) hk (by unfold day; omega)
      exact Or.inl ⟨q, r1.symm, r2.symm, r3.symm⟩
    · have q2 : aH n = len (yH n) (mH n) := by omega
      by_cases q6 : mH n = 6
      · have s6 := six_end y1 (show yH n ≤ 20480 by omega)
        rw [← q6] at s6
        have hst := bg_step (y := yH n)
        have hy' : yH n + 1 ≤ 20000 := by
          have := rB_iff.1 hr
          rcases Int.lt_trichotomy (yH n) 20000 with k | k | k
          · omega
          · rw [k, show (20000 : Int) + 1 = 20001 by rfl, bg_20001] at hst
            rw [k] at hday s6 q2; omega
          · omega
        have hk : ok (yH n + 1) 7 1 := ⟨yB_iff.2 ⟨by omega, hy'⟩, by omega, by have := mths_bd (yH n + 1); omega, by omega, by have := len_bd (yH n + 1) 7; omega⟩
        obtain ⟨r1, r2, r3⟩ := dt_eq (n := n + 1) hk (by unfold day; rw [off_7, hst]; omega)
        exact Or.inr ⟨q2, by unfold folY; rw [if_pos q6]; exact r1.symm, by unfold folM; rw [if_pos q6]; exact r2.symm, r3.symm⟩
      · obtain ⟨o1, o2, o3⟩ := fol_off y1 y2 m1 m2 q6
        have hk : ok (yH n) (folM (yH n) (mH n)) 1 := ⟨hy, o2, o3, by omega, by have := len_bd (yH n) (folM (yH n) (mH n)); omega⟩
        obtain ⟨r1, r2, r3⟩ := dt_eq (n := n + 1) hk (by unfold day; rw [o1]; omega)
        exact Or.inr ⟨q2, by unfold folY; rw [if_neg q6]; exact r1.symm, r2.symm, r3.symm⟩
end Heb
namespace Go.Proofs.Ytpoehjnhinapoaa
open Go.ChangeShapes Go.WideShapes Go.ChangeAt Go.RowKit

set_option maxHeartbeats 2000000 in
theorem hnext_good (n : Int) (w : World) (i1 : -719162 ≤ n) (i2 : n < 2932896) (Y M A Y2 M2 A2 : Int) (e1 : Heb.dY n = Y) (e2 : Heb.dM n = M) (e3 : Heb.dA n = A) (e4 : Heb.dE n = 0)
    (f1 : Heb.dY (n + 1) = Y2) (f2 : Heb.dM (n + 1) = M2) (f3 : Heb.dA (n + 1) = A2) (f4 : Heb.dE (n + 1) = 0) (y1 : 1 ≤ Y) (y2 : Y ≤ 20000) (m1 : 1 ≤ M) (m2 : M ≤ 13) (a1 : 1 ≤ A) (a2 : A ≤ 30)
    (hc : (A < Heb.lenc Y M ∧ Y2 = Y ∧ M2 = M ∧ A2 = A + 1) ∨ (A = Heb.lenc Y M ∧ Y2 = Heb.folY Y M ∧ M2 = Heb.folM Y M ∧ A2 = 1)) :
    Calls Try.prog 11 #[.int .i64 n] w fun e w' => e = .returned (.bool true) ∧ Below w.heap.size w w' := by
  have eH := Lib.hid (And.intro e1 (And.intro e2 (And.intro e3 e4)))
  have fH := Lib.hid (And.intro f1 (And.intro f2 (And.intro f3 f4)))
  clear e1 e2 e3 e4 f1 f2 f3 f4
  rcases hc with ⟨q, rfl, rfl, rfl⟩ | ⟨q, rfl, rfl, rfl⟩
  · go_enter Try.func11, Try.ntmps11
    go_wp2_with fail
    refine (awake_any _).mono ?_; rintro e w1 ⟨rfl, hb1⟩
    go_wp2_with fail
    refine (hDate_any _ _).mono ?_; rintro e w2 ⟨rfl, hb2⟩
    rw [eH.out.1, eH.out.2.1, eH.out.2.2.1, eH.out.2.2.2]
    have hb := below_then hb1 hb2
    clear hb1 hb2
    go_wp2_with fail
    refine (hDate_any _ _).mono ?_; rintro e w3 ⟨rfl, hb3⟩
    rw [fH.out.1, fH.out.2.1, fH.out.2.2.1, fH.out.2.2.2]
    obtain ⟨_, c0, c1, c2, _, _, _⟩ := (Box3.born hb3).alloc (Obj.cells #[.int .i64 Y2, .int .i64 M2, .int .i64 (A + 1)] 23)
    have hb := below_then hb (below_box hb3)
    clear hb3
    go_wp2_with (first | (go_at_call 28; refine (hlength_any _ _ _).mono ?_; rintro e w' ⟨rfl, kd, rfl⟩))
    go_ret
    exact ⟨by simp, by (repeat (first | exact Below.refl _ _ | assumption | refine below_drewN ?_ _ | refine below_alloc1 ?_ _ | refine below_then ?_ (by assumption)))⟩
  · have qH := Lib.hid q
    have q' : (A == Heb.lenc Y M) = true := by simpa using q
    have q2 : decide (A < Heb.lenc Y M) = false := by simp; omega
    clear q
    go_enter Try.func11, Try.ntmps11
    go_wp2_with fail
    refine (awake_any _).mono ?_; rintro e w1 ⟨rfl, hb1⟩
    go_wp2_with fail
    refine (hDate_any _ _).mono ?_; rintro e w2 ⟨rfl, hb2⟩
    rw [eH.out.1, eH.out.2.1, eH.out.2.2.1, eH.out.2.2.2]
    have hb := below_then hb1 hb2
    clear hb1 hb2
    go_wp2_with fail
    refine (hDate_any _ _).mono ?_; rintro e w3 ⟨rfl, hb3⟩
    rw [fH.out.1, fH.out.2.1, fH.out.2.2.1, fH.out.2.2.2]
    obtain ⟨_, c0, c1, c2, _, _, _⟩ := (Box3.born hb3).alloc (Obj.cells #[.int .i64 (Heb.folY Y M), .int .i64 (Heb.folM Y M), .int .i64 1] 23)
    have hb := below_then hb (below_box hb3)
    clear hb3
    go_wp2_with (first | (go_at_call 28; refine (hlength_any _ _ _).mono ?_; rintro e w' ⟨rfl, kd, rfl⟩) | (go_at_call 33; refine (follows_any _ _ _ (by omega) (by omega) (by omega) (by omega)).mono ?_; rintro e w' ⟨rfl, kd, rfl⟩))
    go_ret
    exact ⟨by simp, by (repeat (first | exact Below.refl _ _ | assumption | refine below_drewN ?_ _ | refine below_alloc1 ?_ _ | refine below_then ?_ (by assumption)))⟩
set_option maxHeartbeats 1000000 in
theorem wHebrewNext (n : Int) (w : World) (_h : -9223372036854775808 ≤ n ∧ n ≤ 9223372036854775807) :
    Calls Try.prog 11 #[.int .i64 n] w fun e w' => e = .returned (.bool true) ∧ Below w.heap.size w w' := by
  by_cases q1 : n < -719162
  · go_enter Try.func11, Try.ntmps11
    go_wp2_with (first | (go_at_call 14; refine (awake_any _).mono ?_; rintro e w' ⟨rfl, hb0⟩))
    go_ret
    exact ⟨by simp, by (repeat (first | exact Below.refl _ _ | assumption | refine below_drewN ?_ _ | refine below_alloc1 ?_ _ | refine below_then ?_ (by assumption)))⟩
  · by_cases q2 : 2932896 ≤ n
    · go_enter Try.func11, Try.ntmps11
      go_wp2_with (first | (go_at_call 14; refine (awake_any _).mono ?_; rintro e w' ⟨rfl, hb0⟩))
      go_ret
      exact ⟨by simp, by (repeat (first | exact Below.refl _ _ | assumption | refine below_drewN ?_ _ | refine below_alloc1 ?_ _ | refine below_then ?_ (by assumption)))⟩
    · obtain ⟨Y, M, A, e1, e2, e3, e4, f4, y1, y2, m1, m2, a1, a2, hl, hc⟩ := Heb.next_day (n := n) (Cal.inB_iff.2 (by omega)) (Cal.inB_iff.2 (by omega))
      rw [← hl] at hc
      rcases hc with ⟨q, g1, g2, g3⟩ | ⟨q, g1, g2, g3⟩
      · exact hnext_good n w (by omega) (by omega) Y M A _ _ _ e1 e2 e3 e4 g1 g2 g3 f4 y1 y2 m1 m2 a1 a2 (Or.inl ⟨q, rfl, rfl, rfl⟩)
      · exact hnext_good n w (by omega) (by omega) Y M A _ _ _ e1 e2 e3 e4 g1 g2 g3 f4 y1 y2 m1 m2 a1 a2 (Or.inr ⟨q, rfl, rfl, rfl⟩)
end Go.Proofs.Ytpoehjnhinapoaa
