/- The walk of IslamicBack. No conditions. -/
import Derived.Test.YtbfdmpjgdpglgaaLaws6A
import Derived.RegionTactic
import Derived.BigRegion
namespace Isl
theorem back {k n : Int} (hk : kB k = true) (h : rB k n = true) : dayN k (yI k n) (mI k n) (aI k n) = n ∧ dayE k (yI k n) (mI k n) (aI k n) = 0 := by
  obtain ⟨ho, hd⟩ := dt_spec hk h
  have hb := okb_iff.2 ho
  exact ⟨by simp [dayN, hb, hd], by simp [dayE, hb]⟩
theorem forth {k y m d : Int} (h : okb k y m d = true) : dayE k y m d = 0 ∧ yI k (dayN k y m d) = y ∧ mI k (dayN k y m d) = m ∧ aI k (dayN k y m d) = d ∧ dtE k (dayN k y m d) = 0 := by
  have ho := okb_iff.1 h
  have hr := day_in ho
  have hN : dayN k y m d = day k y m d := by simp [dayN, h]
  obtain ⟨e1, e2, e3⟩ := dt_eq hr ho rfl
  rw [hN]
  exact ⟨by simp [dayE, h], e1.symm, e2.symm, e3.symm, by simp [dtE, ho.1, hr]⟩
theorem lenc_eq {k y m d : Int} (h : ok k y m d) : lenc k y m = len k y m := by
  obtain ⟨h1, h2, h3, h4, _, _⟩ := h; unfold lenc; rw [if_pos ⟨h1, h2, h3, h4⟩]
/-- the next day, or the end -/
theorem next {k n : Int} (hk : kB k = true) (h : rB k n = true) :
    (rB k (n + 1) = false ∧ yI k n = 9600 ∧ mI k n = 12 ∧ aI k n = lenc k 9600 12) ∨
    (rB k (n + 1) = true ∧ aI k n < lenc k (yI k n) (mI k n) ∧ yI k (n + 1) = yI k n ∧ mI k (n + 1) = mI k n ∧ aI k (n + 1) = aI k n + 1) ∨
    (rB k (n + 1) = true ∧ lenc k (yI k n) (mI k n) ≤ aI k n ∧ mI k n < 12 ∧ yI k (n + 1) = yI k n ∧ mI k (n + 1) = mI k n + 1 ∧ aI k (n + 1) = 1) ∨
    (rB k (n + 1) = true ∧ lenc k (yI k n) (mI k n) ≤ aI k n ∧ mI k n = 12 ∧ yI k (n + 1) = yI k n + 1 ∧ mI k (n + 1) = 1 ∧ aI k (n + 1) = 1) := by
  obtain ⟨ho, hd⟩ := dt_spec hk h
  obtain ⟨r1, r2⟩ := rB_iff.1 h
  rw [lenc_eq ho]
  have hy := yB_iff.1 ho.2.1
  by_cases h' : rB k (n + 1) = true
  · refine Or.inr ?_
    obtain ⟨_, hyb, h3, h4, h5, h6⟩ := ho
    generalize yI k n = y at *; generalize mI k n = m at *; generalize aI k n = a at *
    by_cases q : a < len k y m
    · obtain ⟨e1, e2, e3⟩ := dt_eq h' (show ok k y m (a + 1) from ⟨hk, hyb, h3, h4, by omega, by omega⟩) (by unfold day at *; omega)
      exact Or.inl ⟨h', q, e1.symm, e2.symm, e3.symm⟩
    · refine Or.inr ?_
      by_cases q2 : m < 12
      · have hl := len_bd k y (m + 1)
        have hc := before_succ k y h3 (by omega)
        obtain ⟨e1, e2, e3⟩ := dt_eq h' (show ok k y (m + 1) 1 from ⟨hk, hyb, by omega, by omega, by omega, by omega⟩) (by unfold day at *; omega)
        exact Or.inl ⟨h', by omega, q2, e1.symm, e2.symm, e3.symm⟩
      · obtain rfl : m = 12 := by omega
        have hl := len_bd k (y + 1) 1
        have e2 := before_12 k y
        have e4 := first_succ hk y
        have hd' : day k (y + 1) 1 1 = n + 1 := by unfold day before at *; omega
        have hyy : yB (y + 1) = true := by
          refine yB_iff.2 ⟨by omega, ?_⟩
          rcases (show y + 1 ≤ 9600 ∨ y = 9600 by omega) with q | q
          · exact q
          · subst q
            have r3 := (rB_iff.1 h').2
            have : day k (9600 + 1) 1 1 = first k 9601 := by unfold day before; simp
            omega
        obtain ⟨e1, e2, e3⟩ := dt_eq h' (show ok k (y + 1) 1 1 from ⟨hk, hyy, by omega, by omega, by omega, by omega⟩) hd'
        exact Or.inr ⟨h', by omega, rfl, e1.symm, e2.symm, e3.symm⟩
  · refine Or.inl ⟨by simpa using h', ?_⟩
    have hn : n + 1 = first k 9601 := by rw [rB_iff] at h'; omega
    have ho9 : ok k 9600 12 (len k 9600 12) := ⟨hk, by decide, by omega, by omega, by have := len_bd k 9600 12; omega, by omega⟩
    have hd9 : day k 9600 12 (len k 9600 12) = n := by
      have e2 := before_12 k 9600
      have e4 := first_succ hk 9600
      rw [show (9600 : Int) + 1 = 9601 from rfl] at e4
      unfold day; omega
    obtain ⟨e1, e2, e3⟩ := dt_eq h ho9 hd9
    rw [lenc_eq ho9]
    exact ⟨e1.symm, e2.symm, e3.symm⟩
end Isl
namespace Go.Proofs.Ytbfdmpjgdpglgaa
open Go.ChangeShapes Go.WideShapes Go.ChangeAt Go.RowKit

set_option maxHeartbeats 1000000 in
theorem iback_bad (k y m d n : Int) (w : World) (_hk : -9223372036854775808 ≤ k ∧ k ≤ 9223372036854775807) (_hy : -9223372036854775808 ≤ y ∧ y ≤ 9223372036854775807) (_hm : -9223372036854775808 ≤ m ∧ m ≤ 9223372036854775807) (_hd : -9223372036854775808 ≤ d ∧ d ≤ 9223372036854775807) (_hn : -9223372036854775808 ≤ n ∧ n ≤ 9223372036854775807) (z0 : Isl.dtE k n = 1 ∨ Isl.dtE k n = 2) (z1 : Isl.yI k n = 0) (z2 : Isl.mI k n = 0) (z3 : Isl.aI k n = 0) :
    Calls Try.prog 4 #[.int .i64 k, .agg #[.int .i64 y, .int .i64 m, .int .i64 d], .int .i64 n] w fun e w' => e = .returned (.bool true) ∧ Below w.heap.size w w' := by
  have hz : (Isl.dtE k n == 0) = false := by rcases z0 with q | q <;> rw [q] <;> rfl
  have hz' : (Isl.dtE k n != 0) = true := by rcases z0 with q | q <;> rw [q] <;> rfl
  clear z0
  by_cases ho : Isl.okb k y m d = true
  · obtain ⟨p1, p2, p3, p4, p5⟩ := Isl.forth ho
    clear ho
    go_enter Try.func4, Try.ntmps4
    go_wp2_with fail
    refine (awake_any _).mono ?_; rintro e w1 ⟨rfl, hb1⟩
    have hD := Lib.hid (Box3.born hb1)
    have hb := below_box hb1
    obtain ⟨_, c0, c1, c2, _, _, _⟩ := hD.out
    clear hb1
    go_wp2_with fail
    refine (iday_any _ _ _ _ _).mono ?_; rintro e w2 ⟨rfl, hb2⟩
    have hD2 := Lib.hid (hD.out.later hb2)
    have hb := below_then hb hb2
    clear hb2 hD c0 c1 c2
    go_wp2_with fail
    refine (idate_any _ _ _).mono ?_; rintro e w3 ⟨rfl, hb3⟩
    rw [p2, p3, p4, p5]
    obtain ⟨l3, c0, c1, c2, _, _, _⟩ := hD2.out.later hb3
    have hb := below_then hb hb3
    clear hb3
    go_wp2_with fail
    refine (idate_any _ _ _).mono ?_; rintro e w4 ⟨rfl, hb4⟩
    have hb := below_then hb (below_box hb4)
    clear hb4 c0 c1 c2 l3 hD2
    rw [z1, z2, z3]
    go_wp2
    go_ret
    exact ⟨by simp, hb.alloc hb.size _⟩
  · have p1 : Isl.dayE k y m d = 1 := by simp [Isl.dayE, ho]
    clear ho
    go_enter Try.func4, Try.ntmps4
    go_wp2_with fail
    refine (awake_any _).mono ?_; rintro e w1 ⟨rfl, hb1⟩
    have hD := Lib.hid (Box3.born hb1)
    have hb := below_box hb1
    obtain ⟨_, c0, c1, c2, _, _, _⟩ := hD.out
    clear hb1
    go_wp2_with fail
    refine (iday_any _ _ _ _ _).mono ?_; rintro e w2 ⟨rfl, hb2⟩
    have hD2 := Lib.hid (hD.out.later hb2)
    have hb := below_then hb hb2
    clear hb2 hD c0 c1 c2
    go_wp2_with fail
    refine (idate_any _ _ _).mono ?_; rintro e w4 ⟨rfl, hb4⟩
    have hb := below_then hb hb4
    clear hb4 hD2
    rw [z1, z2, z3]
    go_wp2
    go_ret
    exact ⟨by simp, hb.alloc hb.size _⟩
set_option maxHeartbeats 1000000 in
theorem iback_end (k y m d n : Int) (w : World) (_hk : -9223372036854775808 ≤ k ∧ k ≤ 9223372036854775807) (_hy : -9223372036854775808 ≤ y ∧ y ≤ 9223372036854775807) (_hm : -9223372036854775808 ≤ m ∧ m ≤ 9223372036854775807) (_hd : -9223372036854775808 ≤ d ∧ d ≤ 9223372036854775807) (_hn : -9223372036854775808 ≤ n ∧ n ≤ 9223372036854775807) (hk : Isl.kB k = true) (hr : Isl.rB k n = true) (q0 : Isl.rB k (n + 1) = false) (q1 : Isl.yI k n = 9600) (q2 : Isl.mI k n = 12) (q3 : Isl.aI k n = Isl.lenc k 9600 12) :
    Calls Try.prog 4 #[.int .i64 k, .agg #[.int .i64 y, .int .i64 m, .int .i64 d], .int .i64 n] w fun e w' => e = .returned (.bool true) ∧ Below w.heap.size w w' := by
  have hE : Isl.dtE k n = 0 := by simp [Isl.dtE, hk, hr]
  obtain ⟨j1, j2⟩ := Isl.back hk hr
  obtain ⟨r1, r2⟩ := Isl.rB_iff.1 hr
  have h96 := Isl.first_9601 hk
  have hok := (Isl.dt_spec hk hr).1
  have ha0 : decide (Isl.aI k n < 1) = false := by simp; exact hok.2.2.2.2.1
  have hal : Isl.aI k n ≤ Isl.lenc k (Isl.yI k n) (Isl.mI k n) := by rw [Isl.lenc_eq hok]; exact hok.2.2.2.2.2
  have hlb := Isl.lenc_bd k (Isl.yI k n) (Isl.mI k n)
  have hmb : 1 ≤ Isl.mI k n ∧ Isl.mI k n ≤ 12 := ⟨hok.2.2.1, hok.2.2.2.1⟩
  have hyb := Isl.yB_iff.1 hok.2.1
  have ha1 := hok.2.2.2.2.1
  have hn2 : n < 2909772 := by omega
  clear hok h96
  have hE1 : Isl.dtE k (n + 1) = 2 := by simp [Isl.dtE, hk, q0]
  have qH := Lib.hid (And.intro q1 (And.intro q2 q3))
  clear hk hr q0 r2 q1 q2 q3
  by_cases ho : Isl.okb k y m d = true
  · obtain ⟨p1, p2, p3, p4, p5⟩ := Isl.forth ho
    clear ho
    go_enter Try.func4, Try.ntmps4
    go_wp2_with fail
    refine (awake_any _).mono ?_; rintro e w1 ⟨rfl, hb1⟩
    have hD := Lib.hid (Box3.born hb1)
    have hb := below_box hb1
    obtain ⟨_, c0, c1, c2, _, _, _⟩ := hD.out
    clear hb1
    go_wp2_with fail
    refine (iday_any _ _ _ _ _).mono ?_; rintro e w2 ⟨rfl, hb2⟩
    have hD2 := Lib.hid (hD.out.later hb2)
    have hb := below_then hb hb2
    clear hb2 hD c0 c1 c2
    go_wp2_with fail
    refine (idate_any _ _ _).mono ?_; rintro e w3 ⟨rfl, hb3⟩
    rw [p2, p3, p4, p5]
    obtain ⟨l3, c0, c1, c2, _, _, _⟩ := hD2.out.later hb3
    have hb := below_then hb hb3
    clear hb3
    go_wp2_with fail
    refine (idate_any _ _ _).mono ?_; rintro e w4 ⟨rfl, hb4⟩
    have hb := below_then hb (below_box hb4)
    clear hb4 c0 c1 c2 l3 hD2
    rw [hE]
    go_wp2_with fail
    refine (iday_any _ _ _ _ _).mono ?_; rintro e w5 ⟨rfl, hb5⟩
    rw [j1, j2]
    have hX := Lib.hid (Box3.born hb5)
    have hb := below_then hb (below_box hb5)
    obtain ⟨l5, x0, x1, x2, _, _, _⟩ := hX.out
    clear hb5
    go_wp2_with fail
    go_region_held3 (fun w' => w'.cell? ⟨w4.heap.size, 0, none⟩ = some (.int .i64 (Isl.yI k n)) ∧ w'.cell? ⟨w4.heap.size, 1, none⟩ = some (.int .i64 (Isl.mI k n)) ∧ w'.cell? ⟨w4.heap.size, 2, none⟩ = some (.int .i64 (Isl.aI k n)))
      (first | go_keep | (go_split_ands; exact ⟨keep1 hb6 l5 (by assumption), keep1 hb6 l5 (by assumption), keep1 hb6 l5 (by assumption)⟩))
      (first | (go_at_call 19; refine (ilength_any _ _ _ _).mono ?_; rintro e w6 ⟨rfl, hb6⟩))
    have hX6 := Lib.hid (hX.out.later (below_undrew hb6))
    have hb := below_then hb (below_undrew hb6)
    clear hb6 hX l5 x0 x1 x2
    go_wp2_with fail
    refine (idate_any _ _ _).mono ?_; rintro e w7 ⟨rfl, hb7⟩
    have hX7 := Lib.hid (hX6.out.later hb7)
    have hb := below_then hb hb7
    clear hb7 hX6
    obtain ⟨l7, x0, x1, x2, _, _, _⟩ := hX7.out
    rw [hE1]
    obtain ⟨q1, q2, q3⟩ := qH.out
    rw [q1] at x0
    rw [q2] at x1
    rw [q3] at x2
    clear qH q1 q2 q3 j1 j2 ha0 hal hlb hmb hyb ha1
    have hlt7 : w4.heap.size < (w7.alloc (.cells #[.int .i64 (Isl.yI k (n + 1)), .int .i64 (Isl.mI k (n + 1)), .int .i64 (Isl.aI k (n + 1))] 23)).heap.size := by simp; omega
    go_wp2_with fail
    go_region_held3 (fun w' => w'.cell? ⟨w4.heap.size, 0, none⟩ = some (.int .i64 9600) ∧ w'.cell? ⟨w4.heap.size, 1, none⟩ = some (.int .i64 12) ∧ w'.cell? ⟨w4.heap.size, 2, none⟩ = some (.int .i64 (Isl.lenc k 9600 12)))
      (first | go_keep | (go_split_ands; exact ⟨keep1 hb8 (by simp; omega) (by assumption), keep1 hb8 (by simp; omega) (by assumption), keep1 hb8 (by simp; omega) (by assumption)⟩))
      (first | (go_at_call 19; refine (ilength_any _ _ _ _).mono ?_; rintro e w8 ⟨rfl, hb8⟩))
    go_wp2_with fail
    go_ret
    exact ⟨by simp, below_then hb (below_box (below_undrew hb8))⟩
  · have p1 : Isl.dayE k y m d = 1 := by simp [Isl.dayE, ho]
    clear ho
    go_enter Try.func4, Try.ntmps4
    go_wp2_with fail
    refine (awake_any _).mono ?_; rintro e w1 ⟨rfl, hb1⟩
    have hD := Lib.hid (Box3.born hb1)
    have hb := below_box hb1
    obtain ⟨_, c0, c1, c2, _, _, _⟩ := hD.out
    clear hb1
    go_wp2_with fail
    refine (iday_any _ _ _ _ _).mono ?_; rintro e w2 ⟨rfl, hb2⟩
    have hD2 := Lib.hid (hD.out.later hb2)
    have hb := below_then hb hb2
    clear hb2 hD c0 c1 c2
    go_wp2_with fail
    refine (idate_any _ _ _).mono ?_; rintro e w4 ⟨rfl, hb4⟩
    have hb := below_then hb hb4
    clear hb4 hD2
    rw [hE]
    go_wp2_with fail
    refine (iday_any _ _ _ _ _).mono ?_; rintro e w5 ⟨rfl, hb5⟩
    rw [j1, j2]
    have hX := Lib.hid (Box3.born hb5)
    have hb := below_then hb (below_box hb5)
    obtain ⟨l5, x0, x1, x2, _, _, _⟩ := hX.out
    clear hb5
    go_wp2_with fail
    go_region_held3 (fun w' => w'.cell? ⟨w4.heap.size, 0, none⟩ = some (.int .i64 (Isl.yI k n)) ∧ w'.cell? ⟨w4.heap.size, 1, none⟩ = some (.int .i64 (Isl.mI k n)) ∧ w'.cell? ⟨w4.heap.size, 2, none⟩ = some (.int .i64 (Isl.aI k n)))
      (first | go_keep | (go_split_ands; exact ⟨keep1 hb6 l5 (by assumption), keep1 hb6 l5 (by assumption), keep1 hb6 l5 (by assumption)⟩))
      (first | (go_at_call 19; refine (ilength_any _ _ _ _).mono ?_; rintro e w6 ⟨rfl, hb6⟩))
    have hX6 := Lib.hid (hX.out.later (below_undrew hb6))
    have hb := below_then hb (below_undrew hb6)
    clear hb6 hX l5 x0 x1 x2
    go_wp2_with fail
    refine (idate_any _ _ _).mono ?_; rintro e w7 ⟨rfl, hb7⟩
    have hX7 := Lib.hid (hX6.out.later hb7)
    have hb := below_then hb hb7
    clear hb7 hX6
    obtain ⟨l7, x0, x1, x2, _, _, _⟩ := hX7.out
    rw [hE1]
    obtain ⟨q1, q2, q3⟩ := qH.out
    rw [q1] at x0
    rw [q2] at x1
    rw [q3] at x2
    clear qH q1 q2 q3 j1 j2 ha0 hal hlb hmb hyb ha1
    have hlt7 : w4.heap.size < (w7.alloc (.cells #[.int .i64 (Isl.yI k (n + 1)), .int .i64 (Isl.mI k (n + 1)), .int .i64 (Isl.aI k (n + 1))] 23)).heap.size := by simp; omega
    go_wp2_with fail
    go_region_held3 (fun w' => w'.cell? ⟨w4.heap.size, 0, none⟩ = some (.int .i64 9600) ∧ w'.cell? ⟨w4.heap.size, 1, none⟩ = some (.int .i64 12) ∧ w'.cell? ⟨w4.heap.size, 2, none⟩ = some (.int .i64 (Isl.lenc k 9600 12)))
      (first | go_keep | (go_split_ands; exact ⟨keep1 hb8 (by simp; omega) (by assumption), keep1 hb8 (by simp; omega) (by assumption), keep1 hb8 (by simp; omega) (by assumption)⟩))
      (first | (go_at_call 19; refine (ilength_any _ _ _ _).mono ?_; rintro e w8 ⟨rfl, hb8⟩))
    go_wp2_with fail
    go_ret
    exact ⟨by simp, below_then hb (below_box (below_undrew hb8))⟩
end Go.Proofs.Ytbfdmpjgdpglgaa
