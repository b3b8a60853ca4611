/- The walk of IslamicBack, where the next day lies in the calendar. No conditions. -/
import Derived.Test.YtbfdmpjgdpglgaaLaws6C
namespace Go.Proofs.Ytbfdmpjgdpglgaa
open Go.ChangeShapes Go.WideShapes Go.ChangeAt Go.RowKit

set_option maxHeartbeats 1000000 in
theorem iback_one (k y m d n : Int) (w : World) (_hk : -9223372036854775808 ≤ k ∧ k ≤ 9223372036854775807) (_hy : -9223372036854775808 ≤ y ∧ y ≤ 9223372036854775807) (_hm : -9223372036854775808 ≤ m ∧ m ≤ 9223372036854775807) (_hd : -9223372036854775808 ≤ d ∧ d ≤ 9223372036854775807) (_hn : -9223372036854775808 ≤ n ∧ n ≤ 9223372036854775807) (hk : Isl.kB k = true) (hr : Isl.rB k n = true) (q0 : Isl.rB k (n + 1) = true) (q : Isl.aI k n < Isl.lenc k (Isl.yI k n) (Isl.mI k n)) (e1 : Isl.yI k (n + 1) = Isl.yI k n) (e2 : Isl.mI k (n + 1) = Isl.mI k n) (e3 : Isl.aI k (n + 1) = Isl.aI k n + 1) :
    Calls Try.prog 4 #[.int .i64 k, .agg #[.int .i64 y, .int .i64 m, .int .i64 d], .int .i64 n] w fun e w' => e = .returned (.bool true) ∧ Below w.heap.size w w' := by
  have hE : Isl.dtE k n = 0 := by simp [Isl.dtE, hk, hr]
  obtain ⟨j1, j2⟩ := Isl.back hk hr
  obtain ⟨r1, r2⟩ := Isl.rB_iff.1 hr
  have h96 := Isl.first_9601 hk
  have hok := (Isl.dt_spec hk hr).1
  have ha0 : decide (Isl.aI k n < 1) = false := by simp; exact hok.2.2.2.2.1
  have hal : Isl.aI k n ≤ Isl.lenc k (Isl.yI k n) (Isl.mI k n) := by rw [Isl.lenc_eq hok]; exact hok.2.2.2.2.2
  have hlb := Isl.lenc_bd k (Isl.yI k n) (Isl.mI k n)
  have hmb : 1 ≤ Isl.mI k n ∧ Isl.mI k n ≤ 12 := ⟨hok.2.2.1, hok.2.2.2.1⟩
  have hyb := Isl.yB_iff.1 hok.2.1
  have ha1 := hok.2.2.2.2.1
  have hn2 : n < 2909772 := by omega
  clear hok h96
  have hE1 : Isl.dtE k (n + 1) = 0 := by simp [Isl.dtE, hk, q0]
  have eH := Lib.hid (And.intro e1 (And.intro e2 e3))
  clear hk hr q0 r2 e1 e2 e3
  by_cases ho : Isl.okb k y m d = true
  · obtain ⟨p1, p2, p3, p4, p5⟩ := Isl.forth ho
    clear ho
    go_enter Try.func4, Try.ntmps4
    go_wp2_with fail
    refine (awake_any _).mono ?_; rintro e w1 ⟨rfl, hb1⟩
    have hD := Lib.hid (Box3.born hb1)
    have hb := below_box hb1
    obtain ⟨_, c0, c1, c2, _, _, _⟩ := hD.out
    clear hb1
    go_wp2_with fail
    refine (iday_any _ _ _ _ _).mono ?_; rintro e w2 ⟨rfl, hb2⟩
    have hD2 := Lib.hid (hD.out.later hb2)
    have hb := below_then hb hb2
    clear hb2 hD c0 c1 c2
    go_wp2_with fail
    refine (idate_any _ _ _).mono ?_; rintro e w3 ⟨rfl, hb3⟩
    rw [p2, p3, p4, p5]
    obtain ⟨l3, c0, c1, c2, _, _, _⟩ := hD2.out.later hb3
    have hb := below_then hb hb3
    clear hb3
    go_wp2_with fail
    refine (idate_any _ _ _).mono ?_; rintro e w4 ⟨rfl, hb4⟩
    have hb := below_then hb (below_box hb4)
    clear hb4 c0 c1 c2 l3 hD2
    rw [hE]
    go_wp2_with fail
    refine (iday_any _ _ _ _ _).mono ?_; rintro e w5 ⟨rfl, hb5⟩
    rw [j1, j2]
    have hX := Lib.hid (Box3.born hb5)
    have hb := below_then hb (below_box hb5)
    obtain ⟨l5, x0, x1, x2, _, _, _⟩ := hX.out
    clear hb5
    go_wp2_with fail
    go_region_held3 (fun w' => w'.cell? ⟨w4.heap.size, 0, none⟩ = some (.int .i64 (Isl.yI k n)) ∧ w'.cell? ⟨w4.heap.size, 1, none⟩ = some (.int .i64 (Isl.mI k n)) ∧ w'.cell? ⟨w4.heap.size, 2, none⟩ = some (.int .i64 (Isl.aI k n)))
      (first | go_keep | (go_split_ands; exact ⟨keep1 hb6 l5 (by assumption), keep1 hb6 l5 (by assumption), keep1 hb6 l5 (by assumption)⟩))
      (first | (go_at_call 19; refine (ilength_any _ _ _ _).mono ?_; rintro e w6 ⟨rfl, hb6⟩))
    have hX6 := Lib.hid (hX.out.later (below_undrew hb6))
    have hb := below_then hb (below_undrew hb6)
    clear hb6 hX l5 x0 x1 x2
    go_wp2_with fail
    refine (idate_any _ _ _).mono ?_; rintro e w7 ⟨rfl, hb7⟩
    have hX7 := Lib.hid (hX6.out.later hb7)
    have hb := below_then hb hb7
    clear hb7 hX6
    obtain ⟨l7, x0, x1, x2, _, _, _⟩ := hX7.out
    rw [hE1, eH.out.1, eH.out.2.1, eH.out.2.2]
    clear eH j1 j2 ha0
    go_wp2_with fail
    go_region_held3 (fun w' => w'.cell? ⟨w4.heap.size, 0, none⟩ = some (.int .i64 (Isl.yI k n)) ∧ w'.cell? ⟨w4.heap.size, 1, none⟩ = some (.int .i64 (Isl.mI k n)) ∧ w'.cell? ⟨w7.heap.size + 1, 2, none⟩ = some (.int .i64 (Isl.aI k n + 1)))
      (first | go_keep | (go_split_ands; exact ⟨keep1 hb8 (by simp; omega) (by assumption), keep1 hb8 (by simp; omega) (by assumption), keep1 hb8 (by simp) (by assumption)⟩))
      (first | (go_at_call 19; refine (ilength_any _ _ _ _).mono ?_; rintro e w8 ⟨rfl, hb8⟩))
    have hb8 := below_undrew hb8
    have hW := Box3.born hb8
    have hBx := (Box3.new w7 (.int .i64 (Isl.yI k n)) (.int .i64 (Isl.mI k n)) (.int .i64 (Isl.aI k n + 1)) 23).later (below_box hb8)
    have hX8 := hX7.out.later (below_box (below_box hb8))
    have hs := hb.size
    have hb := below_then hb (below_box (below_box hb8))
    obtain ⟨l8, x0, x1, x2, _, _, _⟩ := hX8
    obtain ⟨lb, y0, y1, y2, _, _, _⟩ := hBx
    obtain ⟨lw, u0, u1, u2, g0, g1, g2⟩ := (show Box3 w8 (w7.heap.size + 1) (.int .i64 (Isl.yI k n)) (.int .i64 (Isl.mI k n)) (.int .i64 (Isl.aI k n + 1)) by simpa using hW)
    clear hW hb8 l7
    go_wp2_with fail
    go_ret
    exact ⟨by simp, hb⟩
  · have p1 : Isl.dayE k y m d = 1 := by simp [Isl.dayE, ho]
    clear ho
    go_enter Try.func4, Try.ntmps4
    go_wp2_with fail
    refine (awake_any _).mono ?_; rintro e w1 ⟨rfl, hb1⟩
    have hD := Lib.hid (Box3.born hb1)
    have hb := below_box hb1
    obtain ⟨_, c0, c1, c2, _, _, _⟩ := hD.out
    clear hb1
    go_wp2_with fail
    refine (iday_any _ _ _ _ _).mono ?_; rintro e w2 ⟨rfl, hb2⟩
    have hD2 := Lib.hid (hD.out.later hb2)
    have hb := below_then hb hb2
    clear hb2 hD c0 c1 c2
    go_wp2_with fail
    refine (idate_any _ _ _).mono ?_; rintro e w4 ⟨rfl, hb4⟩
    have hb := below_then hb hb4
    clear hb4 hD2
    rw [hE]
    go_wp2_with fail
    refine (iday_any _ _ _ _ _).mono ?_; rintro e w5 ⟨rfl, hb5⟩
    rw [j1, j2]
    have hX := Lib.hid (Box3.born hb5)
    have hb := below_then hb (below_box hb5)
    obtain ⟨l5, x0, x1, x2, _, _, _⟩ := hX.out
    clear hb5
    go_wp2_with fail
    go_region_held3 (fun w' => w'.cell? ⟨w4.heap.size, 0, none⟩ = some (.int .i64 (Isl.yI k n)) ∧ w'.cell? ⟨w4.heap.size, 1, none⟩ = some (.int .i64 (Isl.mI k n)) ∧ w'.cell? ⟨w4.heap.size, 2, none⟩ = some (.int .i64 (Isl.aI k n)))
      (first | go_keep | (go_split_ands; exact ⟨keep1 hb6 l5 (by assumption), keep1 hb6 l5 (by assumption), keep1 hb6 l5 (by assumption)⟩))
      (first | (go_at_call 19; refine (ilength_any _ _ _ _).mono ?_; rintro e w6 ⟨rfl, hb6⟩))
    have hX6 := Lib.hid (hX.out.later (below_undrew hb6))
    have hb := below_then hb (below_undrew hb6)
    clear hb6 hX l5 x0 x1 x2
    go_wp2_with fail
    refine (idate_any _ _ _).mono ?_; rintro e w7 ⟨rfl, hb7⟩
    have hX7 := Lib.hid (hX6.out.later hb7)
    have hb := below_then hb hb7
    clear hb7 hX6
    obtain ⟨l7, x0, x1, x2, _, _, _⟩ := hX7.out
    rw [hE1, eH.out.1, eH.out.2.1, eH.out.2.2]
    clear eH j1 j2 ha0
    go_wp2_with fail
    go_region_held3 (fun w' => w'.cell? ⟨w4.heap.size, 0, none⟩ = some (.int .i64 (Isl.yI k n)) ∧ w'.cell? ⟨w4.heap.size, 1, none⟩ = some (.int .i64 (Isl.mI k n)) ∧ w'.cell? ⟨w7.heap.size + 1, 2, none⟩ = some (.int .i64 (Isl.aI k n + 1)))
      (first | go_keep | (go_split_ands; exact ⟨keep1 hb8 (by simp; omega) (by assumption), keep1 hb8 (by simp; omega) (by assumption), keep1 hb8 (by simp) (by assumption)⟩))
      (first | (go_at_call 19; refine (ilength_any _ _ _ _).mono ?_; rintro e w8 ⟨rfl, hb8⟩))
    have hb8 := below_undrew hb8
    have hW := Box3.born hb8
    have hBx := (Box3.new w7 (.int .i64 (Isl.yI k n)) (.int .i64 (Isl.mI k n)) (.int .i64 (Isl.aI k n + 1)) 23).later (below_box hb8)
    have hX8 := hX7.out.later (below_box (below_box hb8))
    have hs := hb.size
    have hb := below_then hb (below_box (below_box hb8))
    obtain ⟨l8, x0, x1, x2, _, _, _⟩ := hX8
    obtain ⟨lb, y0, y1, y2, _, _, _⟩ := hBx
    obtain ⟨lw, u0, u1, u2, g0, g1, g2⟩ := (show Box3 w8 (w7.heap.size + 1) (.int .i64 (Isl.yI k n)) (.int .i64 (Isl.mI k n)) (.int .i64 (Isl.aI k n + 1)) by simpa using hW)
    clear hW hb8 l7
    go_wp2_with fail
    go_ret
    exact ⟨by simp, hb⟩
set_option maxHeartbeats 1000000 in
theorem iback_two (k y m d n : Int) (w : World) (_hk : -9223372036854775808 ≤ k ∧ k ≤ 9223372036854775807) (_hy : -9223372036854775808 ≤ y ∧ y ≤ 9223372036854775807) (_hm : -9223372036854775808 ≤ m ∧ m ≤ 9223372036854775807) (_hd : -9223372036854775808 ≤ d ∧ d ≤ 9223372036854775807) (_hn : -9223372036854775808 ≤ n ∧ n ≤ 9223372036854775807) (hk : Isl.kB k = true) (hr : Isl.rB k n = true) (q0 : Isl.rB k (n + 1) = true) (q : Isl.lenc k (Isl.yI k n) (Isl.mI k n) ≤ Isl.aI k n) (qm : Isl.mI k n < 12) (e1 : Isl.yI k (n + 1) = Isl.yI k n) (e2 : Isl.mI k (n + 1) = Isl.mI k n + 1) (e3 : Isl.aI k (n + 1) = 1) :
    Calls Try.prog 4 #[.int .i64 k, .agg #[.int .i64 y, .int .i64 m, .int .i64 d], .int .i64 n] w fun e w' => e = .returned (.bool true) ∧ Below w.heap.size w w' := by
  have hE : Isl.dtE k n = 0 := by simp [Isl.dtE, hk, hr]
  obtain ⟨j1, j2⟩ := Isl.back hk hr
  obtain ⟨r1, r2⟩ := Isl.rB_iff.1 hr
  have h96 := Isl.first_9601 hk
  have hok := (Isl.dt_spec hk hr).1
  have ha0 : decide (Isl.aI k n < 1) = false := by simp; exact hok.2.2.2.2.1
  have hal : Isl.aI k n ≤ Isl.lenc k (Isl.yI k n) (Isl.mI k n) := by rw [Isl.lenc_eq hok]; exact hok.2.2.2.2.2
  have hlb := Isl.lenc_bd k (Isl.yI k n) (Isl.mI k n)
  have hmb : 1 ≤ Isl.mI k n ∧ Isl.mI k n ≤ 12 := ⟨hok.2.2.1, hok.2.2.2.1⟩
  have hyb := Isl.yB_iff.1 hok.2.1
  have ha1 := hok.2.2.2.2.1
  have hn2 : n < 2909772 := by omega
  clear hok h96
  have hE1 : Isl.dtE k (n + 1) = 0 := by simp [Isl.dtE, hk, q0]
  have eH := Lib.hid (And.intro e1 (And.intro e2 e3))
  clear hk hr q0 r2 e1 e2 e3
  by_cases ho : Isl.okb k y m d = true
  · obtain ⟨p1, p2, p3, p4, p5⟩ := Isl.forth ho
    clear ho
    go_enter Try.func4, Try.ntmps4
    go_wp2_with fail
    refine (awake_any _).mono ?_; rintro e w1 ⟨rfl, hb1⟩
    have hD := Lib.hid (Box3.born hb1)
    have hb := below_box hb1
    obtain ⟨_, c0, c1, c2, _, _, _⟩ := hD.out
    clear hb1
    go_wp2_with fail
    refine (iday_any _ _ _ _ _).mono ?_; rintro e w2 ⟨rfl, hb2⟩
    have hD2 := Lib.hid (hD.out.later hb2)
    have hb := below_then hb hb2
    clear hb2 hD c0 c1 c2
    go_wp2_with fail
    refine (idate_any _ _ _).mono ?_; rintro e w3 ⟨rfl, hb3⟩
    rw [p2, p3, p4, p5]
    obtain ⟨l3, c0, c1, c2, _, _, _⟩ := hD2.out.later hb3
    have hb := below_then hb hb3
    clear hb3
    go_wp2_with fail
    refine (idate_any _ _ _).mono ?_; rintro e w4 ⟨rfl, hb4⟩
    have hb := below_then hb (below_box hb4)
    clear hb4 c0 c1 c2 l3 hD2
    rw [hE]
    go_wp2_with fail
    refine (iday_any _ _ _ _ _).mono ?_; rintro e w5 ⟨rfl, hb5⟩
    rw [j1, j2]
    have hX := Lib.hid (Box3.born hb5)
    have hb := below_then hb (below_box hb5)
    obtain ⟨l5, x0, x1, x2, _, _, _⟩ := hX.out
    clear hb5
    go_wp2_with fail
    go_region_held3 (fun w' => w'.cell? ⟨w4.heap.size, 0, none⟩ = some (.int .i64 (Isl.yI k n)) ∧ w'.cell? ⟨w4.heap.size, 1, none⟩ = some (.int .i64 (Isl.mI k n)) ∧ w'.cell? ⟨w4.heap.size, 2, none⟩ = some (.int .i64 (Isl.aI k n)))
      (first | go_keep | (go_split_ands; exact ⟨keep1 hb6 l5 (by assumption), keep1 hb6 l5 (by assumption), keep1 hb6 l5 (by assumption)⟩))
      (first | (go_at_call 19; refine (ilength_any _ _ _ _).mono ?_; rintro e w6 ⟨rfl, hb6⟩))
    have hX6 := Lib.hid (hX.out.later (below_undrew hb6))
    have hb := below_then hb (below_undrew hb6)
    clear hb6 hX l5 x0 x1 x2
    go_wp2_with fail
    refine (idate_any _ _ _).mono ?_; rintro e w7 ⟨rfl, hb7⟩
    have hX7 := Lib.hid (hX6.out.later hb7)
    have hb := below_then hb hb7
    clear hb7 hX6
    obtain ⟨l7, x0, x1, x2, _, _, _⟩ := hX7.out
    rw [hE1, eH.out.1, eH.out.2.1, eH.out.2.2]
    clear eH j1 j2 ha0
    go_wp2_with fail
    go_region_held3 (fun w' => w'.cell? ⟨w4.heap.size, 0, none⟩ = some (.int .i64 (Isl.yI k n)) ∧ w'.cell? ⟨w4.heap.size, 1, none⟩ = some (.int .i64 (Isl.mI k n)) ∧ w'.cell? ⟨w7.heap.size + 1, 2, none⟩ = some (.int .i64 (Isl.aI k n + 1)))
      (first | go_keep | (go_split_ands; exact ⟨keep1 hb8 (by simp; omega) (by assumption), keep1 hb8 (by simp; omega) (by assumption), keep1 hb8 (by simp) (by assumption)⟩))
      (first | (go_at_call 19; refine (ilength_any _ _ _ _).mono ?_; rintro e w8 ⟨rfl, hb8⟩))
    have hb8 := below_undrew hb8
    have hW := Box3.born hb8
    have hBx := (Box3.new w7 (.int .i64 (Isl.yI k n)) (.int .i64 (Isl.mI k n + 1)) (.int .i64 1) 23).later (below_box hb8)
    have hX8 := hX7.out.later (below_box (below_box hb8))
    have hs := hb.size
    have hb := below_then hb (below_box (below_box hb8))
    obtain ⟨l8, x0, x1, x2, _, _, _⟩ := hX8
    obtain ⟨lb, y0, y1, y2, _, _, _⟩ := hBx
    obtain ⟨lw, u0, u1, u2, g0, g1, g2⟩ := (show Box3 w8 (w7.heap.size + 1) (.int .i64 (Isl.yI k n)) (.int .i64 (Isl.mI k n)) (.int .i64 (Isl.aI k n + 1)) by simpa using hW)
    clear hW hb8 l7
    go_wp2_with fail
    go_region
    all_goals
      go_wp2
      go_ret
      refine ⟨by simp, ?_⟩
      repeat (first | exact hb | (refine Below.setCell ?_ (by show w.heap.size ≤ w7.heap.size + 1; omega) _) | (refine Below.drew ?_))
  · have p1 : Isl.dayE k y m d = 1 := by simp [Isl.dayE, ho]
    clear ho
    go_enter Try.func4, Try.ntmps4
    go_wp2_with fail
    refine (awake_any _).mono ?_; rintro e w1 ⟨rfl, hb1⟩
    have hD := Lib.hid (Box3.born hb1)
    have hb := below_box hb1
    obtain ⟨_, c0, c1, c2, _, _, _⟩ := hD.out
    clear hb1
    go_wp2_with fail
    refine (iday_any _ _ _ _ _).mono ?_; rintro e w2 ⟨rfl, hb2⟩
    have hD2 := Lib.hid (hD.out.later hb2)
    have hb := below_then hb hb2
    clear hb2 hD c0 c1 c2
    go_wp2_with fail
    refine (idate_any _ _ _).mono ?_; rintro e w4 ⟨rfl, hb4⟩
    have hb := below_then hb hb4
    clear hb4 hD2
    rw [hE]
    go_wp2_with fail
    refine (iday_any _ _ _ _ _).mono ?_; rintro e w5 ⟨rfl, hb5⟩
    rw [j1, j2]
    have hX := Lib.hid (Box3.born hb5)
    have hb := below_then hb (below_box hb5)
    obtain ⟨l5, x0, x1, x2, _, _, _⟩ := hX.out
    clear hb5
    go_wp2_with fail
    go_region_held3 (fun w' => w'.cell? ⟨w4.heap.size, 0, none⟩ = some (.int .i64 (Isl.yI k n)) ∧ w'.cell? ⟨w4.heap.size, 1, none⟩ = some (.int .i64 (Isl.mI k n)) ∧ w'.cell? ⟨w4.heap.size, 2, none⟩ = some (.int .i64 (Isl.aI k n)))
      (first | go_keep | (go_split_ands; exact ⟨keep1 hb6 l5 (by assumption), keep1 hb6 l5 (by assumption), keep1 hb6 l5 (by assumption)⟩))
      (first | (go_at_call 19; refine (ilength_any _ _ _ _).mono ?_; rintro e w6 ⟨rfl, hb6⟩))
    have hX6 := Lib.hid (hX.out.later (below_undrew hb6))
    have hb := below_then hb (below_undrew hb6)
    clear hb6 hX l5 x0 x1 x2
    go_wp2_with fail
    refine (idate_any _ _ _).mono ?_; rintro e w7 ⟨rfl, hb7⟩
    have hX7 := Lib.hid (hX6.out.later hb7)
    have hb := below_then hb hb7
    clear hb7 hX6
    obtain ⟨l7, x0, x1, x2, _, _, _⟩ := hX7.out
    rw [hE1, eH.out.1, eH.out.2.1, eH.out.2.2]
    clear eH j1 j2 ha0
    go_wp2_with fail
    go_region_held3 (fun w' => w'.cell? ⟨w4.heap.size, 0, none⟩ = some (.int .i64 (Isl.yI k n)) ∧ w'.cell? ⟨w4.heap.size, 1, none⟩ = some (.int .i64 (Isl.mI k n)) ∧ w'.cell? ⟨w7.heap.size + 1, 2, none⟩ = some (.int .i64 (Isl.aI k n + 1)))
      (first | go_keep | (go_split_ands; exact ⟨keep1 hb8 (by simp; omega) (by assumption), keep1 hb8 (by simp; omega) (by assumption), keep1 hb8 (by simp) (by assumption)⟩))
      (first | (go_at_call 19; refine (ilength_any _ _ _ _).mono ?_; rintro e w8 ⟨rfl, hb8⟩))
    have hb8 := below_undrew hb8
    have hW := Box3.born hb8
    have hBx := (Box3.new w7 (.int .i64 (Isl.yI k n)) (.int .i64 (Isl.mI k n + 1)) (.int .i64 1) 23).later (below_box hb8)
    have hX8 := hX7.out.later (below_box (below_box hb8))
    have hs := hb.size
    have hb := below_then hb (below_box (below_box hb8))
    obtain ⟨l8, x0, x1, x2, _, _, _⟩ := hX8
    obtain ⟨lb, y0, y1, y2, _, _, _⟩ := hBx
    obtain ⟨lw, u0, u1, u2, g0, g1, g2⟩ := (show Box3 w8 (w7.heap.size + 1) (.int .i64 (Isl.yI k n)) (.int .i64 (Isl.mI k n)) (.int .i64 (Isl.aI k n + 1)) by simpa using hW)
    clear hW hb8 l7
    go_wp2_with fail
    go_region
    all_goals
      go_wp2
      go_ret
      refine ⟨by simp, ?_⟩
      repeat (first | exact hb | (refine Below.setCell ?_ (by show w.heap.size ≤ w7.heap.size + 1; omega) _) | (refine Below.drew ?_))
end Go.Proofs.Ytbfdmpjgdpglgaa
