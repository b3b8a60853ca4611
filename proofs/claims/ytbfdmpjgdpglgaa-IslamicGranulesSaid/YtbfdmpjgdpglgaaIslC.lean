/- Contracts of islamic.New, Day and Date. No conditions. -/
import Derived.Test.YtbfdmpjgdpglgaaIslB
import Derived.Deep.RegionHeld3
import Derived.Deep.RegionWith
namespace Go.Proofs.Ytbfdmpjgdpglgaa
open Go.ChangeShapes Go.WideShapes Go.ChangeAt Go.RowKit

theorem below_undrew {w w' : World} (h : Below w.drew.heap.size w.drew w') : Below w.heap.size w w' := ⟨h.os, h.tape, h.output, h.size, h.block⟩
set_option maxHeartbeats 1000000 in
theorem iday_any (k y m d : Int) (w : World) :
    Calls Try.prog 15 #[.int .i64 k, .agg #[.int .i64 y, .int .i64 m, .int .i64 d]] w fun e w' => e = .returned (.tuple #[.int .i64 (Isl.dayN k y m d), .int .i64 (Isl.dayE k y m d)]) ∧ Below w.heap.size w w' := by
  have hlb := Isl.lenc_bd k y m
  by_cases h1 : 1 ≤ d
  · have hd0 : decide (d < 1) = false := by simp; omega
    by_cases h2 : d ≤ Isl.lenc k y m
    · have ho : Isl.okb k y m d = true := by simp [Isl.okb, h1, h2]
      have hN : Isl.dayN k y m d = Isl.day k y m d := by simp [Isl.dayN, ho]
      have hE : Isl.dayE k y m d = 0 := by simp [Isl.dayE, ho]
      obtain ⟨hk, hy, m1, m2, _, _⟩ := Isl.okb_iff.1 ho
      obtain ⟨y1, y2⟩ := Isl.yB_iff.1 hy
      have hfb := Isl.first_bd hk y1 (by omega)
      have hbb : 0 ≤ Isl.before m ∧ Isl.before m ≤ 355 := by unfold Isl.before; omega
      have hkH := Lib.hid hk
      rw [hN, hE]; clear hN hE ho hk hy
      go_enter Try.func15, Try.ntmps15
      go_wp2_with fail
      go_region_held3 (fun w' => w'.cell? ⟨w.heap.size, 0, none⟩ = some (.int .i64 y) ∧ w'.cell? ⟨w.heap.size, 1, none⟩ = some (.int .i64 m) ∧ w'.cell? ⟨w.heap.size, 2, none⟩ = some (.int .i64 d))
        (first | go_keep | (go_split_ands; exact ⟨keep1 hb1 (by simp) (by assumption), keep1 hb1 (by simp) (by assumption), keep1 hb1 (by simp) (by assumption)⟩))
        (first | (go_at_call 19; refine (ilength_any _ _ _ _).mono ?_; rintro e w1 ⟨rfl, hb1⟩))
      have hlt : w.heap.size < w1.heap.size := Nat.lt_of_lt_of_le (by simp) (below_undrew hb1).size
      have hb := below_box (below_undrew hb1)
      clear hb1
      go_wp2_with fail
      go_region_held3 (fun w' => w'.cell? ⟨w.heap.size, 0, none⟩ = some (.int .i64 y) ∧ w'.cell? ⟨w.heap.size, 1, none⟩ = some (.int .i64 m) ∧ w'.cell? ⟨w.heap.size, 2, none⟩ = some (.int .i64 d))
        (first | go_keep | (go_split_ands; exact ⟨keep1 hb2 hlt (by assumption), keep1 hb2 hlt (by assumption), keep1 hb2 hlt (by assumption)⟩))
        (first | (go_at_call 35; refine (ifirst_any _ _ _ hkH.out (by omega) (by omega)).mono ?_; rintro e w2 ⟨rfl, hb2⟩) | (go_at_call 36; refine (ibefore_any _ _ m1 (by omega)).mono ?_; rintro e w' ⟨rfl, rfl⟩))
      simp (disch := omega) only [IntWalk.i64_in]
      go_wp2_with fail
      go_ret2
      exact ⟨by unfold Isl.day; rfl, below_then hb (below_undrew hb2)⟩
    · have ho : Isl.okb k y m d = false := by simp [Isl.okb, h2]
      have hN : Isl.dayN k y m d = 0 := by simp [Isl.dayN, ho]
      have hE : Isl.dayE k y m d = 1 := by simp [Isl.dayE, ho]
      rw [hN, hE]; clear hN hE ho
      go_enter Try.func15, Try.ntmps15
      go_wp2_with fail
      go_region_held3 (fun w' => w'.cell? ⟨w.heap.size, 0, none⟩ = some (.int .i64 y) ∧ w'.cell? ⟨w.heap.size, 1, none⟩ = some (.int .i64 m) ∧ w'.cell? ⟨w.heap.size, 2, none⟩ = some (.int .i64 d))
        (first | go_keep | (go_split_ands; exact ⟨keep1 hb1 (by simp) (by assumption), keep1 hb1 (by simp) (by assumption), keep1 hb1 (by simp) (by assumption)⟩))
        (first | (go_at_call 19; refine (ilength_any _ _ _ _).mono ?_; rintro e w1 ⟨rfl, hb1⟩))
      go_wp2_with fail
      go_ret2
      exact ⟨rfl, below_box (below_undrew hb1)⟩
  · have ho : Isl.okb k y m d = false := by simp [Isl.okb, h1]
    have hN : Isl.dayN k y m d = 0 := by simp [Isl.dayN, ho]
    have hE : Isl.dayE k y m d = 1 := by simp [Isl.dayE, ho]
    have hd0 : decide (d < 1) = true := by simp; omega
    rw [hN, hE]; clear hN hE ho
    go_enter Try.func15, Try.ntmps15
    go_wp2_with fail
    go_quiet (fail)
    go_wp2
    go_ret2
    exact ⟨rfl, below_drewN (by go_grown) _⟩

theorem inew_any (k y : Int) (w : World) :
    Calls Try.prog 13 #[.int .i64 k, .int .i64 y] w fun e w' => e = .returned (.tuple #[.int .i64 (Isl.newN k y), .int .i64 (Isl.newE k y)]) ∧ Below w.heap.size w w' := by
  by_cases hk : Isl.kB k = true
  · by_cases h1 : 1 ≤ y
    · by_cases h2 : y ≤ 9601
      · have hN : Isl.newN k y = Isl.first k y := by simp [Isl.newN, hk, h1, h2]
        have hE : Isl.newE k y = 0 := by simp [Isl.newE, hk, h1, h2]
        have hkH := Lib.hid hk
        rw [hN, hE]; clear hN hE
        go_enter Try.func13, Try.ntmps13
        go_wp2_with (first | (go_at_call 20; refine (ivalid_any _ _).mono ?_; rintro e w' ⟨rfl, rfl⟩) | (go_at_call 35; refine (ifirst_any _ _ _ hkH.out h1 h2).mono ?_; rintro e w1 ⟨rfl, hb⟩))
        go_ret2
        exact ⟨rfl, hb⟩
      · have hN : Isl.newN k y = 0 := by simp [Isl.newN, h2]
        have hE : Isl.newE k y = 2 := by simp [Isl.newE, hk, h2]
        rw [hN, hE]; clear hN hE
        go_enter Try.func13, Try.ntmps13
        go_wp2_with (first | (go_at_call 20; refine (ivalid_any _ _).mono ?_; rintro e w' ⟨rfl, rfl⟩))
        go_ret2
        exact ⟨rfl, Below.refl _ _⟩
    · have hN : Isl.newN k y = 0 := by simp [Isl.newN, h1]
      have hE : Isl.newE k y = 2 := by simp [Isl.newE, hk, h1]
      rw [hN, hE]; clear hN hE
      go_enter Try.func13, Try.ntmps13
      go_wp2_with (first | (go_at_call 20; refine (ivalid_any _ _).mono ?_; rintro e w' ⟨rfl, rfl⟩))
      go_ret2
      exact ⟨rfl, Below.refl _ _⟩
  · have hN : Isl.newN k y = 0 := by simp [Isl.newN, hk]
    have hE : Isl.newE k y = 1 := by simp [Isl.newE, hk]
    have hk' : Isl.kB k = false := by simpa using hk
    rw [hN, hE]; clear hN hE hk
    go_enter Try.func13, Try.ntmps13
    go_wp2_with (first | (go_at_call 20; refine (ivalid_any _ _).mono ?_; rintro e w' ⟨rfl, rfl⟩))
    go_ret2
    exact ⟨rfl, Below.refl _ _⟩
end Go.Proofs.Ytbfdmpjgdpglgaa
