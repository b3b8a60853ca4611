/- Contracts of the day of a date, of package hebrew and of its reference. No conditions. -/
import Derived.Test.YtpoehjnhinapoaaHebE
import Derived.Deep.RegionHeld3
import Derived.Deep.RegionWith
namespace Go.Proofs.Ytpoehjnhinapoaa
open Go.ChangeShapes Go.WideShapes Go.ChangeAt Go.RowKit

theorem below_undrew {w w' : World} (h : Below w.drew.heap.size w.drew w') : Below w.heap.size w w' := ⟨h.os, h.tape, h.output, h.size, h.block⟩
theorem hvalid_any (y m d : Int) (w : World) :
    Calls Try.prog 39 #[.agg #[.int .i64 y, .int .i64 m, .int .i64 d]] w fun e w' => e = .returned (.bool (Heb.okb y m d)) ∧ Below w.heap.size w w' := by
  have hl := Heb.lenc_bd y m
  have ho : Heb.okb y m d = (decide (1 ≤ d) && decide (d ≤ Heb.lenc y m)) := rfl
  rw [ho]; clear ho
  by_cases h1 : 1 ≤ d
  · go_enter Try.func39, Try.ntmps39
    go_wp2_with fail
    go_quiet ((first | (go_at_call 28; exact Calls.quiet_of (hlength_any _ _ _))))
    go_wp2
    go_ret
    exact ⟨by simp [h1], below_drewN (by go_grown) _⟩
  · have hd : decide (1 ≤ d) = false := by simpa using h1
    go_enter Try.func39, Try.ntmps39
    go_wp2_with fail
    go_quiet ((first | (go_at_call 28; exact Calls.quiet_of (hlength_any _ _ _))))
    go_wp2
    go_ret
    exact ⟨by simp [hd], below_drewN (by go_grown) _⟩
set_option maxHeartbeats 4000000 in
theorem rhvalid_1 (y m d : Int) (w : World) (h0 : Heb.yB y = true) (h2 : 1 ≤ m) (h1 : 1 ≤ d) :
    Calls Try.prog 38 #[.agg #[.int .i64 y, .int .i64 m, .int .i64 d]] w fun e w' => e = .returned (.bool (Heb.okb y m d)) ∧ Below w.heap.size w w' := by
  have hl := Heb.lenc_bd y m
  have ho : Heb.okb y m d = decide (d ≤ Heb.lenc y m) := by simp [Heb.okb, h1]
  rw [ho]; clear ho
  go_enter Try.func38, Try.ntmps38
  go_wp2_with fail
  go_quiet ((first | (go_at_call 25; exact quiet_same (rhyear_any _ _)) | (go_at_call 32; exact quiet_same (rhlength_any _ _ _))))
  go_wp2
  go_ret
  exact ⟨by simp, below_drewN (by go_grown) _⟩
set_option maxHeartbeats 4000000 in
theorem rhvalid_2 (y m d : Int) (w : World) (h0 : Heb.yB y = true) (h2 : 1 ≤ m) (h1 : ¬ 1 ≤ d) :
    Calls Try.prog 38 #[.agg #[.int .i64 y, .int .i64 m, .int .i64 d]] w fun e w' => e = .returned (.bool (Heb.okb y m d)) ∧ Below w.heap.size w w' := by
  have ho : Heb.okb y m d = false := by simp [Heb.okb, h1]
  have hd : decide (1 ≤ d) = false := by simpa using h1
  rw [ho]; clear ho
  go_enter Try.func38, Try.ntmps38
  go_wp2_with fail
  go_quiet ((first | (go_at_call 25; exact quiet_same (rhyear_any _ _)) | (go_at_call 32; exact quiet_same (rhlength_any _ _ _))))
  go_wp2
  go_ret
  exact ⟨by simp, below_drewN (by go_grown) _⟩
set_option maxHeartbeats 4000000 in
theorem rhvalid_3 (y m d : Int) (w : World) (h0 : Heb.yB y = true) (h2 : ¬ 1 ≤ m) :
    Calls Try.prog 38 #[.agg #[.int .i64 y, .int .i64 m, .int .i64 d]] w fun e w' => e = .returned (.bool (Heb.okb y m d)) ∧ Below w.heap.size w w' := by
  have ho : Heb.okb y m d = false := by
    have : Heb.lenc y m = 0 := by unfold Heb.lenc; rw [if_neg (by omega)]
    simp [Heb.okb, this]; omega
  have hd : decide (1 ≤ m) = false := by simpa using h2
  rw [ho]; clear ho
  go_enter Try.func38, Try.ntmps38
  go_wp2_with fail
  go_quiet ((first | (go_at_call 25; exact quiet_same (rhyear_any _ _)) | (go_at_call 32; exact quiet_same (rhlength_any _ _ _))))
  go_wp2
  go_ret
  exact ⟨by simp, below_drewN (by go_grown) _⟩
set_option maxHeartbeats 4000000 in
theorem rhvalid_4 (y m d : Int) (w : World) (hy' : Heb.yB y = false) :
    Calls Try.prog 38 #[.agg #[.int .i64 y, .int .i64 m, .int .i64 d]] w fun e w' => e = .returned (.bool (Heb.okb y m d)) ∧ Below w.heap.size w w' := by
  have ho : Heb.okb y m d = false := by
    have : Heb.lenc y m = 0 := by unfold Heb.lenc Heb.mthc; rw [hy', if_neg (by simp; omega)]
    simp [Heb.okb, this]; omega
  rw [ho]; clear ho
  go_enter Try.func38, Try.ntmps38
  go_wp2_with fail
  go_quiet ((first | (go_at_call 25; exact quiet_same (rhyear_any _ _)) | (go_at_call 32; exact quiet_same (rhlength_any _ _ _))))
  go_wp2
  go_ret
  exact ⟨by simp, below_drewN (by go_grown) _⟩
theorem rhvalid_any (y m d : Int) (w : World) :
    Calls Try.prog 38 #[.agg #[.int .i64 y, .int .i64 m, .int .i64 d]] w fun e w' => e = .returned (.bool (Heb.okb y m d)) ∧ Below w.heap.size w w' := by
  by_cases h0 : Heb.yB y = true
  · by_cases h2 : 1 ≤ m
    · by_cases h1 : 1 ≤ d
      · exact rhvalid_1 y m d w h0 h2 h1
      · exact rhvalid_2 y m d w h0 h2 h1
    · exact rhvalid_3 y m d w h0 h2
  · exact rhvalid_4 y m d w (by simpa using h0)
theorem rhinside_any (n : Int) (w : World) :
    Calls Try.prog 42 #[.int .i64 n] w fun e w' => e = .returned (.bool (Cal.inB n)) ∧ w = w' := by
  have hl : Cal.inB n = (decide (-719162 ≤ n) && decide (n < 2932897)) := by rw [Bool.eq_iff_iff]; simp [Cal.inB]
  rw [hl]; clear hl
  by_cases h1 : -719162 ≤ n
  · go_enter Try.func42, Try.ntmps42
    go_wp2
    go_ret
    exact ⟨by simp [h1], rfl⟩
  · go_enter Try.func42, Try.ntmps42
    go_wp2
    go_ret
    exact ⟨by simp; omega, rfl⟩

set_option maxHeartbeats 1000000 in
theorem hday_any (y m d : Int) (w : World) :
    Calls Try.prog 15 #[.agg #[.int .i64 y, .int .i64 m, .int .i64 d]] w fun e w' => e = .returned (.tuple #[.int .i64 (Heb.dayN y m d), .int .i64 (Heb.dayE y m d)]) ∧ Below w.heap.size w w' := by
  by_cases ho : Heb.okb y m d = true
  · have hk := Heb.okb_iff.1 ho
    have hdi := Heb.day_in hk
    obtain ⟨hy, m1, m2, d1, d2⟩ := hk
    obtain ⟨y1, y2⟩ := Heb.yB_iff.1 hy
    have hlb := Heb.len_bd y m
    have hsz := Heb.bg_size (y := y) (by omega) (by omega)
    have hof := Heb.off_bd (y := y) y1 (by omega) m1 m2
    have hyl := Heb.ylen_bd (y := y) y1 (by omega)
    have hyH := Lib.hid hy
    have hD : Heb.day y m d = Heb.bg y + Heb.off y m + d - 1 := rfl
    clear hy
    have ways : (Heb.dayN y m d = Heb.bg y + Heb.off y m + d - 1 ∧ Heb.dayE y m d = 0 ∧ -719162 ≤ Heb.bg y + Heb.off y m + d - 1 ∧ Heb.bg y + Heb.off y m + d - 1 < 2932897 ∧ Cal.inB (Heb.bg y + Heb.off y m + d - 1) = true) ∨
        (Heb.dayN y m d = 0 ∧ Heb.dayE y m d = 2 ∧ Heb.bg y + Heb.off y m + d - 1 < -719162 ∧ Cal.inB (Heb.bg y + Heb.off y m + d - 1) = false) ∨
        (Heb.dayN y m d = 0 ∧ Heb.dayE y m d = 2 ∧ ¬ Heb.bg y + Heb.off y m + d - 1 < -719162 ∧ 2932897 ≤ Heb.bg y + Heb.off y m + d - 1 ∧ Cal.inB (Heb.bg y + Heb.off y m + d - 1) = false) := by
      rw [← hD]
      by_cases hi : Cal.inB (Heb.day y m d) = true
      · have := Cal.inB_iff.1 hi
        exact Or.inl ⟨by simp [Heb.dayN, Heb.dayB, ho, hi], by simp [Heb.dayE, Heb.dayB, ho, hi], by omega, by omega, hi⟩
      · have h2 : Cal.inB (Heb.day y m d) = false := by simpa using hi
        by_cases q : Heb.day y m d < -719162
        · exact Or.inr (Or.inl ⟨by simp [Heb.dayN, Heb.dayB, hi], by simp [Heb.dayE, Heb.dayB, hi], q, h2⟩)
        · exact Or.inr (Or.inr ⟨by simp [Heb.dayN, Heb.dayB, hi], by simp [Heb.dayE, Heb.dayB, hi], q, by rw [Cal.inB_iff] at hi; omega, h2⟩)
    clear hD hdi
    rcases ways with ⟨eN, eE, i1, i2, hi⟩ | ⟨eN, eE, i1, hi⟩ | ⟨eN, eE, i1, i2, hi⟩
    all_goals
      rw [eN, eE]; clear eN eE
      have hiH := Lib.hid hi
      clear hi
      go_enter Try.func15, Try.ntmps15
      go_wp2_with (first | (go_at_call 39; refine (hvalid_any _ _ _ _).mono ?_; rintro e w' ⟨rfl, hb1⟩; obtain ⟨c0, c1, c2⟩ := box3 hb1))
      have hlt : w.heap.size < w'.heap.size := Nat.lt_of_lt_of_le (by simp) hb1.size
      have hb := below_box hb1
      clear hb1
      go_region_held3 (fun w' => w'.cell? ⟨w.heap.size, 0, none⟩ = some (.int .i64 y) ∧ w'.cell? ⟨w.heap.size, 1, none⟩ = some (.int .i64 m) ∧ w'.cell? ⟨w.heap.size, 2, none⟩ = some (.int .i64 d))
        (first | go_keep | (go_split_ands; exact ⟨keep1 hb2 hlt (by assumption), keep1 hb2 hlt (by assumption), keep1 hb2 hlt (by assumption)⟩))
        (first | (go_at_call 40; refine (hfirst_any _ _ _ hyH.out m1 m2).mono ?_; rintro e w2 ⟨rfl, hb2⟩))
      simp (disch := omega) only [IntWalk.i64_in]
      have hi := hiH.out
      go_wp2_with fail
      go_ret2
      exact ⟨rfl, below_then hb (below_undrew hb2)⟩
  · have hN : Heb.dayN y m d = 0 := by simp [Heb.dayN, Heb.dayB, ho]
    have hE : Heb.dayE y m d = 2 := by simp [Heb.dayE, Heb.dayB, ho]
    have ho' : Heb.okb y m d = false := by simpa using ho
    rw [hN, hE]; clear hN hE ho
    go_enter Try.func15, Try.ntmps15
    go_wp2_with (first | (go_at_call 39; refine (hvalid_any _ _ _ _).mono ?_; rintro e w' ⟨rfl, hb1⟩; obtain ⟨c0, c1, c2⟩ := box3 hb1))
    go_ret2
    exact ⟨rfl, below_box hb1⟩

set_option maxHeartbeats 1000000 in
theorem rhday_any (y m d : Int) (w : World) :
    Calls Try.prog 16 #[.agg #[.int .i64 y, .int .i64 m, .int .i64 d]] w fun e w' => e = .returned (.tuple #[.int .i64 (Heb.dayN y m d), .int .i64 (Heb.dayE y m d)]) ∧ Below w.heap.size w w' := by
  by_cases ho : Heb.okb y m d = true
  · have hk := Heb.okb_iff.1 ho
    have hdi := Heb.day_in hk
    obtain ⟨hy, m1, m2, d1, d2⟩ := hk
    obtain ⟨y1, y2⟩ := Heb.yB_iff.1 hy
    have hlb := Heb.len_bd y m
    have hsz := Heb.bg_size (y := y) (by omega) (by omega)
    have hof := Heb.off_bd (y := y) y1 (by omega) m1 m2
    have hyl := Heb.ylen_bd (y := y) y1 (by omega)
    have hyH := Lib.hid hy
    have hD : Heb.day y m d = Heb.bg y + Heb.off y m + d - 1 := rfl
    clear hy
    have ways : (Heb.dayN y m d = Heb.bg y + Heb.off y m + d - 1 ∧ Heb.dayE y m d = 0 ∧ -719162 ≤ Heb.bg y + Heb.off y m + d - 1 ∧ Heb.bg y + Heb.off y m + d - 1 < 2932897 ∧ Cal.inB (Heb.bg y + Heb.off y m + d - 1) = true) ∨
        (Heb.dayN y m d = 0 ∧ Heb.dayE y m d = 2 ∧ Heb.bg y + Heb.off y m + d - 1 < -719162 ∧ Cal.inB (Heb.bg y + Heb.off y m + d - 1) = false) ∨
        (Heb.dayN y m d = 0 ∧ Heb.dayE y m d = 2 ∧ ¬ Heb.bg y + Heb.off y m + d - 1 < -719162 ∧ 2932897 ≤ Heb.bg y + Heb.off y m + d - 1 ∧ Cal.inB (Heb.bg y + Heb.off y m + d - 1) = false) := by
      rw [← hD]
      by_cases hi : Cal.inB (Heb.day y m d) = true
      · have := Cal.inB_iff.1 hi
        exact Or.inl ⟨by simp [Heb.dayN, Heb.dayB, ho, hi], by simp [Heb.dayE, Heb.dayB, ho, hi], by omega, by omega, hi⟩
      · have h2 : Cal.inB (Heb.day y m d) = false := by simpa using hi
        by_cases q : Heb.day y m d < -719162
        · exact Or.inr (Or.inl ⟨by simp [Heb.dayN, Heb.dayB, hi], by simp [Heb.dayE, Heb.dayB, hi], q, h2⟩)
        · exact Or.inr (Or.inr ⟨by simp [Heb.dayN, Heb.dayB, hi], by simp [Heb.dayE, Heb.dayB, hi], q, by rw [Cal.inB_iff] at hi; omega, h2⟩)
    clear hD hdi
    rcases ways with ⟨eN, eE, i1, i2, hi⟩ | ⟨eN, eE, i1, hi⟩ | ⟨eN, eE, i1, i2, hi⟩
    all_goals
      rw [eN, eE]; clear eN eE
      have hiH := Lib.hid hi
      clear hi
      go_enter Try.func16, Try.ntmps16
      go_wp2_with (first | (go_at_call 38; refine (rhvalid_any _ _ _ _).mono ?_; rintro e w' ⟨rfl, hb1⟩; obtain ⟨c0, c1, c2⟩ := box3 hb1))
      have hlt : w.heap.size < w'.heap.size := Nat.lt_of_lt_of_le (by simp) hb1.size
      have hb := below_box hb1
      clear hb1
      go_region_held3 (fun w' => w'.cell? ⟨w.heap.size, 0, none⟩ = some (.int .i64 y) ∧ w'.cell? ⟨w.heap.size, 1, none⟩ = some (.int .i64 m) ∧ w'.cell? ⟨w.heap.size, 2, none⟩ = some (.int .i64 d))
        (first | go_keep | (go_split_ands; exact ⟨keep1 hb2 hlt (by assumption), keep1 hb2 hlt (by assumption), keep1 hb2 hlt (by assumption)⟩))
        (first | (go_at_call 41; refine (rhfirst_any _ _ _ hyH.out m1 m2).mono ?_; rintro e w2 ⟨rfl, hb2⟩))
      simp (disch := omega) only [IntWalk.i64_in]
      have hi := hiH.out
      go_wp2_with (first | (go_at_call 42; refine (rhinside_any _ _).mono ?_; rintro e w' ⟨rfl, rfl⟩))
      go_ret2
      exact ⟨rfl, below_then hb (below_undrew hb2)⟩
  · have hN : Heb.dayN y m d = 0 := by simp [Heb.dayN, Heb.dayB, ho]
    have hE : Heb.dayE y m d = 2 := by simp [Heb.dayE, Heb.dayB, ho]
    have ho' : Heb.okb y m d = false := by simpa using ho
    rw [hN, hE]; clear hN hE ho
    go_enter Try.func16, Try.ntmps16
    go_wp2_with (first | (go_at_call 38; refine (rhvalid_any _ _ _ _).mono ?_; rintro e w' ⟨rfl, hb1⟩; obtain ⟨c0, c1, c2⟩ := box3 hb1))
    go_ret2
    exact ⟨rfl, below_box hb1⟩
end Go.Proofs.Ytpoehjnhinapoaa
