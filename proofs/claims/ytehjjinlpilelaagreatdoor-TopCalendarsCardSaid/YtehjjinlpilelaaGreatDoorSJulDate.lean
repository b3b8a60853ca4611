/- The contract of julian.Date: the Julian date of any day. Condition: the table of lengths. -/
import Derived.Deep.LoopGhost
import Derived.Deep.RegionWith
import Derived.Test.YtehjjinlpilelaaGreatDoorMb
import Derived.Test.YtehjjinlpilelaaGreatDoorSJul
namespace Go.Proofs.YtehjjinlpilelaaGreatDoor
open Go.ChangeShapes Go.WideShapes Go.ChangeAt Go.RowKit

/-- the search for the month: the date's block holds a year, a month and the days left -/
def DateRel (w : World) (n : Int) (g : Nat) (wr : World) : Prop :=
  ∃ y m a : Int, 1 ≤ y ∧ y ≤ 9999 ∧ n < Cal.ysJ (y + 1) ∧ 1 ≤ m ∧ m ≤ 12 ∧ g = (12 - m).toNat ∧ 1 ≤ a ∧ a ≤ 366 ∧ Cal.dayJ y m a = n ∧ Box3 wr (w.heap.size + 1) (.int .i64 y) (.int .i64 m) (.int .i64 a) ∧ Box3 wr w.heap.size (.int .i64 0) (.int .i64 0) (.int .i64 0) ∧ Below w.heap.size w wr
theorem DateRel.start {w w1 : World} {n y a : Int} {k : Nat} {t : TypeId} (h1 : -719162 ≤ n) (h2 : n < 2932897) (hw : w1 = ((w.alloc (.cells #[.int .i64 0, .int .i64 0, .int .i64 0] t)).drewN k).alloc (.cells #[.int .i64 y, .int .i64 1, .int .i64 a] t))
    (h : ∃ q, y = 4 * ((n + 719165 - 1) / 1461) + q + 1 ∧ a = (n + 719165 - 1) % 1461 - 365 * q + 1 ∧ 0 ≤ q ∧ q ≤ 3 ∧ q ≤ (n + 719165 - 1) % 1461 / 365 ∧ ((n + 719165 - 1) % 1461 / 365 = q ∨ q = 3)) : DateRel w n 11 w1 := by
  obtain ⟨q, rfl, rfl, q0, q3, q1, q2⟩ := h
  subst hw
  refine ⟨4 * ((n + 719165 - 1) / 1461) + q + 1, 1, (n + 719165 - 1) % 1461 - 365 * q + 1, by omega, by omega, ?_, by omega, by omega, rfl, by omega, by omega, ?_, ?_, ?_, (below_drewN ((Below.refl _ _).alloc (Nat.le_refl _) _) _).alloc (by simp) _⟩
  · simp only [Cal.ysJ]; omega
  · simp only [Cal.dayJ, Cal.ysJ, Cal.cumJ]; simp; omega
  · have h := Box3.new ((w.alloc (.cells #[.int .i64 0, .int .i64 0, .int .i64 0] t)).drewN k) (.int .i64 (4 * ((n + 719165 - 1) / 1461) + q + 1)) (.int .i64 1) (.int .i64 ((n + 719165 - 1) % 1461 - 365 * q + 1)) t
    simpa using h
  · exact ((Box3.new w _ _ _ t).drewN k).alloc _
theorem jdate_round {n y m a : Int} (hm : m ≤ 12) (h1 : 1 ≤ m) (hy : 1 ≤ y) (hy' : y ≤ 9999) (hd : Cal.dayJ y m a = n) (hn : n < Cal.ysJ (y + 1)) (hl : Cal.lenJc y m < a) : m < 12 ∧ Cal.dayJ y (m + 1) (a - Cal.lenJc y m) = n := by
  have hc : m < 12 := by
    rcases (show m < 12 ∨ m = 12 by omega) with h | h
    · exact h
    · obtain rfl : m = 12 := h
      rw [Cal.ysJ_succ] at hn
      have e1 : Cal.cumJ y 12 = 334 + Cal.lj y := by simp [Cal.cumJ]
      have e2 : Cal.lenJc y 12 = 31 := by unfold Cal.lenJc; rw [if_pos (by omega)]; simp [Cal.lenJ, Cal.lenB]
      unfold Cal.dayJ at hd; omega
  refine ⟨hc, ?_⟩
  have := Cal.cumJ_succ' y m h1 (by omega) hy hy'
  unfold Cal.dayJ at *; omega

set_option maxHeartbeats 1000000 in
theorem jdate_any (n : Int) (w : World) (ht : Tab w) :
    Calls Tryz.prog 12 #[.int .i64 n] w fun e w' => e = .returned (.tuple #[.agg #[.int .i64 (Cal.yJ n), .int .i64 (Cal.mJ n), .int .i64 (Cal.aJ n)], .int .i64 (Cal.inE n)]) ∧ Below w.heap.size w w' := by
  by_cases hi : Cal.inB n = true
  · have hE : Cal.inE n = 0 := by simp [Cal.inE, hi]
    rw [hE]; clear hE
    obtain ⟨i1, i2⟩ := Cal.inB_iff.1 hi
    go_enter Tryz.func12, Tryz.ntmps12
    go_wp2_with (first | (go_at_call 50; refine (jinside_any _ _).mono ?_; rintro e w' ⟨rfl, rfl⟩) | (go_at_call 51; refine (div_any _ _ _ (by omega) (by omega) (by omega) (by omega)).mono ?_; rintro e w' ⟨rfl, k1, rfl⟩))
    all_goals
      go_loopg [] 11 (fun g wr => DateRel w n g wr)
      case atStart => exact DateRel.start i1 i2 rfl ⟨_, rfl, by omega, by omega, by omega, by omega, by omega⟩
      case round =>
        obtain ⟨y, m, a, h1, h2, h3, h4, h5, h6, h7, h8, h9, hB, hR, hb⟩ := hrel
        have htr := ht.later hb
        have hBH := Lib.hid hB
        have hRH := Lib.hid hR
        have h6H := Lib.hid h6
        have h9H := Lib.hid h9
        clear h6 h9
        obtain ⟨_, b0, b1, b2, f0, f1, f2⟩ := hB
        obtain ⟨_, r0, r1, r2, g0, g1, g2⟩ := hR
        go_wp2_with fail
        go_quiet ((go_at_call 52; exact quiet_same (jlength_any _ _ _ (htr.drewN _))))
        have hl := Cal.lenJc_bd y m
        by_cases hc : Cal.lenJc y m < a
        · have hR2 := Lib.hid (jdate_round h5 h4 h1 h2 h9H.out h3 hc)
          go_wp2_with fail
          go_region_with (go_at_call 52; refine (jlength_any _ _ _ ?_).mono ?_; exact htr.later (by first | exact (below_drewN (Below.refl _ _) _).drew | exact below_drewN (Below.refl _ _) _); rintro e w' ⟨rfl, rfl⟩)
          all_goals
            go_wp2_with fail
            obtain ⟨q1, q2⟩ := hR2.out
            have q3 := h6H.out
            go_roundg (gk - 1)
            case measure => omega
            case rel => exact ⟨y, m + 1, a - Cal.lenJc y m, h1, h2, h3, by omega, by omega, by omega, by omega, by omega, q2, ((hBH.out.drewN _).set2 _).set1 _, ((hRH.out.drewN _).setFar _ _ (by simp)).setFar _ _ (by simp), hb.trans (((below_drewN (Below.refl _ _) _).setCell (by simp) _).setCell (by simp) _)⟩
        · have hlen : Cal.lenJc y m = Cal.lenJ y m := by unfold Cal.lenJc; rw [if_pos (by omega)]
          have hok : Cal.okJ y m a := ⟨h1, h2, h4, h5, h7, by omega⟩
          have hres := Lib.hid (Cal.dtJ_eq hi hok h9H.out)
          clear hok hlen
          go_wp2_with fail
          obtain ⟨e1, e2, e3⟩ := hres.out
          rw [← e1, ← e2, ← e3]
          refine bodyPost_ret (v := .tuple #[.agg #[.int .i64 y, .int .i64 m, .int .i64 a], .int .i64 0]) (by simp [results, Tryz.results12, go_sem, r0, r1, r2]) rfl ⟨rfl, ?_⟩
          exact hb.trans (by go_grown; exact below_drewN (Below.refl _ _) _)
  · have hE : Cal.inE n = 2 := by simp [Cal.inE, hi]
    have hi' : Cal.inB n = false := by simpa using hi
    obtain ⟨e1, e2, e3⟩ := Cal.dtJ_out hi'
    rw [hE, e1, e2, e3]; clear hE e1 e2 e3 hi
    go_enter Tryz.func12, Tryz.ntmps12
    go_wp2_with (go_at_call 50; refine (jinside_any _ _).mono ?_; rintro e w' ⟨rfl, rfl⟩)
    exact bodyPost_ret (v := .tuple #[.agg #[.int .i64 0, .int .i64 0, .int .i64 0], .int .i64 2]) (by simp [results, Tryz.results12, go_sem]) rfl ⟨rfl, by go_grown⟩
end Go.Proofs.YtehjjinlpilelaaGreatDoor
