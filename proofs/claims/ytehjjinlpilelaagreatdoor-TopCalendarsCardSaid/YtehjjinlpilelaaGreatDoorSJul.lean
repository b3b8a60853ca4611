/- Contracts of the functions of package julian: lengths of months, the day of a date, the date of a day. Condition: the table of lengths holds what its initialiser lays. -/
import Derived.Lib.LaidTab
import Derived.WalkSmall
import Derived.Test.YtehjjinlpilelaaGreatDoorMa
import Derived.Test.YtehjjinlpilelaaGreatDoorMb
namespace Go.Proofs.YtehjjinlpilelaaGreatDoor
open Go.ChangeShapes Go.WideShapes Go.ChangeAt Go.RowKit

theorem gTab : Tryz.prog.globalNamed "civiltime/julian.lengths" = some 0 := by kernel_rfl
/-- The table of julian's lengths lies as its initialiser laid it. -/
def Tab (w : World) : Prop := 0 < w.heap.size ∧ Lib.TabIs Tryz.prog w "civiltime/julian.lengths" .i64 [0, 31, 28, 31, 30, 31, 30, 31, 31, 30, 31, 30, 31]
theorem Tab.of {w : World} (h : Lib.TabIs Tryz.prog w "civiltime/julian.lengths" .i64 [0, 31, 28, 31, 30, 31, 30, 31, 31, 30, 31, 30, 31]) : Tab w := by
  refine ⟨?_, h⟩
  have h' : w.var? Tryz.prog "civiltime/julian.lengths" = some _ := h
  unfold World.var? at h'
  simp only [gTab, Option.bind_some] at h'
  split at h'
  · rename_i he
    exact Nat.lt_of_le_of_lt (Nat.zero_le _) (Array.getElem?_eq_some_iff.1 he).1
  · cases h'
theorem Tab.below {w w' : World} {B : Nat} (h : Tab w) (hb : Below B w w') (hB : 0 < B) : Tab w' :=
  ⟨Nat.lt_of_lt_of_le h.1 hb.size, var?_below hb gTab hB h.2⟩
theorem Tab.later {w w' : World} (h : Tab w) (hb : Below w.heap.size w w') : Tab w' := h.below hb h.1
theorem Tab.drewN {w : World} (h : Tab w) (n : Nat) : Tab (w.drewN n) := h.later (below_drewN (Below.refl _ _) n)
theorem Tab.cell {w : World} (h : Tab w) {m : Int} (h1 : 1 ≤ m) (h2 : m ≤ 12) (h3 : m ≠ 2) : w.cell? ⟨0, m.toNat, none⟩ = some (.int .i64 (Cal.lenB m)) := by
  have k : m = 1 ∨ m = 3 ∨ m = 4 ∨ m = 5 ∨ m = 6 ∨ m = 7 ∨ m = 8 ∨ m = 9 ∨ m = 10 ∨ m = 11 ∨ m = 12 := by omega
  rcases k with rfl | rfl | rfl | rfl | rfl | rfl | rfl | rfl | rfl | rfl | rfl <;> exact h.2.cell gTab _ (by decide)

theorem jleap_any (y : Int) (w : World) :
    Calls Tryz.prog 90 #[.int .i64 y] w fun e w' => e = .returned (.bool (Cal.leapJc y)) ∧ w = w' := by
  by_cases h1 : 1 ≤ y
  · by_cases h2 : y ≤ 9999
    · have hl : Cal.leapJc y = (y % 4 == 0) := by simp [Cal.leapJc, h1, h2]; rw [Bool.eq_iff_iff]; simp
      rw [hl]; clear hl
      go_enter Tryz.func90, Tryz.ntmps90
      go_wp2
      go_ret
      exact ⟨rfl, rfl⟩
    · have hl : Cal.leapJc y = false := by simp [Cal.leapJc]; omega
      rw [hl]; clear hl
      go_enter Tryz.func90, Tryz.ntmps90
      go_wp2
      go_ret
      exact ⟨rfl, rfl⟩
  · have hl : Cal.leapJc y = false := by simp [Cal.leapJc]; omega
    rw [hl]; clear hl
    go_enter Tryz.func90, Tryz.ntmps90
    go_wp2
    go_ret
    exact ⟨rfl, rfl⟩


theorem jlength_bad (y m : Int) (w : World) (h : ¬ (1 ≤ y ∧ y ≤ 9999 ∧ 1 ≤ m ∧ m ≤ 12)) :
    Calls Tryz.prog 52 #[.int .i64 y, .int .i64 m] w fun e w' => e = .returned (.int .i64 0) ∧ w = w' := by
  by_cases h1 : 1 ≤ y
  · by_cases h2 : y ≤ 9999
    · by_cases h3 : 1 ≤ m
      · have h4 : ¬ m ≤ 12 := by omega
        clear h
        go_enter Tryz.func52, Tryz.ntmps52
        go_wp2
        go_ret
        exact ⟨rfl, rfl⟩
      · clear h
        go_enter Tryz.func52, Tryz.ntmps52
        go_wp2
        go_ret
        exact ⟨rfl, rfl⟩
    · clear h
      go_enter Tryz.func52, Tryz.ntmps52
      go_wp2
      go_ret
      exact ⟨rfl, rfl⟩
  · clear h
    go_enter Tryz.func52, Tryz.ntmps52
    go_wp2
    go_ret
    exact ⟨rfl, rfl⟩
theorem jlength_any (y m : Int) (w : World) (ht : Tab w) :
    Calls Tryz.prog 52 #[.int .i64 y, .int .i64 m] w fun e w' => e = .returned (.int .i64 (Cal.lenJc y m)) ∧ w = w' := by
  by_cases h : 1 ≤ y ∧ y ≤ 9999 ∧ 1 ≤ m ∧ m ≤ 12
  · have hl : Cal.lenJc y m = Cal.lenJ y m := by unfold Cal.lenJc; rw [if_pos h]
    rw [hl]; clear hl
    obtain ⟨h1, h2, h3, h4⟩ := h
    by_cases h5 : m = 2
    · subst h5
      by_cases h6 : y % 4 = 0
      · have hl : Cal.lenJ y 2 = 29 := by simp [Cal.lenJ, Cal.lj, h6]
        have hb : Cal.leapJc y = true := by simp [Cal.leapJc, *]
        rw [hl]; clear hl
        go_enter Tryz.func52, Tryz.ntmps52
        go_wp2_with (go_at_call 90; refine (jleap_any _ _).mono ?_; rintro e w' ⟨rfl, rfl⟩)
        go_ret
        exact ⟨rfl, rfl⟩
      · have hl : Cal.lenJ y 2 = 28 := by simp [Cal.lenJ, Cal.lj, h6]
        have hb : Cal.leapJc y = false := by simp [Cal.leapJc]; omega
        have hc : w.cell? ⟨0, 2, none⟩ = some (.int .i64 28) := ht.2.cell gTab _ (by decide)
        rw [hl]; clear hl
        go_enter Tryz.func52, Tryz.ntmps52
        go_wp2_with (go_at_call 90; refine (jleap_any _ _).mono ?_; rintro e w' ⟨rfl, rfl⟩)
        go_ret
        exact ⟨rfl, rfl⟩
    · have hl : Cal.lenJ y m = Cal.lenB m := by simp [Cal.lenJ, h5]
      have hc := ht.cell h3 h4 h5
      have h5' : (m == 2) = false := by simpa using h5
      rw [hl]; clear hl h5
      go_enter Tryz.func52, Tryz.ntmps52
      go_wp2
      go_ret
      exact ⟨rfl, rfl⟩
  · have hl : Cal.lenJc y m = 0 := by unfold Cal.lenJc; rw [if_neg h]
    rw [hl]
    exact jlength_bad y m w h

theorem jvalid_any (y m d : Int) (w : World) (ht : Tab w) :
    Calls Tryz.prog 53 #[.agg #[.int .i64 y, .int .i64 m, .int .i64 d]] w fun e w' => e = .returned (.bool (Cal.okJb y m d)) ∧ Below w.heap.size w w' := by
  have hl := Cal.lenJc_bd y m
  rw [Cal.okJb_of]
  by_cases h1 : 1 ≤ d
  · go_enter Tryz.func53, Tryz.ntmps53
    go_wp2_with fail
    go_quiet ((go_at_call 52; exact quiet_same (jlength_any _ _ _ ((ht.later (by go_grown)).drewN _))))
    go_wp2
    go_ret
    exact ⟨by simp [h1], below_drewN (by go_grown) _⟩
  · have hd : decide (1 ≤ d) = false := by simpa using h1
    go_enter Tryz.func53, Tryz.ntmps53
    go_wp2_with fail
    go_quiet ((go_at_call 52; exact quiet_same (jlength_any _ _ _ ((ht.later (by go_grown)).drewN _))))
    go_wp2
    go_ret
    exact ⟨by simp [hd], below_drewN (by go_grown) _⟩
theorem jinside_any (n : Int) (w : World) :
    Calls Tryz.prog 50 #[.int .i64 n] w fun e w' => e = .returned (.bool (Cal.inB n)) ∧ w = w' := by
  have hl : Cal.inB n = (decide (-719162 ≤ n) && decide (n < 2932897)) := by rw [Bool.eq_iff_iff]; simp [Cal.inB]
  rw [hl]; clear hl
  by_cases h1 : -719162 ≤ n
  · go_enter Tryz.func50, Tryz.ntmps50
    go_wp2
    go_ret
    exact ⟨by simp [h1], rfl⟩
  · go_enter Tryz.func50, Tryz.ntmps50
    go_wp2
    go_ret
    exact ⟨by simp; omega, rfl⟩


set_option maxHeartbeats 400000 in
theorem jday_any (y m d : Int) (w : World) (ht : Tab w) :
    Calls Tryz.prog 13 #[.agg #[.int .i64 y, .int .i64 m, .int .i64 d]] w fun e w' => e = .returned (.tuple #[.int .i64 (Cal.dayJn y m d), .int .i64 (Cal.dayJe y m d)]) ∧ Below w.heap.size w w' := by
  by_cases hv : Cal.okJb y m d = true
  · obtain ⟨h1, h2, h3, h4, h5, h6⟩ := Cal.okJb_iff.1 hv
    have hl := Cal.lenJ_bd y m
    have hys := Cal.ysJ_bd h1 (by omega)
    by_cases hi : Cal.inB (Cal.dayJ y m d) = true
    all_goals
      have hn : Cal.dayJn y m d = (if Cal.inB (Cal.dayJ y m d) then Cal.dayJ y m d else 0) := by simp [Cal.dayJn, hv]
      have he : Cal.dayJe y m d = (if Cal.inB (Cal.dayJ y m d) then 0 else 2) := by simp [Cal.dayJe, hv]
      rw [hn, he]; clear hn he
      first | rw [if_pos hi, if_pos hi] | rw [if_neg hi, if_neg hi]
      go_enter Tryz.func13, Tryz.ntmps13
      go_wp2_with (go_at_call 53; refine (jvalid_any _ _ _ _ (ht.later (by go_grown))).mono ?_; rintro e w1 ⟨rfl, hb⟩; obtain ⟨c0, c1, c2⟩ := box3 hb)
      have ht1 : Tab w1 := ht.later (below_box hb)
      go_loop [5, 6] (fun t5 t6 => ∃ k : Int, 1 ≤ k ∧ k ≤ m ∧ t6 = .int .i64 k ∧ t5 = .int .i64 (Cal.dayJ y k d)) (fun _ t6 => (m - intOf t6).toNat)
      case atStart => exact ⟨1, by omega, h3, rfl, by congr 1; simp [Cal.dayJ, Cal.ysJ, Cal.cumJ]; omega⟩
      case round =>
        obtain ⟨k, hk1, hk2, rfl, rfl⟩ := hrel
        have hk3 := Cal.cumJ_bd y hk1 (by omega)
        have hlj := Cal.lj_01 y
        have hk4 := Cal.lenJc_bd y k
        have hk5 : -719164 ≤ Cal.dayJ y k d ∧ Cal.dayJ y k d ≤ 2933400 := by unfold Cal.dayJ; have := Cal.lenJ_bd y k; omega
        by_cases hlt : k < m
        · have hs : Cal.dayJ y k d + Cal.lenJc y k = Cal.dayJ y (k + 1) d := by have := Cal.cumJ_succ' y k hk1 (by omega) h1 h2; unfold Cal.dayJ; omega
          go_wp2_with (go_at_call 52; refine (jlength_any _ _ _ ht1).mono ?_; rintro e w' ⟨rfl, rfl⟩)
          go_round
          case rel => exact ⟨k + 1, by omega, by omega, rfl, rfl⟩
          case measure => simp [intOf]; omega
        · obtain rfl : k = m := by omega
          go_wp2_with (go_at_call 50; refine (jinside_any _ _).mono ?_; rintro e w' ⟨rfl, rfl⟩)
          go_ret2
          exact ⟨rfl, below_box hb⟩
  · have hn : Cal.dayJn y m d = 0 := by simp [Cal.dayJn, hv]
    have he : Cal.dayJe y m d = 1 := by simp [Cal.dayJe, hv]
    rw [hn, he]; clear hn he
    go_enter Tryz.func13, Tryz.ntmps13
    go_wp2_with (go_at_call 53; refine (jvalid_any _ _ _ _ (ht.later (by go_grown))).mono ?_; rintro e w1 ⟨rfl, hb⟩)
    go_ret2
    exact ⟨rfl, below_box hb⟩

theorem jnumber_any (n : Int) (w : World) :
    Calls Tryz.prog 14 #[.int .i64 n] w fun e w' => e = .returned (.tuple #[.int .i64 (Cal.numJ n), .int .i64 (Cal.inE n)]) ∧ w = w' := by
  by_cases hi : Cal.inB n = true
  · have hE : Cal.inE n = 0 := by simp [Cal.inE, hi]
    have hN : Cal.numJ n = n + 2440588 := by simp [Cal.numJ, hi]
    obtain ⟨i1, i2⟩ := Cal.inB_iff.1 hi
    rw [hE, hN]; clear hE hN
    go_enter Tryz.func14, Tryz.ntmps14
    go_wp2_with (go_at_call 50; refine (jinside_any _ _).mono ?_; rintro e w' ⟨rfl, rfl⟩)
    go_ret2
    exact ⟨rfl, rfl⟩
  · have hE : Cal.inE n = 2 := by simp [Cal.inE, hi]
    have hN : Cal.numJ n = 0 := by simp [Cal.numJ, hi]
    have hi' : Cal.inB n = false := by simpa using hi
    rw [hE, hN]; clear hE hN hi
    go_enter Tryz.func14, Tryz.ntmps14
    go_wp2_with (go_at_call 50; refine (jinside_any _ _).mono ?_; rintro e w' ⟨rfl, rfl⟩)
    go_ret2
    exact ⟨rfl, rfl⟩
end Go.Proofs.YtehjjinlpilelaaGreatDoor
