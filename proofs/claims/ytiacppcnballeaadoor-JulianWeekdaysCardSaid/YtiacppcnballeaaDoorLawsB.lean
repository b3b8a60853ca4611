/- The walks of JulianCycles and JulianWeekdays. Condition: the table of lengths. -/
import Derived.Test.YtiacppcnballeaaDoorLawsA
namespace Go.Proofs.YtiacppcnballeaaDoor
open Go.ChangeShapes Go.WideShapes Go.ChangeAt Go.RowKit

/-- A cell that was stored into ahead of a call holds what was stored, behind it. -/
theorem stored3 {w w3 : World} {a : Addr} {u v : Value} (hb : Below (w.setCell a v).heap.size (w.setCell a v) w3) (h : w.cell? a = some u) (ha : a.block < w.heap.size) : w3.cell? a = some v := by
  rw [hb.cell (by simpa using ha)]; exact World.cell?_setCell_same _ _ _ h
set_option maxHeartbeats 1000000 in
theorem wJulianCycles (y m d : Int) (w : World) (_hy : -9223372036854775808 ≤ y ∧ y ≤ 9223372036854775807) (_hm : -9223372036854775808 ≤ m ∧ m ≤ 9223372036854775807) (_hd : -9223372036854775808 ≤ d ∧ d ≤ 9223372036854775807) (ht : Tab w) :
    Calls Tryd.prog 4 #[.agg #[.int .i64 y, .int .i64 m, .int .i64 d]] w fun e w' => e = .returned (.bool true) ∧ Below w.heap.size w w' := by
  by_cases hv : Cal.okJb y m d = true ∧ Cal.inB (Cal.dayJ y m d) = true
  · obtain ⟨hv, hi⟩ := hv
    have hn : Cal.dayJn y m d = Cal.dayJ y m d := by simp [Cal.dayJn, hv, hi]
    have he : Cal.dayJe y m d = 0 := by simp [Cal.dayJe, hv, hi]
    obtain ⟨i1, i2⟩ := Cal.inB_iff.1 hi
    have hw := Lib.hid (Cal.day_4 hv)
    obtain ⟨h1, h2, h3, h4, h5, h6⟩ := Cal.okJb_iff.1 hv
    clear hv hi h3 h4 h5 h6
    go_enter Tryd.func4, Tryd.ntmps4
    go_wp2_with (first | (go_at_call 12; refine (awake_any _ (ht.later (by go_grown))).mono ?_; rintro e w1 ⟨rfl, hb1⟩; obtain ⟨c0, c1, c2⟩ := box3 hb1; have ht1 := ht.later (below_box hb1)) | (go_at_call 13; refine (jday_any _ _ _ _ ht1).mono ?_; rintro e w2 ⟨rfl, hb2⟩; have hb2 := below_then hb1 hb2; obtain ⟨c3, c4, c5⟩ := box3 hb2; obtain ⟨f3, f4, f5⟩ := box3f hb2; have ht2 := ht.later (below_box hb2)))
    clear c0 c1 c2
    go_loop [5, 6] (fun t5 t6 => ∃ k : Int, 1 ≤ k ∧ k ≤ 13 ∧ t6 = .int .i64 k ∧ t5 = .int .i64 (Cal.cumJ y k)) (fun _ t6 => (13 - intOf t6).toNat)
    case atStart => exact ⟨1, by omega, by omega, rfl, val_int (by simp [Cal.cumJ])⟩
    case round =>
      obtain ⟨k, hk1, hk2, rfl, rfl⟩ := hrel
      by_cases hlt : k ≤ 12
      · have hk3 := Cal.cumJ_bd y hk1 hlt
        have hlj := Cal.lj_01 y
        have hk4 := Cal.lenJc_bd y k
        have hk5 := Cal.lenJ_bd y k
        have hs := Cal.cumJ_all y k hk1 hlt h1 h2
        go_wp2_with (go_at_call 17; refine (jlength_any _ _ _ ht2).mono ?_; rintro e w' ⟨rfl, rfl⟩)
        go_round
        case rel => exact ⟨k + 1, by omega, by omega, rfl, rfl⟩
        case measure => simp [intOf]; omega
      · obtain rfl : k = 13 := by omega
        rw [Cal.cumJ_13]
        have hs : (Cal.lj y = 1 ∧ Cal.leapJc y = true) ∨ (Cal.lj y = 0 ∧ Cal.leapJc y = false) := by
          unfold Cal.lj Cal.leapJc; split <;> simp <;> omega
        rcases hs with ⟨hl, hp⟩ | ⟨hl, hp⟩
        all_goals
          rcases hw.out with ⟨q1, q2⟩ | q2 | ⟨q2, q3⟩
          all_goals
            go_wp2_with (first | (go_at_call 15; refine (jleap_any _ _).mono ?_; rintro e w' ⟨rfl, rfl⟩) | (go_at_call 13; refine (jday_any _ _ _ _ (ht2.below (B := w.heap.size) (by go_grown) ht.1)).mono ?_; rintro e w3 ⟨rfl, hb3⟩; have c6 := stored3 hb3 c3 (Nat.lt_of_lt_of_le (by simp) hb2.size)))
            go_ret
            exact ⟨by simp, (below_box hb2).trans ((show Below w.heap.size w2 _ by go_grown).trans (hb3.mono (by have := (below_box hb2).size; simpa using this)))⟩
  · have he : Cal.dayJe y m d = 1 ∨ Cal.dayJe y m d = 2 := by
      unfold Cal.dayJe; split <;> (try split) <;> simp_all
    rcases he with he | he
    all_goals
      clear hv
      go_enter Tryd.func4, Tryd.ntmps4
      go_wp2_with (first | (go_at_call 12; refine (awake_any _ (ht.later (by go_grown))).mono ?_; rintro e w1 ⟨rfl, hb1⟩; obtain ⟨c0, c1, c2⟩ := box3 hb1; have ht1 := ht.later (below_box hb1)) | (go_at_call 13; refine (jday_any _ _ _ _ ht1).mono ?_; rintro e w2 ⟨rfl, hb2⟩; have hb2 := below_then hb1 hb2))
      go_ret
      exact ⟨rfl, below_box hb2⟩

theorem wJulianWeekdays (n : Int) (w : World) (_hn : -9223372036854775808 ≤ n ∧ n ≤ 9223372036854775807) (ht : Tab w) :
    Calls Tryd.prog 5 #[.int .i64 n] w fun e w' => e = .returned (.bool true) ∧ Below w.heap.size w w' := by
  by_cases hi : Cal.inB n = true
  · have hN : Cal.numJ n = n + 2440588 := by simp [Cal.numJ, hi]
    have hE : Cal.inE n = 0 := by simp [Cal.inE, hi]
    have hW : wdG n = (n + 2440588) % 7 + 1 := by simp [wdG, hi]; omega
    obtain ⟨i1, i2⟩ := Cal.inB_iff.1 hi
    go_enter Tryd.func5, Tryd.ntmps5
    go_wp2_with (first | (go_at_call 12; refine (awake_any _ ht).mono ?_; rintro e w1 ⟨rfl, hb1⟩) | (go_at_call 19; refine (rright_any _ _).mono ?_; rintro e w' ⟨rfl, rfl⟩) | (go_at_call 20; refine (jnumber_any _ _).mono ?_; rintro e w' ⟨rfl, rfl⟩) | (go_at_call 21; refine (mod_any _ _ _ (by omega) (by omega) (by omega) (by omega)).mono ?_; rintro e w' ⟨rfl, k1, rfl⟩) | (go_at_call 22; refine (cweekday_any _ _).mono ?_; rintro e w' ⟨rfl, k2, rfl⟩))
    go_ret
    exact ⟨by simp, below_drewN hb1 _⟩
  · have hi' : Cal.inB n = false := by simpa using hi
    clear hi
    go_enter Tryd.func5, Tryd.ntmps5
    go_wp2_with (first | (have _t := hb1; go_at_call 12; refine (awake_any _ (ht.later hb1)).mono ?_; rintro e w2 ⟨rfl, hb2⟩) | (go_at_call 12; refine (awake_any _ ht).mono ?_; rintro e w1 ⟨rfl, hb1⟩) | (go_at_call 19; refine (rright_any _ _).mono ?_; rintro e w' ⟨rfl, rfl⟩))
    go_ret
    exact ⟨rfl, below_then hb1 hb2⟩
end Go.Proofs.YtiacppcnballeaaDoor
