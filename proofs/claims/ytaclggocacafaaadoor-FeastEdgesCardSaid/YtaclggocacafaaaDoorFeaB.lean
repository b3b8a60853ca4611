/- Contracts of Moveable and Find, and of the reference of layer 8. No conditions but those on sizes. -/
import Derived.Test.YtaclggocacafaaaDoorFeaA
import Derived.Deep.Cut
namespace Fea
open Cal
theorem mv_ways (y o : Int) : (mvB y o = true ∧ yB y = true ∧ 1 ≤ y ∧ y ≤ 9999 ∧ -400 ≤ o ∧ o ≤ 400 ∧ -719162 ≤ east y + o ∧ east y + o < 2932897 ∧ mvN y o = east y + o ∧ mvE y o = 0) ∨
    (mvB y o = false ∧ mvN y o = 0 ∧ mvE y o = 2 ∧ (yB y = false ∨ (yB y = true ∧ 1 ≤ y ∧ y ≤ 9999 ∧ (o < -400 ∨ (-400 ≤ o ∧ 400 < o) ∨ (-400 ≤ o ∧ o ≤ 400 ∧ east y + o < -719162) ∨ (-400 ≤ o ∧ o ≤ 400 ∧ -719162 ≤ east y + o ∧ 2932897 ≤ east y + o))))) := by
  by_cases h : mvB y o = true
  · have h' := h
    simp only [mvB, Bool.and_eq_true, decide_eq_true_eq] at h'
    obtain ⟨a, ⟨b, c⟩, d⟩ := h'
    have a' := yB_iff.1 a
    have d' := inB_iff.1 d
    exact Or.inl ⟨h, a, a'.1, a'.2, b, c, d'.1, d'.2, by simp [mvN, h], by simp [mvE, h]⟩
  · refine Or.inr ⟨by simpa using h, by simp [mvN, h], by simp [mvE, h], ?_⟩
    cases q : yB y
    · exact Or.inl rfl
    · have a' := yB_iff.1 q
      refine Or.inr ⟨rfl, a'.1, a'.2, ?_⟩
      simp only [mvB, q, Bool.true_and, Bool.and_eq_true, decide_eq_true_eq, inB_iff] at h
      omega
end Fea
namespace Go.Proofs.YtaclggocacafaaaDoor
open Go.ChangeShapes Go.WideShapes Go.ChangeAt Go.RowKit

set_option maxHeartbeats 1000000 in
theorem fmove_any (y o : Int) (w : World) :
    Calls Tryd.prog 26 #[.int .i64 y, .int .i64 o] w fun e w' => e = .returned (.tuple #[.int .i64 (Fea.mvN y o), .int .i64 (Fea.mvE y o)]) ∧ Below w.heap.size w w' := by
  rcases Fea.mv_ways y o with ⟨_, hy, y1, y2, o1, o2, s1, s2, e1, e2⟩ | ⟨_, e1, e2, hy | ⟨hy, y1, y2, ways⟩⟩
  · obtain ⟨_, _, i3, i4⟩ := Fea.east_in y1 y2
    have a1 : Fea.easter y = Fea.east y := by simp [Fea.easter, hy]
    have a2 : Fea.yE y = 0 := by simp [Fea.yE, hy]
    have aH := Lib.hid (And.intro a1 a2)
    rw [e1, e2]; clear e1 e2 a1 a2 hy
    go_enter Tryd.func26, Tryd.ntmps26
    go_wp2_with (go_at_call 17; refine (feaster_any _ _).mono ?_; rintro e w' ⟨rfl, hb4⟩; rw [aH.out.1, aH.out.2])
    go_ret2
    exact ⟨rfl, hb4⟩
  · have a2 : Fea.yE y = 2 := by simp [Fea.yE, hy]
    have aH := Lib.hid a2
    rw [e1, e2]; clear e1 e2 a2
    go_enter Tryd.func26, Tryd.ntmps26
    go_wp2_with (go_at_call 17; refine (feaster_any _ _).mono ?_; rintro e w' ⟨rfl, hb4⟩; rw [aH.out])
    go_ret2
    exact ⟨rfl, hb4⟩
  · obtain ⟨_, _, i3, i4⟩ := Fea.east_in y1 y2
    have a1 : Fea.easter y = Fea.east y := by simp [Fea.easter, hy]
    have a2 : Fea.yE y = 0 := by simp [Fea.yE, hy]
    have aH := Lib.hid (And.intro a1 a2)
    rw [e1, e2]; clear e1 e2 a1 a2 hy
    rcases ways with q | ⟨q, q2⟩ | ⟨q, q2, q3⟩ | ⟨q, q2, q3, q4⟩
    all_goals
      go_enter Tryd.func26, Tryd.ntmps26
      go_wp2_with (go_at_call 17; refine (feaster_any _ _).mono ?_; rintro e w' ⟨rfl, hb4⟩; rw [aH.out.1, aH.out.2])
      go_ret2
      exact ⟨rfl, hb4⟩
set_option maxHeartbeats 400000 in
theorem ffind_any (n : Int) (w : World) :
    Calls Tryd.prog 24 #[.int .i64 n] w fun e w' => e = .returned (.tuple #[.int .i64 (Cal.yG n), .int .i64 (Fea.fdN n), .int .i64 (Cal.inE n)]) ∧ Below w.heap.size w w' := by
  by_cases hi : Cal.inB n = true
  · obtain ⟨i1, i2⟩ := Cal.inB_iff.1 hi
    obtain ⟨ho, hd⟩ := Cal.dtG_spec hi
    obtain ⟨y1, y2, _⟩ := ho
    obtain ⟨_, _, i3, i4⟩ := Fea.east_in y1 y2
    have hy : Fea.yB (Cal.yG n) = true := Fea.yB_iff.2 ⟨y1, y2⟩
    have a1 : Fea.easter (Cal.yG n) = Fea.east (Cal.yG n) := by simp [Fea.easter, hy]
    have a2 : Fea.yE (Cal.yG n) = 0 := by simp [Fea.yE, hy]
    have e1 : Fea.fdN n = n - Fea.east (Cal.yG n) := by simp [Fea.fdN, hi]
    have e2 : Cal.inE n = 0 := by simp [Cal.inE, hi]
    have aH := Lib.hid (And.intro a1 (And.intro a2 e2))
    rw [e1, e2]; clear e1 e2 a1 a2 hy hd
    go_enter Tryd.func24, Tryd.ntmps24
    go_wp2_with fail
    refine (cdate_any _ _).mono ?_; rintro e w1 ⟨rfl, hb1⟩
    rw [aH.out.2.2]
    go_wp2_with fail
    refine (feaster_any _ _).mono ?_; rintro e w2 ⟨rfl, hb2⟩
    rw [aH.out.1, aH.out.2.1]
    obtain ⟨_, c0, c1, c2, _, _, _⟩ := Box3.born hb2
    have hb := below_then hb1 (below_box hb2)
    clear hb1 hb2
    go_wp2_with fail
    go_ret3
    exact ⟨rfl, hb⟩
  · have hi' : Cal.inB n = false := by simpa using hi
    have e1 : Fea.fdN n = 0 := by simp [Fea.fdN, hi]
    have e2 : Cal.inE n = 2 := by simp [Cal.inE, hi]
    obtain ⟨d1, d2, d3⟩ := Cal.dtG_out hi'
    have aH := Lib.hid e2
    rw [e1, e2, d1]; clear e1 e2 d1 d2 d3 hi
    go_enter Tryd.func24, Tryd.ntmps24
    go_wp2_with fail
    refine (cdate_any _ _).mono ?_; rintro e w1 ⟨rfl, hb1⟩
    rw [aH.out]
    go_wp2_with fail
    go_ret3
    exact ⟨rfl, below_alloc1 hb1 _⟩
theorem ryear8_any (y : Int) (w : World) :
    Calls Tryd.prog 14 #[.int .i64 y] w fun e w' => e = .returned (.bool (Fea.yB y)) ∧ w = w' := by
  have hl : Fea.yB y = (decide (1 ≤ y) && decide (y ≤ 9999)) := by rw [Bool.eq_iff_iff]; simp [Fea.yB]
  rw [hl]; clear hl
  by_cases h1 : 1 ≤ y
  · go_enter Tryd.func14, Tryd.ntmps14
    go_wp2
    go_ret
    exact ⟨by simp [h1], rfl⟩
  · go_enter Tryd.func14, Tryd.ntmps14
    go_wp2
    go_ret
    exact ⟨by simp; omega, rfl⟩
theorem rgold_any (y : Int) (w : World) (h1 : 1 ≤ y) (h2 : y ≤ 9999) :
    Calls Tryd.prog 15 #[.int .i64 y] w fun e w' => e = .returned (.int .i64 (y % 19 + 1)) ∧ w = w' := by
  go_enter Tryd.func15, Tryd.ntmps15
  go_wp2
  go_ret
  exact ⟨rfl, rfl⟩
theorem repact_any (y : Int) (w : World) (h1 : 1 ≤ y) (h2 : y ≤ 9999) :
    Calls Tryd.prog 16 #[.int .i64 y] w fun e w' => e = .returned (.int .i64 (Fea.ep y)) ∧ w = w' := by
  go_enter Tryd.func16, Tryd.ntmps16
  go_wp2_with (first | (go_at_call 15; refine (rgold_any _ _ (by omega) (by omega)).mono ?_; rintro e w' ⟨rfl, rfl⟩))
  go_ret
  exact ⟨ret_int (by unfold Fea.ep; omega), rfl⟩
set_option maxHeartbeats 1000000 in
theorem reaster_any (y : Int) (w : World) (h1 : 1 ≤ y) (h2 : y ≤ 9999) :
    Calls Tryd.prog 19 #[.int .i64 y] w fun e w' => e = .returned (.int .i64 (Fea.east y)) ∧ Below w.heap.size w w' := by
  obtain ⟨hok, hday⟩ := Fea.rn_day h1 h2
  have hrb := Fea.rn_bd h1 h2
  have hok' : Cal.okGb y (Fea.rn y / 31) (Fea.rn y % 31 + 1) = true := Cal.okGb_iff.2 hok
  have hn : Cal.dayGn y (Fea.rn y / 31) (Fea.rn y % 31 + 1) = Fea.east y := by simp [Cal.dayGn, hok', hday]
  have hnH := Lib.hid hn
  have r1 : 19 * (y % 19) + y / 100 - y / 100 / 4 - (y / 100 - (y / 100 + 8) / 25 + 1) / 3 + 15 ≥ 0 := by omega
  have rhb : 0 ≤ Fea.rh y ∧ Fea.rh y < 30 := by unfold Fea.rh; omega
  have r2 : 32 + 2 * (y / 100 % 4) + 2 * (y % 100 / 4) - Fea.rh y - y % 4 ≥ 0 := by omega
  have rlb : 0 ≤ Fea.rl y ∧ Fea.rl y < 7 := by unfold Fea.rl; omega
  have rmb : 0 ≤ Fea.rm y ∧ Fea.rm y ≤ 2 := by unfold Fea.rm; omega
  have hh : (19 * (y % 19) + y / 100 - y / 100 / 4 - (y / 100 - (y / 100 + 8) / 25 + 1) / 3 + 15) % 30 = Fea.rh y := rfl
  have hl : (32 + 2 * (y / 100 % 4) + 2 * (y % 100 / 4) - Fea.rh y - y % 4) % 7 = Fea.rl y := by unfold Fea.rl; rw [show y % 100 % 4 = y % 4 by omega]
  have hm : (y % 19 + 11 * Fea.rh y + 22 * Fea.rl y) / 451 = Fea.rm y := rfl
  have hN : Fea.rh y + Fea.rl y - 7 * Fea.rm y + 114 = Fea.rn y := rfl
  clear hok hday hok' hn
  have hhH := Lib.hid hh; have hlH := Lib.hid hl; have hmH := Lib.hid hm; have hNH := Lib.hid hN
  clear hh hl hm hN
  go_enter Tryd.func19, Tryd.ntmps19
  go_upto_region 3 with fail
  rw [hhH.out]
  go_upto_region 4 with fail
  rw [hlH.out]
  go_upto_region 5 with fail
  rw [hmH.out]
  go_upto_region 6 with fail
  rw [hNH.out]
  go_wp2_with (go_at_call 33; refine (qday_any _ _ _ _).mono ?_; rintro e w' ⟨rfl, hb1⟩; rw [hnH.out])
  go_ret
  exact ⟨rfl, hb1⟩
end Go.Proofs.YtaclggocacafaaaDoor
