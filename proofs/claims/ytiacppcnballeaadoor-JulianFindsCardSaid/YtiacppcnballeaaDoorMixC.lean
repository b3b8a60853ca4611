/- The contract of julian.MixedDay. Condition: the table of lengths. -/
import Derived.Test.YtiacppcnballeaaDoorMixB
namespace Go.Proofs.YtiacppcnballeaaDoor
open Go.ChangeShapes Go.WideShapes Go.ChangeAt Go.RowKit

theorem jmixday_no1 (f y m d : Int) (w : World) (hr : refB f = false) :
    Calls Tryd.prog 30 #[.agg #[.int .i64 f], .agg #[.int .i64 y, .int .i64 m, .int .i64 d]] w fun e w' => e = .returned (.tuple #[.int .i64 (mdN f y m d), .int .i64 (mdE f y m d)]) ∧ Below w.heap.size w w' := by
  go_enter Tryd.func30, Tryd.ntmps30
  go_wp2_with (go_at_call 43; refine (jright_any _ _).mono ?_; rintro e w1 ⟨rfl, hb1⟩)
  go_ret2
  exact ⟨by simp [mdN, mdE, hr], below_box (below_box hb1)⟩
theorem jmixday_no2 (f y m d : Int) (w : World) (ht : Tab w) (hr : refB f = true) (hv : Cal.okJb y m d = false) :
    Calls Tryd.prog 30 #[.agg #[.int .i64 f], .agg #[.int .i64 y, .int .i64 m, .int .i64 d]] w fun e w' => e = .returned (.tuple #[.int .i64 (mdN f y m d), .int .i64 (mdE f y m d)]) ∧ Below w.heap.size w w' := by
  have hg : Cal.okGb y m d = false := by
    by_cases k : Cal.okGb y m d = true
    · have := Cal.okJb_iff.2 (Cal.okG_J (Cal.okGb_iff.1 k)); rw [hv] at this; cases this
    · simpa using k
  go_enter Tryd.func30, Tryd.ntmps30
  go_wp2_with fail
  refine (jright_any _ _).mono ?_; rintro e w1 ⟨rfl, hb1⟩
  have hB := Lib.hid (show Box3 w1 (w.heap.size + 1) (.int .i64 y) (.int .i64 m) (.int .i64 d) by have := Box3.born hb1; simpa using this)
  have hb := below_box (below_box hb1)
  have ht1 := ht.later hb
  clear hb1
  obtain ⟨_, c0, c1, c2, _, _, _⟩ := hB.out
  go_wp2_with fail
  refine (jvalid_any _ _ _ _ ht1).mono ?_; rintro e w2 ⟨rfl, hb2⟩
  have hb := below_then hb hb2
  obtain ⟨_, c0, c1, c2, _, _, _⟩ := hB.out.later hb2
  clear hB hb2 ht1
  go_wp2_with fail
  refine (cvalid_any _ _ _ _).mono ?_; rintro e w3 ⟨rfl, hb3⟩
  have hb := below_then hb hb3
  go_wp2_with fail
  go_ret2
  exact ⟨by simp [mdN, mdE, hv, hg], hb⟩
set_option maxHeartbeats 2000000 in
theorem jmixday_yes (f y m d : Int) (w : World) (ht : Tab w) (hr : refB f = true) (hv : Cal.okJb y m d = true) :
    Calls Tryd.prog 30 #[.agg #[.int .i64 f], .agg #[.int .i64 y, .int .i64 m, .int .i64 d]] w fun e w' => e = .returned (.tuple #[.int .i64 (mdN f y m d), .int .i64 (mdE f y m d)]) ∧ Below w.heap.size w w' := by
  have hJ : Cal.dayJn y m d = (if Cal.inB (Cal.dayJ y m d) then Cal.dayJ y m d else 0) := by simp [Cal.dayJn, hv]
  have hJe : Cal.dayJe y m d = (if Cal.inB (Cal.dayJ y m d) then 0 else 2) := by simp [Cal.dayJe, hv]
  have hG : Cal.dayGn y m d = (if Cal.okGb y m d then Cal.dayG y m d else 0) := rfl
  have hGe : Cal.dayGe y m d = (if Cal.okGb y m d then 0 else 1) := rfl
  have jw : (Cal.inB (Cal.dayJ y m d) = true ∧ Cal.dayJ y m d < f) ∨ Cal.inB (Cal.dayJ y m d) = false ∨ (Cal.inB (Cal.dayJ y m d) = true ∧ ¬ Cal.dayJ y m d < f) := by
    by_cases a : Cal.inB (Cal.dayJ y m d) = true
    · by_cases b : Cal.dayJ y m d < f
      · exact Or.inl ⟨a, b⟩
      · exact Or.inr (Or.inr ⟨a, b⟩)
    · exact Or.inr (Or.inl (by simpa using a))
  have gw : (Cal.okGb y m d = true ∧ f ≤ Cal.dayG y m d) ∨ Cal.okGb y m d = false ∨ (Cal.okGb y m d = true ∧ ¬ f ≤ Cal.dayG y m d) := by
    by_cases a : Cal.okGb y m d = true
    · by_cases b : f ≤ Cal.dayG y m d
      · exact Or.inl ⟨a, b⟩
      · exact Or.inr (Or.inr ⟨a, b⟩)
    · exact Or.inr (Or.inl (by simpa using a))
  rcases jw with ⟨j1, j2⟩ | j1 | ⟨j1, j2⟩
  all_goals
    first | rw [if_pos j1] at hJ hJe | rw [if_neg (by simp [j1])] at hJ hJe
    rcases gw with ⟨g1, g2⟩ | g1 | ⟨g1, g2⟩
    all_goals
      first | rw [if_pos g1] at hG hGe | rw [if_neg (by simp [g1])] at hG hGe
      go_enter Tryd.func30, Tryd.ntmps30
      go_wp2_with fail
      refine (jright_any _ _).mono ?_; rintro e w1 ⟨rfl, hb1⟩
      have hB := Lib.hid (show Box3 w1 (w.heap.size + 1) (.int .i64 y) (.int .i64 m) (.int .i64 d) by have := Box3.born hb1; simpa using this)
      have hF : w1.cell? ⟨w.heap.size, 0, none⟩ = some (.int .i64 f) := by rw [(below_box hb1).cell (by simp)]; simp
      have hlt : w.heap.size < w1.heap.size := Nat.lt_of_lt_of_le (by simp; omega) hb1.size
      have hb := below_box (below_box hb1)
      have ht1 := ht.later hb
      clear hb1
      obtain ⟨_, c0, c1, c2, _, _, _⟩ := hB.out
      go_wp2_with fail
      refine (jvalid_any _ _ _ _ ht1).mono ?_; rintro e w2 ⟨rfl, hb2⟩
      have hb := below_then hb hb2
      have hF := keep1 hb2 hlt hF
      have hlt := Nat.lt_of_lt_of_le hlt hb2.size
      have hB2 := Lib.hid (hB.out.later hb2)
      obtain ⟨_, c0, c1, c2, _, _, _⟩ := hB2.out
      have ht1 := ht.later hb
      clear hB hb2
      go_wp2_with fail
      refine (jday_any _ _ _ _ ht1).mono ?_; rintro e w3 ⟨rfl, hb3⟩
      have hb := below_then hb hb3
      have hF := keep1 hb3 hlt hF
      have hB3 := Lib.hid (hB2.out.later hb3)
      obtain ⟨_, c0, c1, c2, _, _, _⟩ := hB3.out
      have hlt := Nat.lt_of_lt_of_le hlt hb3.size
      clear hB2 hb3 ht1
      go_wp2_with fail
      refine (cday_any _ _ _ _).mono ?_; rintro e w4 ⟨rfl, hb4⟩
      have hb := below_then hb hb4
      have hF := keep1 hb4 hlt hF
      clear hB3 hb4 hlt
      go_wp2
      go_ret2
      exact ⟨by simp [mdN, mdE, *]; try omega, hb⟩
theorem jmixday_any (f y m d : Int) (w : World) (ht : Tab w) :
    Calls Tryd.prog 30 #[.agg #[.int .i64 f], .agg #[.int .i64 y, .int .i64 m, .int .i64 d]] w fun e w' => e = .returned (.tuple #[.int .i64 (mdN f y m d), .int .i64 (mdE f y m d)]) ∧ Below w.heap.size w w' := by
  by_cases hr : refB f = true
  · by_cases hv : Cal.okJb y m d = true
    · exact jmixday_yes f y m d w ht hr hv
    · exact jmixday_no2 f y m d w ht hr (by simpa using hv)
  · exact jmixday_no1 f y m d w (by simpa using hr)
end Go.Proofs.YtiacppcnballeaaDoor
