/- The contract of the reference's MixedDay. No conditions. -/
import Derived.Test.YtiacppcnballeaaDoorMixB
namespace Go.Proofs.YtiacppcnballeaaDoor
open Go.ChangeShapes Go.WideShapes Go.ChangeAt Go.RowKit

/-- the reference's Gregorian, whichever way -/
theorem rgreg_any (y m d : Int) (w : World) (hy : -9223372036854775808 ≤ y ∧ y ≤ 9223372036854775807) :
    Calls Tryd.prog 45 #[.agg #[.int .i64 y, .int .i64 m, .int .i64 d]] w fun e w' => e = .returned (.tuple #[.int .i64 (Cal.dayGn y m d), .bool (Cal.okGb y m d)]) ∧ Below w.heap.size w w' := by
  by_cases h : Cal.okGb y m d = true
  · have h1 : Cal.dayGn y m d = Cal.dayG y m d := by simp [Cal.dayGn, h]
    rw [h1, h]; exact rgreg_yes y m d w (Cal.okGb_iff.1 h)
  · have h' : Cal.okGb y m d = false := by simpa using h
    have h1 : Cal.dayGn y m d = 0 := by simp [Cal.dayGn, h]
    rw [h1, h']; exact rgreg_no y m d w hy h'
set_option maxHeartbeats 2000000 in
theorem rmixday_any (f y m d : Int) (w : World) (hy : -9223372036854775808 ≤ y ∧ y ≤ 9223372036854775807) :
    Calls Tryd.prog 31 #[.agg #[.int .i64 f], .agg #[.int .i64 y, .int .i64 m, .int .i64 d]] w fun e w' => e = .returned (.tuple #[.int .i64 (mdN f y m d), .int .i64 (mdE f y m d)]) ∧ Below w.heap.size w w' := by
  have hrd : refB f = decide (-719162 ≤ f ∧ f ≤ 2932897) := rfl
  by_cases hr : -719162 ≤ f ∧ f ≤ 2932897
  · obtain ⟨r1, r2⟩ := hr
    have hr : refB f = true := by rw [hrd]; simp [r1, r2]
    by_cases hv : Cal.okJb y m d = true
    · have hvo := Lib.hid (Cal.okJb_iff.1 hv)
      have jw : (Cal.inB (Cal.dayJ y m d) = true ∧ Cal.dayJ y m d < f) ∨ Cal.inB (Cal.dayJ y m d) = false ∨ (Cal.inB (Cal.dayJ y m d) = true ∧ ¬ Cal.dayJ y m d < f) := by
        by_cases a : Cal.inB (Cal.dayJ y m d) = true
        · by_cases b : Cal.dayJ y m d < f
          · exact Or.inl ⟨a, b⟩
          · exact Or.inr (Or.inr ⟨a, b⟩)
        · exact Or.inr (Or.inl (by simpa using a))
      have gw : (Cal.okGb y m d = true ∧ f ≤ Cal.dayG y m d) ∨ Cal.okGb y m d = false ∨ (Cal.okGb y m d = true ∧ ¬ f ≤ Cal.dayG y m d) := by
        by_cases a : Cal.okGb y m d = true
        · by_cases b : f ≤ Cal.dayG y m d
          · exact Or.inl ⟨a, b⟩
          · exact Or.inr (Or.inr ⟨a, b⟩)
        · exact Or.inr (Or.inl (by simpa using a))
      clear hrd
      rcases jw with ⟨j1, j2⟩ | j1 | ⟨j1, j2⟩
      all_goals
        rcases gw with ⟨g1, g2⟩ | g1 | ⟨g1, g2⟩
        all_goals
          have hG : Cal.dayGn y m d = (if Cal.okGb y m d then Cal.dayG y m d else 0) := rfl
          first | rw [if_pos g1] at hG | rw [if_neg (by simp [g1])] at hG
          try have hgi := Cal.dayG_inB g1
          go_enter Tryd.func31, Tryd.ntmps31
          go_wp2_with fail
          refine (rgreg_any _ _ _ _ hy).mono ?_; rintro e w1 ⟨rfl, hb1⟩
          have hB := Lib.hid (show Box3 w1 (w.heap.size + 1) (.int .i64 y) (.int .i64 m) (.int .i64 d) by have := Box3.born hb1; simpa using this)
          have hF : w1.cell? ⟨w.heap.size, 0, none⟩ = some (.int .i64 f) := by rw [hb1.cell (by simp; omega)]; simp
          have hlt : w.heap.size < w1.heap.size := Nat.lt_of_lt_of_le (by simp; omega) hb1.size
          have hb := below_box (below_box hb1)
          clear hb1
          obtain ⟨_, c0, c1, c2, _, _, _⟩ := hB.out
          go_wp2_with fail
          refine (rvalid_any _ _ _ _).mono ?_; rintro e w2 ⟨rfl, hb2⟩
          have hb := below_then hb hb2
          have hF := keep1 hb2 hlt hF
          have hlt := Nat.lt_of_lt_of_le hlt hb2.size
          have hB2 := Lib.hid (hB.out.later hb2)
          obtain ⟨_, c0, c1, c2, _, _, _⟩ := hB2.out
          clear hB hb2
          go_wp2_with fail
          try (refine (rvalid_any _ _ _ _).mono ?_; rintro e w3 ⟨rfl, hb3⟩; have hb := below_then hb hb3; have hF := keep1 hb3 hlt hF; have hlt := Nat.lt_of_lt_of_le hlt hb3.size; have hB3 := Lib.hid (hB2.out.later hb3); obtain ⟨_, c0, c1, c2, _, _, _⟩ := hB3.out; clear hB2 hb3; go_wp2_with fail)
          refine (rcount_any _ _ _ _ hvo.out).mono ?_; rintro e w4 ⟨rfl, hb4⟩
          have hb := below_then hb hb4
          have hF := keep1 hb4 hlt hF
          clear hb4 hlt
          go_wp2_with (go_at_call 19; refine (rright_any _ _).mono ?_; rintro e w' ⟨rfl, rfl⟩)
          go_ret2
          exact ⟨by simp [mdN, mdE, *]; try omega, hb⟩
    · have hv' : Cal.okJb y m d = false := by simpa using hv
      have hg : Cal.okGb y m d = false := by
        by_cases k : Cal.okGb y m d = true
        · exact absurd (Cal.okJb_iff.2 (Cal.okG_J (Cal.okGb_iff.1 k))) hv
        · simpa using k
      have hG : Cal.dayGn y m d = 0 := by simp [Cal.dayGn, hg]
      clear hv hrd
      go_enter Tryd.func31, Tryd.ntmps31
      go_wp2_with fail
      refine (rgreg_any _ _ _ _ hy).mono ?_; rintro e w1 ⟨rfl, hb1⟩
      have hB := Lib.hid (show Box3 w1 (w.heap.size + 1) (.int .i64 y) (.int .i64 m) (.int .i64 d) by have := Box3.born hb1; simpa using this)
      have hF : w1.cell? ⟨w.heap.size, 0, none⟩ = some (.int .i64 f) := by rw [hb1.cell (by simp; omega)]; simp
      have hb := below_box (below_box hb1)
      clear hb1
      obtain ⟨_, c0, c1, c2, _, _, _⟩ := hB.out
      go_wp2_with fail
      refine (rvalid_any _ _ _ _).mono ?_; rintro e w2 ⟨rfl, hb2⟩
      have hb := below_then hb hb2
      go_wp2_with fail
      go_ret2
      exact ⟨by simp [mdN, mdE, *], hb⟩
  · have hr' : refB f = false := by rw [hrd]; simpa using hr
    have hr2 : f < -719162 ∨ (-719162 ≤ f ∧ 2932897 < f) := by omega
    clear hr hrd
    rcases hr2 with r1 | ⟨r1, r2⟩
    all_goals
      go_enter Tryd.func31, Tryd.ntmps31
      go_wp2_with fail
      refine (rgreg_any _ _ _ _ hy).mono ?_; rintro e w1 ⟨rfl, hb1⟩
      have hF : w1.cell? ⟨w.heap.size, 0, none⟩ = some (.int .i64 f) := by rw [hb1.cell (by simp; omega)]; simp
      have hb := below_box (below_box hb1)
      clear hb1
      go_wp2
      go_ret2
      exact ⟨by simp [mdN, mdE, hr'], hb⟩
end Go.Proofs.YtiacppcnballeaaDoor
