/- More on the calendars: a day's date leads back to it, a date's day to the date; the next day has the next date. No conditions. -/
import Derived.Test.YtajpbajffmiceaaCal
namespace Cal
theorem backJ {n : Int} (h : inB n = true) : dayJn (yJ n) (mJ n) (aJ n) = n ∧ dayJe (yJ n) (mJ n) (aJ n) = 0 := by
  obtain ⟨ho, hd⟩ := dtJ_spec h
  have hb := okJb_iff.2 ho
  constructor
  · unfold dayJn; rw [hb, hd, h]; rfl
  · unfold dayJe; rw [hb, hd, h]; rfl
theorem backG {n : Int} (h : inB n = true) : dayGn (yG n) (mG n) (aG n) = n ∧ dayGe (yG n) (mG n) (aG n) = 0 := by
  obtain ⟨ho, hd⟩ := dtG_spec h
  have hb := okGb_iff.2 ho
  constructor
  · unfold dayGn; rw [hb, hd]; rfl
  · unfold dayGe; rw [hb]; rfl
theorem forthJ {y m d : Int} (h : okJb y m d = true) (hi : inB (dayJ y m d) = true) :
    dayJn y m d = dayJ y m d ∧ dayJe y m d = 0 ∧ yJ (dayJ y m d) = y ∧ mJ (dayJ y m d) = m ∧ aJ (dayJ y m d) = d ∧ inE (dayJ y m d) = 0 := by
  obtain ⟨e1, e2, e3⟩ := dtJ_eq hi (okJb_iff.1 h) rfl
  exact ⟨by simp [dayJn, h, hi], by simp [dayJe, h, hi], e1.symm, e2.symm, e3.symm, by simp [inE, hi]⟩
theorem dayG_inB {y m d : Int} (h : okGb y m d = true) : inB (dayG y m d) = true := inB_iff.2 (dayG_in (okGb_iff.1 h))
theorem forthG {y m d : Int} (h : okGb y m d = true) :
    dayGn y m d = dayG y m d ∧ dayGe y m d = 0 ∧ yG (dayG y m d) = y ∧ mG (dayG y m d) = m ∧ aG (dayG y m d) = d ∧ inE (dayG y m d) = 0 := by
  have hi := dayG_inB h
  obtain ⟨e1, e2, e3⟩ := dtG_eq hi (okGb_iff.1 h) rfl
  exact ⟨by simp [dayGn, h], by simp [dayGe, h], e1.symm, e2.symm, e3.symm, by simp [inE, hi]⟩
theorem dayJe_bad {y m d : Int} (h : ¬ (okJb y m d = true ∧ inB (dayJ y m d) = true)) : (dayJe y m d != 0) = true := by
  unfold dayJe; split
  · split
    · exact absurd ⟨‹_›, ‹_›⟩ h
    · rfl
  · rfl
theorem dayGe_bad {y m d : Int} (h : okGb y m d = false) : dayGe y m d = 1 ∧ dayGn y m d = 0 := by simp [dayGe, dayGn, h]
theorem lenJc_eq {y m d : Int} (h : okJ y m d) : lenJc y m = lenJ y m := by
  obtain ⟨h1, h2, h3, h4, _, _⟩ := h; unfold lenJc; rw [if_pos ⟨h1, h2, h3, h4⟩]
theorem stepJ {n : Int} (h : inB n = true) (h' : inB (n + 1) = true) :
    (aJ n < lenJc (yJ n) (mJ n) → yJ (n + 1) = yJ n ∧ mJ (n + 1) = mJ n ∧ aJ (n + 1) = aJ n + 1) ∧
    (¬ aJ n < lenJc (yJ n) (mJ n) → mJ n < 12 → yJ (n + 1) = yJ n ∧ mJ (n + 1) = mJ n + 1 ∧ aJ (n + 1) = 1) ∧
    (¬ aJ n < lenJc (yJ n) (mJ n) → ¬ mJ n < 12 → yJ (n + 1) = yJ n + 1 ∧ mJ (n + 1) = 1 ∧ aJ (n + 1) = 1) := by
  obtain ⟨ho, hd⟩ := dtJ_spec h
  rw [lenJc_eq ho]
  obtain ⟨h1, h2, h3, h4, h5, h6⟩ := ho
  generalize yJ n = y at *; generalize mJ n = m at *; generalize aJ n = a at *
  refine ⟨fun k => ?_, fun k k' => ?_, fun k k' => ?_⟩
  · obtain ⟨e1, e2, e3⟩ := dtJ_eq h' (show okJ y m (a + 1) from ⟨h1, h2, h3, h4, by omega, by omega⟩) (by unfold dayJ at *; omega)
    exact ⟨e1.symm, e2.symm, e3.symm⟩
  · have hl := lenJ_bd y (m + 1)
    have hc := cumJ_succ y h3 (by omega)
    obtain ⟨e1, e2, e3⟩ := dtJ_eq h' (show okJ y (m + 1) 1 from ⟨h1, h2, by omega, by omega, by omega, by omega⟩) (by unfold dayJ at *; omega)
    exact ⟨e1.symm, e2.symm, e3.symm⟩
  · obtain rfl : m = 12 := by omega
    have hl := lenJ_bd (y + 1) 1
    have e1 : cumJ y 12 = 334 + lj y := by simp [cumJ]
    have e2 : lenJ y 12 = 31 := by simp [lenJ, lenB]
    have e3 : cumJ (y + 1) 1 = 0 := by simp [cumJ]
    have e4 := ysJ_succ y
    have hd' : dayJ (y + 1) 1 1 = n + 1 := by unfold dayJ at *; omega
    have hy : y + 1 ≤ 9999 := by
      have := (inB_iff.1 h').2
      rcases (show y + 1 ≤ 9999 ∨ y = 9999 by omega) with q | q
      · exact q
      · subst q
        have e5 : ysJ (9999 + 1) = 2932970 := by decide
        unfold dayJ at hd'; omega
    obtain ⟨e1, e2, e3⟩ := dtJ_eq h' (show okJ (y + 1) 1 1 from ⟨by omega, hy, by omega, by omega, by omega, by omega⟩) hd'
    exact ⟨e1.symm, e2.symm, e3.symm⟩
theorem lenGc_eq {y m d : Int} (h : okG y m d) : lenGc y m = lenG y m := by
  obtain ⟨h1, h2, h3, h4, _, _⟩ := h; unfold lenGc; rw [if_pos ⟨h1, h2, h3, h4⟩]
theorem stepG {n : Int} (h : inB n = true) (h' : inB (n + 1) = true) :
    (aG n < lenGc (yG n) (mG n) → yG (n + 1) = yG n ∧ mG (n + 1) = mG n ∧ aG (n + 1) = aG n + 1) ∧
    (¬ aG n < lenGc (yG n) (mG n) → mG n < 12 → yG (n + 1) = yG n ∧ mG (n + 1) = mG n + 1 ∧ aG (n + 1) = 1) ∧
    (¬ aG n < lenGc (yG n) (mG n) → ¬ mG n < 12 → yG (n + 1) = yG n + 1 ∧ mG (n + 1) = 1 ∧ aG (n + 1) = 1) := by
  obtain ⟨ho, hd⟩ := dtG_spec h
  rw [lenGc_eq ho]
  obtain ⟨h1, h2, h3, h4, h5, h6⟩ := ho
  generalize yG n = y at *; generalize mG n = m at *; generalize aG n = a at *
  refine ⟨fun k => ?_, fun k k' => ?_, fun k k' => ?_⟩
  · obtain ⟨e1, e2, e3⟩ := dtG_eq h' (show okG y m (a + 1) from ⟨h1, h2, h3, h4, by omega, by omega⟩) (by unfold dayG at *; omega)
    exact ⟨e1.symm, e2.symm, e3.symm⟩
  · have hl := lenG_bd y (m + 1)
    have hc := cumG_succ y h3 (by omega)
    obtain ⟨e1, e2, e3⟩ := dtG_eq h' (show okG y (m + 1) 1 from ⟨h1, h2, by omega, by omega, by omega, by omega⟩) (by unfold dayG at *; omega)
    exact ⟨e1.symm, e2.symm, e3.symm⟩
  · obtain rfl : m = 12 := by omega
    have hl := lenG_bd (y + 1) 1
    have e1 : cumG y 12 = 334 + lg y := by simp [cumG]
    have e2 : lenG y 12 = 31 := by simp [lenG, lenB]
    have e3 : cumG (y + 1) 1 = 0 := by simp [cumG]
    have e4 := ysG_succ y
    have hd' : dayG (y + 1) 1 1 = n + 1 := by unfold dayG at *; omega
    have hy : y + 1 ≤ 9999 := by
      have := (inB_iff.1 h').2
      rcases (show y + 1 ≤ 9999 ∨ y = 9999 by omega) with q | q
      · exact q
      · subst q
        have e5 : ysG (9999 + 1) = 2932897 := by decide
        unfold dayG at hd'; omega
    obtain ⟨e1, e2, e3⟩ := dtG_eq h' (show okG (y + 1) 1 1 from ⟨by omega, hy, by omega, by omega, by omega, by omega⟩) hd'
    exact ⟨e1.symm, e2.symm, e3.symm⟩
end Cal
