/- Plain arithmetic of the calendars: civil, Julian, Islamic and Hebrew dates, weeks, feasts, and granules that repeat. No conditions. -/
namespace Cal
/-- 1 in a Gregorian leap year. -/
def lg (y : Int) : Int := if y % 4 = 0 ∧ (y % 100 ≠ 0 ∨ y % 400 = 0) then 1 else 0
/-- 1 in a Julian leap year. -/
def lj (y : Int) : Int := if y % 4 = 0 then 1 else 0
def lenB (m : Int) : Int := if m = 2 then 28 else if m = 4 ∨ m = 6 ∨ m = 9 ∨ m = 11 then 30 else 31
def lenG (y m : Int) : Int := if m = 2 then 28 + lg y else lenB m
def lenJ (y m : Int) : Int := if m = 2 then 28 + lj y else lenB m
/-- days before a month, in a year that is no leap year -/
def cumB (m : Int) : Int := if m ≤ 2 then 31 * (m - 1) else (153 * (m - 3) + 2) / 5 + 59
def cumG (y m : Int) : Int := if m ≤ 2 then 31 * (m - 1) else (153 * (m - 3) + 2) / 5 + 59 + lg y
def cumJ (y m : Int) : Int := if m ≤ 2 then 31 * (m - 1) else (153 * (m - 3) + 2) / 5 + 59 + lj y
def ysG (y : Int) : Int := 365 * (y - 1) + (y - 1) / 4 - (y - 1) / 100 + (y - 1) / 400 - 719162
def ysJ (y : Int) : Int := 365 * (y - 1) + (y - 1) / 4 - 719164
def dayG (y m d : Int) : Int := ysG y + cumG y m + d - 1
def dayJ (y m d : Int) : Int := ysJ y + cumJ y m + d - 1
def okG (y m d : Int) : Prop := 1 ≤ y ∧ y ≤ 9999 ∧ 1 ≤ m ∧ m ≤ 12 ∧ 1 ≤ d ∧ d ≤ lenG y m
def okJ (y m d : Int) : Prop := 1 ≤ y ∧ y ≤ 9999 ∧ 1 ≤ m ∧ m ≤ 12 ∧ 1 ≤ d ∧ d ≤ lenJ y m

theorem lg_01 (y : Int) : 0 ≤ lg y ∧ lg y ≤ 1 := by unfold lg; split <;> omega
theorem lj_01 (y : Int) : 0 ≤ lj y ∧ lj y ≤ 1 := by unfold lj; split <;> omega
theorem m12 {m : Int} (h1 : 1 ≤ m) (h2 : m ≤ 12) : m = 1 ∨ m = 2 ∨ m = 3 ∨ m = 4 ∨ m = 5 ∨ m = 6 ∨ m = 7 ∨ m = 8 ∨ m = 9 ∨ m = 10 ∨ m = 11 ∨ m = 12 := by omega
theorem ysG_succ (y : Int) : ysG (y + 1) = ysG y + 365 + lg y := by unfold ysG lg; split <;> omega
theorem ysJ_succ (y : Int) : ysJ (y + 1) = ysJ y + 365 + lj y := by unfold ysJ lj; split <;> omega
theorem ysG_lt {a b : Int} (h : a < b) : ysG (a + 1) ≤ ysG b := by unfold ysG; omega
theorem ysJ_lt {a b : Int} (h : a < b) : ysJ (a + 1) ≤ ysJ b := by unfold ysJ; omega
theorem ysG_mono {a b : Int} (h : a ≤ b) : ysG a ≤ ysG b := by unfold ysG; omega
theorem ysJ_mono {a b : Int} (h : a ≤ b) : ysJ a ≤ ysJ b := by unfold ysJ; omega
theorem lenG_bd (y m : Int) : 28 ≤ lenG y m ∧ lenG y m ≤ 31 := by have := lg_01 y; unfold lenG lenB; repeat' split
                                                                  all_goals omega
theorem lenJ_bd (y m : Int) : 28 ≤ lenJ y m ∧ lenJ y m ≤ 31 := by have := lj_01 y; unfold lenJ lenB; repeat' split
                                                                  all_goals omega
theorem cumG_succ (y : Int) {m : Int} (h1 : 1 ≤ m) (h2 : m ≤ 11) : cumG y (m + 1) = cumG y m + lenG y m := by
  have h : m = 1 ∨ m = 2 ∨ m = 3 ∨ m = 4 ∨ m = 5 ∨ m = 6 ∨ m = 7 ∨ m = 8 ∨ m = 9 ∨ m = 10 ∨ m = 11 := by omega
  rcases h with rfl | rfl | rfl | rfl | rfl | rfl | rfl | rfl | rfl | rfl | rfl <;> simp [cumG, lenG, lenB] <;> omega
theorem cumJ_succ (y : Int) {m : Int} (h1 : 1 ≤ m) (h2 : m ≤ 11) : cumJ y (m + 1) = cumJ y m + lenJ y m := by
  have h : m = 1 ∨ m = 2 ∨ m = 3 ∨ m = 4 ∨ m = 5 ∨ m = 6 ∨ m = 7 ∨ m = 8 ∨ m = 9 ∨ m = 10 ∨ m = 11 := by omega
  rcases h with rfl | rfl | rfl | rfl | rfl | rfl | rfl | rfl | rfl | rfl | rfl <;> simp [cumJ, lenJ, lenB] <;> omega
theorem cumG_bd (y : Int) {m : Int} (h1 : 1 ≤ m) (h2 : m ≤ 12) : 0 ≤ cumG y m ∧ cumG y m + lenG y m ≤ 365 + lg y := by
  have := lg_01 y
  rcases m12 h1 h2 with rfl | rfl | rfl | rfl | rfl | rfl | rfl | rfl | rfl | rfl | rfl | rfl <;> simp [cumG, lenG, lenB] <;> omega
theorem cumJ_bd (y : Int) {m : Int} (h1 : 1 ≤ m) (h2 : m ≤ 12) : 0 ≤ cumJ y m ∧ cumJ y m + lenJ y m ≤ 365 + lj y := by
  have := lj_01 y
  rcases m12 h1 h2 with rfl | rfl | rfl | rfl | rfl | rfl | rfl | rfl | rfl | rfl | rfl | rfl <;> simp [cumJ, lenJ, lenB] <;> omega
theorem cumG_lt (y : Int) {m n : Int} (h1 : 1 ≤ m) (h : m < n) (h2 : n ≤ 12) : cumG y m + lenG y m ≤ cumG y n := by
  have := lg_01 y
  rcases m12 h1 (by omega) with rfl | rfl | rfl | rfl | rfl | rfl | rfl | rfl | rfl | rfl | rfl | rfl <;> simp [cumG, lenG, lenB] <;> (try split) <;> omega
theorem cumJ_lt (y : Int) {m n : Int} (h1 : 1 ≤ m) (h : m < n) (h2 : n ≤ 12) : cumJ y m + lenJ y m ≤ cumJ y n := by
  have := lj_01 y
  rcases m12 h1 (by omega) with rfl | rfl | rfl | rfl | rfl | rfl | rfl | rfl | rfl | rfl | rfl | rfl <;> simp [cumJ, lenJ, lenB] <;> (try split) <;> omega
theorem dayG_bd {y m d : Int} (h : okG y m d) : ysG y ≤ dayG y m d ∧ dayG y m d < ysG (y + 1) := by
  obtain ⟨_, _, h1, h2, h3, h4⟩ := h
  have := cumG_bd y h1 h2; have := ysG_succ y
  unfold dayG; omega
theorem dayJ_bd {y m d : Int} (h : okJ y m d) : ysJ y ≤ dayJ y m d ∧ dayJ y m d < ysJ (y + 1) := by
  obtain ⟨_, _, h1, h2, h3, h4⟩ := h
  have := cumJ_bd y h1 h2; have := ysJ_succ y
  unfold dayJ; omega
theorem dayG_inj {y m d y' m' d' : Int} (h : okG y m d) (h' : okG y' m' d') (e : dayG y m d = dayG y' m' d') : y = y' ∧ m = m' ∧ d = d' := by
  have b := dayG_bd h; have b' := dayG_bd h'
  have hy : y = y' := by
    rcases Int.lt_trichotomy y y' with k | k | k
    · have := ysG_lt k; omega
    · exact k
    · have := ysG_lt k; omega
  subst hy
  obtain ⟨_, _, h1, h2, h3, h4⟩ := h; obtain ⟨_, _, k1, k2, k3, k4⟩ := h'
  unfold dayG at e
  have hm : m = m' := by
    rcases Int.lt_trichotomy m m' with k | k | k
    · have := cumG_lt y h1 k k2; omega
    · exact k
    · have := cumG_lt y k1 k h2; omega
  subst hm
  exact ⟨rfl, rfl, by omega⟩
theorem dayJ_inj {y m d y' m' d' : Int} (h : okJ y m d) (h' : okJ y' m' d') (e : dayJ y m d = dayJ y' m' d') : y = y' ∧ m = m' ∧ d = d' := by
  have b := dayJ_bd h; have b' := dayJ_bd h'
  have hy : y = y' := by
    rcases Int.lt_trichotomy y y' with k | k | k
    · have := ysJ_lt k; omega
    · exact k
    · have := ysJ_lt k; omega
  subst hy
  obtain ⟨_, _, h1, h2, h3, h4⟩ := h; obtain ⟨_, _, k1, k2, k3, k4⟩ := h'
  unfold dayJ at e
  have hm : m = m' := by
    rcases Int.lt_trichotomy m m' with k | k | k
    · have := cumJ_lt y h1 k k2; omega
    · exact k
    · have := cumJ_lt y k1 k h2; omega
  subst hm
  exact ⟨rfl, rfl, by omega⟩
def okGb (y m d : Int) : Bool := decide (1 ≤ y ∧ y ≤ 9999 ∧ 1 ≤ m ∧ m ≤ 12 ∧ 1 ≤ d ∧ d ≤ lenG y m)
def okJb (y m d : Int) : Bool := decide (1 ≤ y ∧ y ≤ 9999 ∧ 1 ≤ m ∧ m ≤ 12 ∧ 1 ≤ d ∧ d ≤ lenJ y m)
def inB (n : Int) : Bool := decide (-719162 ≤ n ∧ n < 2932897)
theorem okGb_iff {y m d : Int} : okGb y m d = true ↔ okG y m d := by unfold okGb okG; exact decide_eq_true_iff
theorem okJb_iff {y m d : Int} : okJb y m d = true ↔ okJ y m d := by unfold okJb okJ; exact decide_eq_true_iff
theorem inB_iff {n : Int} : inB n = true ↔ -719162 ≤ n ∧ n < 2932897 := by unfold inB; exact decide_eq_true_iff
theorem okGb_no {y m d : Int} : okGb y m d = false ↔ ¬ okG y m d := by unfold okGb okG; exact decide_eq_false_iff_not
theorem okJb_no {y m d : Int} : okJb y m d = false ↔ ¬ okJ y m d := by unfold okJb okJ; exact decide_eq_false_iff_not
theorem inB_no {n : Int} : inB n = false ↔ ¬ (-719162 ≤ n ∧ n < 2932897) := by unfold inB; exact decide_eq_false_iff_not
/-- a month's length, 0 for a year or a month that is none -/
def lenJc (y m : Int) : Int := if 1 ≤ y ∧ y ≤ 9999 ∧ 1 ≤ m ∧ m ≤ 12 then lenJ y m else 0
def lenGc (y m : Int) : Int := if 1 ≤ y ∧ y ≤ 9999 ∧ 1 ≤ m ∧ m ≤ 12 then lenG y m else 0
def leapJc (y : Int) : Bool := decide (1 ≤ y ∧ y ≤ 9999 ∧ y % 4 = 0)
def leapGc (y : Int) : Bool := decide (1 ≤ y ∧ y ≤ 9999 ∧ y % 4 = 0 ∧ (y % 100 ≠ 0 ∨ y % 400 = 0))
theorem lenJ_30 (y : Int) : lenJ y 4 = 30 ∧ lenJ y 6 = 30 ∧ lenJ y 9 = 30 ∧ lenJ y 11 = 30 := ⟨rfl, rfl, rfl, rfl⟩
theorem lenJ_31 (y : Int) : lenJ y 1 = 31 ∧ lenJ y 3 = 31 ∧ lenJ y 5 = 31 ∧ lenJ y 7 = 31 ∧ lenJ y 8 = 31 ∧ lenJ y 10 = 31 ∧ lenJ y 12 = 31 := ⟨rfl, rfl, rfl, rfl, rfl, rfl, rfl⟩
theorem lenJc_bd (y m : Int) : 0 ≤ lenJc y m ∧ lenJc y m ≤ 31 := by
  have := lenJ_bd y m; unfold lenJc; split <;> omega
theorem lenGc_bd (y m : Int) : 0 ≤ lenGc y m ∧ lenGc y m ≤ 31 := by
  have := lenG_bd y m; unfold lenGc; split <;> omega
theorem okJb_of (y m d : Int) : okJb y m d = (decide (1 ≤ d) && decide (d ≤ lenJc y m)) := by
  rw [Bool.eq_iff_iff]; simp only [okJb_iff, okJ, Bool.and_eq_true, decide_eq_true_eq]; unfold lenJc
  split <;> constructor <;> intro hh
  · exact ⟨by omega, by omega⟩
  · obtain ⟨h1, h2, h3, h4⟩ := ‹_ ∧ _ ∧ _ ∧ _›; exact ⟨h1, h2, h3, h4, hh.1, hh.2⟩
  · omega
  · omega
theorem okGb_of (y m d : Int) : okGb y m d = (decide (1 ≤ d) && decide (d ≤ lenGc y m)) := by
  rw [Bool.eq_iff_iff]; simp only [okGb_iff, okG, Bool.and_eq_true, decide_eq_true_eq]; unfold lenGc
  split <;> constructor <;> intro hh
  · exact ⟨by omega, by omega⟩
  · obtain ⟨h1, h2, h3, h4⟩ := ‹_ ∧ _ ∧ _ ∧ _›; exact ⟨h1, h2, h3, h4, hh.1, hh.2⟩
  · omega
  · omega
/-- the results of Day: the day or 0, and the error -/
def dayJn (y m d : Int) : Int := if okJb y m d && inB (dayJ y m d) then dayJ y m d else 0
def dayJe (y m d : Int) : Int := if okJb y m d then if inB (dayJ y m d) then 0 else 2 else 1
def dayGn (y m d : Int) : Int := if okGb y m d then dayG y m d else 0
def dayGe (y m d : Int) : Int := if okGb y m d then 0 else 1
theorem ysJ_bd {y : Int} (h1 : 1 ≤ y) (h2 : y ≤ 10000) : -719164 ≤ ysJ y ∧ ysJ y ≤ 2932971 := by unfold ysJ; omega
theorem ysG_bd {y : Int} (h1 : 1 ≤ y) (h2 : y ≤ 10000) : -719162 ≤ ysG y ∧ ysG y ≤ 2932897 := by unfold ysG; omega
theorem dayG_in {y m d : Int} (h : okG y m d) : -719162 ≤ dayG y m d ∧ dayG y m d < 2932897 := by
  have h0 := dayG_bd h
  have h1 := ysG_bd (y := y) h.1 (by have := h.2.1; omega)
  have h2 := ysG_bd (y := y + 1) (by have := h.1; omega) (by have := h.2.1; omega)
  omega
theorem cumJ_succ' (y : Int) (m : Int) (h1 : 1 ≤ m) (h2 : m ≤ 11) (hy : 1 ≤ y) (hy' : y ≤ 9999) : cumJ y m + lenJc y m = cumJ y (m + 1) := by
  rw [cumJ_succ y h1 h2]; unfold lenJc; rw [if_pos (by omega)]
theorem cumG_succ' (y : Int) (m : Int) (h1 : 1 ≤ m) (h2 : m ≤ 11) (hy : 1 ≤ y) (hy' : y ≤ 9999) : cumG y m + lenGc y m = cumG y (m + 1) := by
  rw [cumG_succ y h1 h2]; unfold lenGc; rw [if_pos (by omega)]
def numJ (n : Int) : Int := if inB n then n + 2440588 else 0
def inE (n : Int) : Int := if inB n then 0 else 2
/-- A number that lies between two values of a function lies between two values side by side. -/
theorem bracket (f : Int → Int) (n : Int) : ∀ (k : Nat) (a : Int), f a ≤ n → n < f (a + k) → ∃ y, a ≤ y ∧ y < a + k ∧ f y ≤ n ∧ n < f (y + 1)
  | 0, a, h1, h2 => by simp at h2; omega
  | k + 1, a, h1, h2 => by
    by_cases h : n < f (a + 1)
    · exact ⟨a, by omega, by omega, h1, h⟩
    · obtain ⟨y, h3, h4, h5⟩ := bracket f n k (a + 1) (by omega) (by rw [show a + 1 + (k : Int) = a + ((k + 1 : Nat) : Int) by omega]; exact h2)
      exact ⟨y, by omega, by omega, h5⟩
theorem exG {n : Int} (h : -719162 ≤ n ∧ n < 2932897) : ∃ p : Int × Int × Int, okG p.1 p.2.1 p.2.2 ∧ dayG p.1 p.2.1 p.2.2 = n := by
  obtain ⟨y, h1, h2, h3, h4⟩ := bracket ysG n 9999 1 (by unfold ysG; omega) (by unfold ysG; omega)
  rw [ysG_succ] at h4
  by_cases h5 : n < ysG y + cumG y 12
  · obtain ⟨m, k1, k2, k3, k4⟩ := bracket (fun m => ysG y + cumG y m) n 11 1 (by simp [cumG]; omega) h5
    rw [cumG_succ y k1 (by omega)] at k4
    exact ⟨(y, m, n - ysG y - cumG y m + 1), show okG y m (n - ysG y - cumG y m + 1) from ⟨h1, by omega, k1, by omega, by omega, by omega⟩, show dayG y m (n - ysG y - cumG y m + 1) = n by unfold dayG; omega⟩
  · have e1 : cumG y 12 = 334 + lg y := by simp [cumG]
    have e2 : lenG y 12 = 31 := by simp [lenG, lenB]
    exact ⟨(y, 12, n - ysG y - cumG y 12 + 1), show okG y 12 (n - ysG y - cumG y 12 + 1) from ⟨h1, by omega, by omega, by omega, by omega, by omega⟩, show dayG y 12 (n - ysG y - cumG y 12 + 1) = n by unfold dayG; omega⟩
theorem exJ {n : Int} (h : -719162 ≤ n ∧ n < 2932897) : ∃ p : Int × Int × Int, okJ p.1 p.2.1 p.2.2 ∧ dayJ p.1 p.2.1 p.2.2 = n := by
  obtain ⟨y, h1, h2, h3, h4⟩ := bracket ysJ n 9999 1 (by unfold ysJ; omega) (by unfold ysJ; omega)
  rw [ysJ_succ] at h4
  by_cases h5 : n < ysJ y + cumJ y 12
  · obtain ⟨m, k1, k2, k3, k4⟩ := bracket (fun m => ysJ y + cumJ y m) n 11 1 (by simp [cumJ]; omega) h5
    rw [cumJ_succ y k1 (by omega)] at k4
    exact ⟨(y, m, n - ysJ y - cumJ y m + 1), show okJ y m (n - ysJ y - cumJ y m + 1) from ⟨h1, by omega, k1, by omega, by omega, by omega⟩, show dayJ y m (n - ysJ y - cumJ y m + 1) = n by unfold dayJ; omega⟩
  · have e1 : cumJ y 12 = 334 + lj y := by simp [cumJ]
    have e2 : lenJ y 12 = 31 := by simp [lenJ, lenB]
    exact ⟨(y, 12, n - ysJ y - cumJ y 12 + 1), show okJ y 12 (n - ysJ y - cumJ y 12 + 1) from ⟨h1, by omega, by omega, by omega, by omega, by omega⟩, show dayJ y 12 (n - ysJ y - cumJ y 12 + 1) = n by unfold dayJ; omega⟩
/-- the Gregorian and the Julian date of a day: year, month, day of the month; zeros outside of the range -/
noncomputable def dtG (n : Int) : Int × Int × Int := if inB n then Classical.epsilon fun p => okG p.1 p.2.1 p.2.2 ∧ dayG p.1 p.2.1 p.2.2 = n else (0, 0, 0)
noncomputable def dtJ (n : Int) : Int × Int × Int := if inB n then Classical.epsilon fun p => okJ p.1 p.2.1 p.2.2 ∧ dayJ p.1 p.2.1 p.2.2 = n else (0, 0, 0)
noncomputable def yG (n : Int) : Int := (dtG n).1
noncomputable def mG (n : Int) : Int := (dtG n).2.1
noncomputable def aG (n : Int) : Int := (dtG n).2.2
noncomputable def yJ (n : Int) : Int := (dtJ n).1
noncomputable def mJ (n : Int) : Int := (dtJ n).2.1
noncomputable def aJ (n : Int) : Int := (dtJ n).2.2
theorem dtG_spec {n : Int} (h : inB n = true) : okG (yG n) (mG n) (aG n) ∧ dayG (yG n) (mG n) (aG n) = n := by
  have := Classical.epsilon_spec (exG (inB_iff.1 h)); unfold yG mG aG dtG; rw [if_pos h]; exact this
theorem dtJ_spec {n : Int} (h : inB n = true) : okJ (yJ n) (mJ n) (aJ n) ∧ dayJ (yJ n) (mJ n) (aJ n) = n := by
  have := Classical.epsilon_spec (exJ (inB_iff.1 h)); unfold yJ mJ aJ dtJ; rw [if_pos h]; exact this
theorem dtG_out {n : Int} (h : inB n = false) : yG n = 0 ∧ mG n = 0 ∧ aG n = 0 := by unfold yG mG aG dtG; simp [h]
theorem dtJ_out {n : Int} (h : inB n = false) : yJ n = 0 ∧ mJ n = 0 ∧ aJ n = 0 := by unfold yJ mJ aJ dtJ; simp [h]
theorem dtG_eq {y m d n : Int} (hi : inB n = true) (h : okG y m d) (e : dayG y m d = n) : y = yG n ∧ m = mG n ∧ d = aG n :=
  dayG_inj h (dtG_spec hi).1 (e.trans (dtG_spec hi).2.symm)
theorem dtJ_eq {y m d n : Int} (hi : inB n = true) (h : okJ y m d) (e : dayJ y m d = n) : y = yJ n ∧ m = mJ n ∧ d = aJ n :=
  dayJ_inj h (dtJ_spec hi).1 (e.trans (dtJ_spec hi).2.symm)
theorem cumJ_all (y m : Int) (h1 : 1 ≤ m) (h2 : m ≤ 12) (hy : 1 ≤ y) (hy' : y ≤ 9999) : cumJ y m + lenJc y m = cumJ y (m + 1) := by
  by_cases h : m ≤ 11
  · exact cumJ_succ' y m h1 h hy hy'
  · obtain rfl : m = 12 := by omega
    unfold lenJc; rw [if_pos (by omega)]; simp [cumJ, lenJ, lenB]; omega
theorem cumJ_13 (y : Int) : cumJ y 13 = 365 + lj y := by simp [cumJ]
theorem lenJ_4 (y m : Int) : lenJ (y + 4) m = lenJ y m := by unfold lenJ lj; split <;> (try rfl); split <;> split <;> omega
theorem dayJ_4 (y m d : Int) : dayJ (y + 4) m d = dayJ y m d + 1461 := by
  have h : lj (y + 4) = lj y := by unfold lj; split <;> split <;> omega
  unfold dayJ cumJ ysJ; rw [h]; omega
/-- four years later: the three ways -/
theorem day_4 {y m d : Int} (hv : okJb y m d = true) :
    (9999 < y + 4 ∧ dayJe (y + 4) m d = 1) ∨ (dayJe (y + 4) m d = 2) ∨ (dayJe (y + 4) m d = 0 ∧ dayJn (y + 4) m d = dayJ y m d + 1461) := by
  obtain ⟨h1, h2, h3, h4, h5, h6⟩ := okJb_iff.1 hv
  by_cases hy : 9999 < y + 4
  · have : okJb (y + 4) m d = false := okJb_no.2 (by unfold okJ; omega)
    exact Or.inl ⟨hy, by simp [dayJe, this]⟩
  · have ho : okJb (y + 4) m d = true := okJb_iff.2 ⟨by omega, by omega, h3, h4, h5, by rw [lenJ_4]; exact h6⟩
    by_cases hj : inB (dayJ (y + 4) m d) = true
    · exact Or.inr (Or.inr ⟨by simp [dayJe, ho, hj], by simp only [dayJn, ho, hj, Bool.and_self, if_true]; exact dayJ_4 y m d⟩)
    · exact Or.inr (Or.inl (by simp [dayJe, ho, hj]))
end Cal
namespace Cal
theorem backJ {n : Int} (h : inB n = true) : dayJn (yJ n) (mJ n) (aJ n) = n ∧ dayJe (yJ n) (mJ n) (aJ n) = 0 := by
  obtain ⟨ho, hd⟩ := dtJ_spec h
  have hb := okJb_iff.2 ho
  constructor
  · unfold dayJn; rw [hb, hd, h]; rfl
  · unfold dayJe; rw [hb, hd, h]; rfl
theorem backG {n : Int} (h : inB n = true) : dayGn (yG n) (mG n) (aG n) = n ∧ dayGe (yG n) (mG n) (aG n) = 0 := by
  obtain ⟨ho, hd⟩ := dtG_spec h
  have hb := okGb_iff.2 ho
  constructor
  · unfold dayGn; rw [hb, hd]; rfl
  · unfold dayGe; rw [hb]; rfl
theorem forthJ {y m d : Int} (h : okJb y m d = true) (hi : inB (dayJ y m d) = true) :
    dayJn y m d = dayJ y m d ∧ dayJe y m d = 0 ∧ yJ (dayJ y m d) = y ∧ mJ (dayJ y m d) = m ∧ aJ (dayJ y m d) = d ∧ inE (dayJ y m d) = 0 := by
  obtain ⟨e1, e2, e3⟩ := dtJ_eq hi (okJb_iff.1 h) rfl
  exact ⟨by simp [dayJn, h, hi], by simp [dayJe, h, hi], e1.symm, e2.symm, e3.symm, by simp [inE, hi]⟩
theorem dayG_inB {y m d : Int} (h : okGb y m d = true) : inB (dayG y m d) = true := inB_iff.2 (dayG_in (okGb_iff.1 h))
theorem forthG {y m d : Int} (h : okGb y m d = true) :
    dayGn y m d = dayG y m d ∧ dayGe y m d = 0 ∧ yG (dayG y m d) = y ∧ mG (dayG y m d) = m ∧ aG (dayG y m d) = d ∧ inE (dayG y m d) = 0 := by
  have hi := dayG_inB h
  obtain ⟨e1, e2, e3⟩ := dtG_eq hi (okGb_iff.1 h) rfl
  exact ⟨by simp [dayGn, h], by simp [dayGe, h], e1.symm, e2.symm, e3.symm, by simp [inE, hi]⟩
theorem dayJe_bad {y m d : Int} (h : ¬ (okJb y m d = true ∧ inB (dayJ y m d) = true)) : (dayJe y m d != 0) = true := by
  unfold dayJe; split
  · split
    · exact absurd ⟨‹_›, ‹_›⟩ h
    · rfl
  · rfl
theorem dayGe_bad {y m d : Int} (h : okGb y m d = false) : dayGe y m d = 1 ∧ dayGn y m d = 0 := by simp [dayGe, dayGn, h]
theorem lenJc_eq {y m d : Int} (h : okJ y m d) : lenJc y m = lenJ y m := by
  obtain ⟨h1, h2, h3, h4, _, _⟩ := h; unfold lenJc; rw [if_pos ⟨h1, h2, h3, h4⟩]
theorem stepJ {n : Int} (h : inB n = true) (h' : inB (n + 1) = true) :
    (aJ n < lenJc (yJ n) (mJ n) → yJ (n + 1) = yJ n ∧ mJ (n + 1) = mJ n ∧ aJ (n + 1) = aJ n + 1) ∧
    (¬ aJ n < lenJc (yJ n) (mJ n) → mJ n < 12 → yJ (n + 1) = yJ n ∧ mJ (n + 1) = mJ n + 1 ∧ aJ (n + 1) = 1) ∧
    (¬ aJ n < lenJc (yJ n) (mJ n) → ¬ mJ n < 12 → yJ (n + 1) = yJ n + 1 ∧ mJ (n + 1) = 1 ∧ aJ (n + 1) = 1) := by
  obtain ⟨ho, hd⟩ := dtJ_spec h
  rw [lenJc_eq ho]
  obtain ⟨h1, h2, h3, h4, h5, h6⟩ := ho
  generalize yJ n = y at *; generalize mJ n = m at *; generalize aJ n = a at *
  refine ⟨fun k => ?_, fun k k' => ?_, fun k k' => ?_⟩
  · obtain ⟨e1, e2, e3⟩ := dtJ_eq h' (show okJ y m (a + 1) from ⟨h1, h2, h3, h4, by omega, by omega⟩) (by unfold dayJ at *; omega)
    exact ⟨e1.symm, e2.symm, e3.symm⟩
  · have hl := lenJ_bd y (m + 1)
    have hc := cumJ_succ y h3 (by omega)
    obtain ⟨e1, e2, e3⟩ := dtJ_eq h' (show okJ y (m + 1) 1 from ⟨h1, h2, by omega, by omega, by omega, by omega⟩) (by unfold dayJ at *; omega)
    exact ⟨e1.symm, e2.symm, e3.symm⟩
  · obtain rfl : m = 12 := by omega
    have hl := lenJ_bd (y + 1) 1
    have e1 : cumJ y 12 = 334 + lj y := by simp [cumJ]
    have e2 : lenJ y 12 = 31 := by simp [lenJ, lenB]
    have e3 : cumJ (y + 1) 1 = 0 := by simp [cumJ]
    have e4 := ysJ_succ y
    have hd' : dayJ (y + 1) 1 1 = n + 1 := by unfold dayJ at *; omega
    have hy : y + 1 ≤ 9999 := by
      have := (inB_iff.1 h').2
      rcases (show y + 1 ≤ 9999 ∨ y = 9999 by omega) with q | q
      · exact q
      · subst q
        have e5 : ysJ (9999 + 1) = 2932970 := by decide
        unfold dayJ at hd'; omega
    obtain ⟨e1, e2, e3⟩ := dtJ_eq h' (show okJ (y + 1) 1 1 from ⟨by omega, hy, by omega, by omega, by omega, by omega⟩) hd'
    exact ⟨e1.symm, e2.symm, e3.symm⟩
theorem lenGc_eq {y m d : Int} (h : okG y m d) : lenGc y m = lenG y m := by
  obtain ⟨h1, h2, h3, h4, _, _⟩ := h; unfold lenGc; rw [if_pos ⟨h1, h2, h3, h4⟩]
theorem stepG {n : Int} (h : inB n = true) (h' : inB (n + 1) = true) :
    (aG n < lenGc (yG n) (mG n) → yG (n + 1) = yG n ∧ mG (n + 1) = mG n ∧ aG (n + 1) = aG n + 1) ∧
    (¬ aG n < lenGc (yG n) (mG n) → mG n < 12 → yG (n + 1) = yG n ∧ mG (n + 1) = mG n + 1 ∧ aG (n + 1) = 1) ∧
    (¬ aG n < lenGc (yG n) (mG n) → ¬ mG n < 12 → yG (n + 1) = yG n + 1 ∧ mG (n + 1) = 1 ∧ aG (n + 1) = 1) := by
  obtain ⟨ho, hd⟩ := dtG_spec h
  rw [lenGc_eq ho]
  obtain ⟨h1, h2, h3, h4, h5, h6⟩ := ho
  generalize yG n = y at *; generalize mG n = m at *; generalize aG n = a at *
  refine ⟨fun k => ?_, fun k k' => ?_, fun k k' => ?_⟩
  · obtain ⟨e1, e2, e3⟩ := dtG_eq h' (show okG y m (a + 1) from ⟨h1, h2, h3, h4, by omega, by omega⟩) (by unfold dayG at *; omega)
    exact ⟨e1.symm, e2.symm, e3.symm⟩
  · have hl := lenG_bd y (m + 1)
    have hc := cumG_succ y h3 (by omega)
    obtain ⟨e1, e2, e3⟩ := dtG_eq h' (show okG y (m + 1) 1 from ⟨h1, h2, by omega, by omega, by omega, by omega⟩) (by unfold dayG at *; omega)
    exact ⟨e1.symm, e2.symm, e3.symm⟩
  · obtain rfl : m = 12 := by omega
    have hl := lenG_bd (y + 1) 1
    have e1 : cumG y 12 = 334 + lg y := by simp [cumG]
    have e2 : lenG y 12 = 31 := by simp [lenG, lenB]
    have e3 : cumG (y + 1) 1 = 0 := by simp [cumG]
    have e4 := ysG_succ y
    have hd' : dayG (y + 1) 1 1 = n + 1 := by unfold dayG at *; omega
    have hy : y + 1 ≤ 9999 := by
      have := (inB_iff.1 h').2
      rcases (show y + 1 ≤ 9999 ∨ y = 9999 by omega) with q | q
      · exact q
      · subst q
        have e5 : ysG (9999 + 1) = 2932897 := by decide
        unfold dayG at hd'; omega
    obtain ⟨e1, e2, e3⟩ := dtG_eq h' (show okG (y + 1) 1 1 from ⟨by omega, hy, by omega, by omega, by omega, by omega⟩) hd'
    exact ⟨e1.symm, e2.symm, e3.symm⟩
end Cal
namespace Isl
open Cal (bracket)
def leapsL (k : Int) : List Int :=
  if k = 1 then [2, 5, 7, 10, 13, 15, 18, 21, 24, 26, 29] else if k = 2 then [2, 5, 7, 10, 13, 16, 18, 21, 24, 26, 29]
  else if k = 3 then [2, 5, 8, 10, 13, 16, 19, 21, 24, 27, 29] else [2, 5, 8, 11, 13, 16, 19, 21, 24, 27, 30]
def kB (k : Int) : Bool := decide (1 ≤ k ∧ k ≤ 4)
def yB (y : Int) : Bool := decide (1 ≤ y ∧ y ≤ 9600)
def place (y : Int) : Int := (y - 1) % 30 + 1
def cnt (l : List Int) (p : Int) : Int := (l.filter fun x => decide (x < p)).length
def lp (k y : Int) : Bool := (leapsL k).contains (place y)
def leap (k y : Int) : Bool := kB k && (yB y && lp k y)
def first (k y : Int) : Int := -492148 + (y - 1) / 30 * 10631 + ((y - 1) % 30) * 354 + cnt (leapsL k) (place y)
def ylen (k y : Int) : Int := if lp k y then 355 else 354
def before (m : Int) : Int := 29 * (m - 1) + m / 2
def len (k y m : Int) : Int := if m % 2 = 1 then 30 else if m = 12 ∧ lp k y = true then 30 else 29
def lenc (k y m : Int) : Int := if kB k = true ∧ yB y = true ∧ 1 ≤ m ∧ m ≤ 12 then len k y m else 0
def ylenc (k y : Int) : Int := if kB k = true ∧ yB y = true then ylen k y else 0
def day (k y m d : Int) : Int := first k y + before m + d - 1
def ok (k y m d : Int) : Prop := kB k = true ∧ yB y = true ∧ 1 ≤ m ∧ m ≤ 12 ∧ 1 ≤ d ∧ d ≤ len k y m
theorem kB_iff {k : Int} : kB k = true ↔ 1 ≤ k ∧ k ≤ 4 := by unfold kB; exact decide_eq_true_iff
theorem yB_iff {y : Int} : yB y = true ↔ 1 ≤ y ∧ y ≤ 9600 := by unfold yB; exact decide_eq_true_iff
theorem kinds {k : Int} (h : kB k = true) : k = 1 ∨ k = 2 ∨ k = 3 ∨ k = 4 := by have := kB_iff.1 h; omega
theorem cnt_bd (k p : Int) : 0 ≤ cnt (leapsL k) p ∧ cnt (leapsL k) p ≤ 11 := by
  unfold cnt
  have h := List.length_filter_le (fun x => decide (x < p)) (leapsL k)
  have h2 : (leapsL k).length = 11 := by unfold leapsL; split <;> (try rfl); split <;> (try rfl); split <;> rfl
  omega
theorem table : ∀ k ∈ [(1 : Int), 2, 3, 4], cnt (leapsL k) 1 = 0 ∧ (∀ r ∈ List.range 29, cnt (leapsL k) ((r : Int) + 2) = cnt (leapsL k) ((r : Int) + 1) + (if (leapsL k).contains ((r : Int) + 1) then 1 else 0)) ∧ cnt (leapsL k) 30 + (if (leapsL k).contains 30 then 1 else 0) = 11 := by decide +kernel
theorem cnt_1 {k : Int} (h : kB k = true) : cnt (leapsL k) 1 = 0 := by
  rcases kinds h with rfl | rfl | rfl | rfl <;> rfl
theorem ylen_bd (k y : Int) : 354 ≤ ylen k y ∧ ylen k y ≤ 355 := by unfold ylen; split <;> omega
theorem first_succ {k : Int} (hk : kB k = true) (y : Int) : first k (y + 1) = first k y + ylen k y := by
  have hm : k ∈ [(1 : Int), 2, 3, 4] := by rcases kinds hk with rfl | rfl | rfl | rfl <;> simp
  obtain ⟨t1, t2, t3⟩ := table k hm
  unfold first ylen lp place
  by_cases h : (y - 1) % 30 = 29
  · rw [h, show (y + 1 - 1) % 30 = 0 by omega, show (y + 1 - 1) / 30 = (y - 1) / 30 + 1 by omega]
    simp only [show (0 : Int) + 1 = 1 by rfl, show (29 : Int) + 1 = 30 by rfl, t1]
    split at t3 <;> rename_i q <;> simp only [q] <;> simp <;> omega
  · have hr := t2 ((y - 1) % 30).toNat (by simp; omega)
    rw [show (((y - 1) % 30).toNat : Int) = (y - 1) % 30 by omega] at hr
    rw [show (y + 1 - 1) % 30 = (y - 1) % 30 + 1 by omega, show (y + 1 - 1) / 30 = (y - 1) / 30 by omega]
    rw [show (y - 1) % 30 + 1 + 1 = (y - 1) % 30 + 2 by omega, hr]
    split <;> omega
theorem first_lt {k : Int} (hk : kB k = true) : ∀ (n : Nat) (y : Int), first k (y + 1) ≤ first k (y + 1 + n)
  | 0, y => by simp
  | n + 1, y => by
    have h := first_lt hk n y
    have h2 := first_succ hk (y + 1 + n)
    have h3 := ylen_bd k (y + 1 + n)
    rw [show y + 1 + ((n + 1 : Nat) : Int) = y + 1 + n + 1 by omega]; omega
theorem first_mono {k a b : Int} (hk : kB k = true) (h : a < b) : first k (a + 1) ≤ first k b := by
  have := first_lt hk (b - a - 1).toNat a
  rw [show a + 1 + (((b - a - 1).toNat : Nat) : Int) = b by omega] at this
  exact this
theorem first_bd {k y : Int} (_hk : kB k = true) (h1 : 1 ≤ y) (h2 : y ≤ 9601) : -492148 ≤ first k y ∧ first k y ≤ 2909783 := by
  have := cnt_bd k (place y); unfold first; omega
theorem first_1 {k : Int} (hk : kB k = true) : first k 1 = -492148 := by have := cnt_1 hk; unfold first place; simp [this]
theorem len_bd (k y m : Int) : 29 ≤ len k y m ∧ len k y m ≤ 30 := by unfold len; split <;> (try split) <;> omega
theorem lenc_bd (k y m : Int) : 0 ≤ lenc k y m ∧ lenc k y m ≤ 30 := by have := len_bd k y m; unfold lenc; split <;> omega
theorem before_succ (k y : Int) {m : Int} (_h1 : 1 ≤ m) (h2 : m ≤ 11) : before (m + 1) = before m + len k y m := by
  unfold before len; split <;> (try split) <;> omega
theorem before_12 (k y : Int) : before 12 + len k y 12 = ylen k y := by unfold before len ylen; split <;> (try split) <;> simp_all
theorem before_lt (k y : Int) {m n : Int} (_h1 : 1 ≤ m) (h : m < n) (_h2 : n ≤ 12) : before m + len k y m ≤ before n := by
  unfold before len; split <;> (try split) <;> omega
theorem before_bd (k y : Int) {m : Int} (h1 : 1 ≤ m) (h2 : m ≤ 12) : 0 ≤ before m ∧ before m + len k y m ≤ ylen k y := by
  have h12 := before_12 k y
  have := len_bd k y 12
  by_cases h : m = 12
  · subst h; unfold before at *; omega
  · have := before_lt k y h1 (show m < 12 by omega) (by omega)
    unfold before at *; omega
theorem day_bd {k y m d : Int} (h : ok k y m d) : first k y ≤ day k y m d ∧ day k y m d < first k (y + 1) := by
  obtain ⟨hk, hy, h1, h2, h3, h4⟩ := h
  have := before_bd k y h1 h2; have := first_succ hk y
  unfold day; omega
theorem day_inj {k y m d y' m' d' : Int} (h : ok k y m d) (h' : ok k y' m' d') (e : day k y m d = day k y' m' d') : y = y' ∧ m = m' ∧ d = d' := by
  have b := day_bd h; have b' := day_bd h'
  have hk := h.1
  have hy : y = y' := by
    rcases Int.lt_trichotomy y y' with q | q | q
    · have := first_mono hk q; omega
    · exact q
    · have := first_mono hk q; omega
  subst hy
  obtain ⟨_, _, h1, h2, h3, h4⟩ := h; obtain ⟨_, _, k1, k2, k3, k4⟩ := h'
  unfold day at e
  have hm : m = m' := by
    rcases Int.lt_trichotomy m m' with q | q | q
    · have := before_lt k y h1 q k2; omega
    · exact q
    · have := before_lt k y k1 q h2; omega
  subst hm
  exact ⟨rfl, rfl, by omega⟩
/-- whether a number is a day of the calendar -/
def rB (k n : Int) : Bool := decide (-492148 ≤ n ∧ n < first k 9601)
theorem rB_iff {k n : Int} : rB k n = true ↔ -492148 ≤ n ∧ n < first k 9601 := by unfold rB; exact decide_eq_true_iff
theorem ex {k n : Int} (hk : kB k = true) (h : -492148 ≤ n ∧ n < first k 9601) : ∃ p : Int × Int × Int, ok k p.1 p.2.1 p.2.2 ∧ day k p.1 p.2.1 p.2.2 = n := by
  obtain ⟨y, h1, h2, h3, h4⟩ := bracket (first k) n 9600 1 (by rw [first_1 hk]; exact h.1) h.2
  rw [first_succ hk] at h4
  have hy : yB y = true := yB_iff.2 ⟨h1, by omega⟩
  have h12 := before_12 k y
  by_cases h5 : n < first k y + before 12
  · obtain ⟨m, k1, k2, k3, k4⟩ := bracket (fun m => first k y + before m) n 11 1 (by simp [before]; omega) h5
    rw [before_succ k y k1 (by omega)] at k4
    exact ⟨(y, m, n - first k y - before m + 1), show ok k y m (n - first k y - before m + 1) from ⟨hk, hy, k1, by omega, by omega, by omega⟩, show day k y m (n - first k y - before m + 1) = n by unfold day; omega⟩
  · exact ⟨(y, 12, n - first k y - before 12 + 1), show ok k y 12 (n - first k y - before 12 + 1) from ⟨hk, hy, by omega, by omega, by omega, by omega⟩, show day k y 12 (n - first k y - before 12 + 1) = n by unfold day; omega⟩
noncomputable def dt (k n : Int) : Int × Int × Int := if kB k && rB k n then Classical.epsilon fun p => ok k p.1 p.2.1 p.2.2 ∧ day k p.1 p.2.1 p.2.2 = n else (0, 0, 0)
noncomputable def yI (k n : Int) : Int := (dt k n).1
noncomputable def mI (k n : Int) : Int := (dt k n).2.1
noncomputable def aI (k n : Int) : Int := (dt k n).2.2
def dtE (k n : Int) : Int := if kB k then if rB k n then 0 else 2 else 1
theorem dt_spec {k n : Int} (hk : kB k = true) (h : rB k n = true) : ok k (yI k n) (mI k n) (aI k n) ∧ day k (yI k n) (mI k n) (aI k n) = n := by
  have := Classical.epsilon_spec (ex hk (rB_iff.1 h)); unfold yI mI aI dt; rw [if_pos (by simp [hk, h])]; exact this
theorem dt_out {k n : Int} (h : (kB k && rB k n) = false) : yI k n = 0 ∧ mI k n = 0 ∧ aI k n = 0 := by unfold yI mI aI dt; rw [if_neg (by simp [h])]; exact ⟨rfl, rfl, rfl⟩
theorem dt_eq {k y m d n : Int} (hr : rB k n = true) (h : ok k y m d) (e : day k y m d = n) : y = yI k n ∧ m = mI k n ∧ d = aI k n :=
  day_inj h (dt_spec h.1 hr).1 (e.trans (dt_spec h.1 hr).2.symm)
def okb (k y m d : Int) : Bool := decide (1 ≤ d) && decide (d ≤ lenc k y m)
theorem okb_iff {k y m d : Int} : okb k y m d = true ↔ ok k y m d := by
  unfold okb ok; rw [Bool.and_eq_true, decide_eq_true_eq, decide_eq_true_eq]
  unfold lenc; split
  · rename_i h; obtain ⟨h1, h2, h3, h4⟩ := h; exact ⟨fun h => ⟨h1, h2, h3, h4, h.1, h.2⟩, fun h => ⟨h.2.2.2.2.1, h.2.2.2.2.2⟩⟩
  · rename_i h; exact ⟨fun h => by omega, fun k => absurd ⟨k.1, k.2.1, k.2.2.1, k.2.2.2.1⟩ h⟩
def dayN (k y m d : Int) : Int := if okb k y m d then day k y m d else 0
def dayE (k y m d : Int) : Int := if okb k y m d then 0 else 1
def newN (k y : Int) : Int := if kB k && decide (1 ≤ y ∧ y ≤ 9601) then first k y else 0
def newE (k y : Int) : Int := if kB k then if decide (1 ≤ y ∧ y ≤ 9601) then 0 else 2 else 1
theorem day_in {k y m d : Int} (h : ok k y m d) : rB k (day k y m d) = true := by
  have b := day_bd h
  have hy := yB_iff.1 h.2.1
  have h1 := first_bd h.1 hy.1 (by omega)
  have h2 : first k (y + 1) ≤ first k 9601 := by
    have := first_mono h.1 (show y < 9601 by omega); exact this
  exact rB_iff.2 (by omega)
end Isl
namespace Heb
open Cal (bracket)
def yB (y : Int) : Bool := decide (1 ≤ y ∧ y ≤ 20000)
theorem yB_iff {y : Int} : yB y = true ↔ 1 ≤ y ∧ y ≤ 20000 := by unfold yB; exact decide_eq_true_iff
def lp (y : Int) : Bool := decide ((7 * y + 1) % 19 < 7)
theorem lp_iff {y : Int} : lp y = true ↔ (7 * y + 1) % 19 < 7 := by unfold lp; exact decide_eq_true_iff
def leap (y : Int) : Bool := yB y && lp y
def mths (y : Int) : Int := if lp y then 13 else 12
def mthc (y : Int) : Int := if yB y then mths y else 0
def bf (y : Int) : Int := (235 * y - 234) / 19
theorem bf_succ (y : Int) : bf (y + 1) = bf y + mths y := by
  have h1 := Int.mul_ediv_add_emod (7 * y + 1) 19
  have h2 := Int.emod_nonneg (7 * y + 1) (b := 19) (by omega)
  have h3 := Int.emod_lt_of_pos (7 * y + 1) (b := 19) (by omega)
  unfold bf mths lp
  generalize (7 * y + 1) / 19 = q at *
  generalize (7 * y + 1) % 19 = r at *
  have e1 : 235 * (y + 1) - 234 = 19 * (12 * y + q) + r := by omega
  have e2 : 235 * y - 234 = 19 * (12 * y + q - 13) + (r + 12) := by omega
  clear h1
  rw [e1, e2, Int.mul_add_ediv_left _ _ (by omega), Int.mul_add_ediv_left _ _ (by omega)]
  clear e1 e2
  generalize 12 * y = z
  split <;> rename_i h <;> simp at h <;> omega
/-- the days of the conjunction, half a day later -/
def dd (y : Int) : Int := 29 * bf y + (12084 + 13753 * bf y) / 25920
def el (y : Int) : Int := if 3 * (dd y + 1) % 7 < 3 then dd y + 1 else dd y
def bg (y : Int) : Int := if el (y + 1) - el y = 356 then -2092590 + el y + 2 else if el y - el (y - 1) = 382 then -2092590 + el y + 1 else -2092590 + el y
def ylen (y : Int) : Int := bg (y + 1) - bg y
def ylenc (y : Int) : Int := if yB y then ylen y else 0
/-- the first day of the month 7's conjunction -/
def mo (y : Int) : Int := (765433 * bf y - 876) / 25920
def elmN (m : Nat) : Nat :=
  (fun d => cond (Nat.ble (Nat.mod (Nat.mul 3 (Nat.succ d)) 7) 2) (Nat.succ d) d) (Nat.add (Nat.mul 29 m) (Nat.div (Nat.add 12084 (Nat.mul 13753 m)) 25920))
def bfN (y : Nat) : Nat := Nat.div (Nat.sub (Nat.mul 235 y) 234) 19
def elN (y : Nat) : Nat := elmN (bfN y)
def bgN (a b c : Nat) : Nat := cond (Nat.beq (Nat.sub c b) 356) (Nat.add b 2) (cond (Nat.beq (Nat.sub b a) 382) (Nat.succ b) b)
def okL (l : Bool) (n : Nat) : Bool := cond l (Nat.beq n 383 || (Nat.beq n 384 || Nat.beq n 385)) (Nat.beq n 353 || (Nat.beq n 354 || Nat.beq n 355))
def okW (w : Nat) : Bool := not (Nat.beq w 2) && (not (Nat.beq w 4) && not (Nat.beq w 6))
def okM (p m : Nat) : Bool := (fun o => Nat.ble o p && Nat.ble p (Nat.add o 2)) (Nat.div (Nat.sub (Nat.mul 765433 m) 876) 25920)
def okC (p y : Nat) : Bool := (fun n => Nat.ble (Nat.add p 6938) n && Nat.ble n (Nat.add p 6942)) (bgN (elN (Nat.add y 18)) (elN (Nat.add y 19)) (elN (Nat.add y 20)))
def okB (p y : Nat) : Bool := Nat.ble (Nat.add p 366) (Nat.mul 366 y) && Nat.ble (Nat.mul 365 y) (Nat.add p 400)
def chkN (y : Nat) : Bool :=
  (fun a b c d => (fun p n => Nat.ble p n && okL (Nat.ble (Nat.mod (Nat.succ (Nat.mul 7 y)) 19) 6) (Nat.sub n p) && okW (Nat.mod p 7) && okM p (bfN y) && okC p y && okB p y) (bgN a b c) (bgN b c d))
    (elN (Nat.pred y)) (elN y) (elN (Nat.succ y)) (elN (Nat.succ (Nat.succ y)))
def all2 (f : Nat → Bool) : Nat → Nat → Bool
  | 0, s => f s
  | n + 1, s => all2 f n s && all2 f n (Nat.add s (Nat.pow 2 n))
theorem all2_of (f : Nat → Bool) : ∀ (n s : Nat), all2 f n s = true → ∀ i : Nat, s ≤ i → i < s + 2 ^ n → f i = true
  | 0, s, h, i, h1, h2 => by
    obtain rfl : i = s := by simp at h2; omega
    exact h
  | n + 1, s, h, i, h1, h2 => by
    simp only [all2, Bool.and_eq_true] at h
    have e : (2 : Nat) ^ (n + 1) = 2 ^ n + 2 ^ n := by rw [Nat.pow_succ]; omega
    by_cases q : i < s + 2 ^ n
    · exact all2_of f n s h.1 i h1 q
    · exact all2_of f n (s + 2 ^ n) h.2 i (show s + 2 ^ n ≤ i by omega) (show i < s + 2 ^ n + 2 ^ n by omega)
theorem chk_all : all2 chkN 14 2 = true ∧ all2 chkN 12 16386 = true := by decide +kernel
theorem bfN_eq {n : Nat} (h : 1 ≤ n) : bf n = (bfN n : Int) := by
  show (235 * (n : Int) - 234) / 19 = (((235 * n - 234) / 19 : Nat) : Int)
  omega
theorem elmN_eq (m : Nat) (y : Int) (h : bf y = m) : el y = (elmN m : Int) := by
  obtain ⟨d, hd⟩ : ∃ d, d = 29 * m + (12084 + 13753 * m) / 25920 := ⟨_, rfl⟩
  have e : elmN m = cond (Nat.ble (3 * (d + 1) % 7) 2) (d + 1) d := by rw [hd]; rfl
  have e2 : dd y = d := by
    unfold dd; rw [h, hd]
    have : (12084 + 13753 * (m : Int)) = ((12084 + 13753 * m : Nat) : Int) := by omega
    rw [this]; omega
  rw [e]; unfold el; rw [e2]; clear hd e e2
  have e3 : 3 * ((d : Int) + 1) % 7 = ((3 * (d + 1) % 7 : Nat) : Int) := by simp
  rw [e3]
  by_cases q : 3 * (d + 1) % 7 ≤ 2
  · rw [Nat.ble_eq_true_of_le q, if_pos (by omega)]; simp only [cond_true]; omega
  · rw [show Nat.ble (3 * (d + 1) % 7) 2 = false by rw [Bool.eq_false_iff]; exact fun k => q (Nat.le_of_ble_eq_true k), if_neg (by omega)]; simp only [cond_false]
theorem elN_eq {n : Nat} (h : 1 ≤ n) : el n = (elN n : Int) := elmN_eq _ _ (bfN_eq h)
theorem elm_mono (m k : Nat) (h : 1 ≤ k) : elmN m < elmN (m + k) := by
  show (cond (Nat.ble (3 * (29 * m + (12084 + 13753 * m) / 25920 + 1) % 7) 2) (29 * m + (12084 + 13753 * m) / 25920 + 1) (29 * m + (12084 + 13753 * m) / 25920) : Nat) < (cond (Nat.ble (3 * (29 * (m + k) + (12084 + 13753 * (m + k)) / 25920 + 1) % 7) 2) (29 * (m + k) + (12084 + 13753 * (m + k)) / 25920 + 1) (29 * (m + k) + (12084 + 13753 * (m + k)) / 25920) : Nat)
  cases Nat.ble (3 * (29 * m + (12084 + 13753 * m) / 25920 + 1) % 7) 2 <;> cases Nat.ble (3 * (29 * (m + k) + (12084 + 13753 * (m + k)) / 25920 + 1) % 7) 2 <;> simp only [cond_true, cond_false] <;> omega
theorem elN_lt {n : Nat} (h : 1 ≤ n) : elN n < elN (n + 1) := by
  have hb := bf_succ n
  have h1 := bfN_eq h; have h2 := bfN_eq (show 1 ≤ n + 1 by omega)
  have h3 : 12 ≤ mths n := by unfold mths; split <;> omega
  have e : bfN (n + 1) = bfN n + (bfN (n + 1) - bfN n) := by
    have : ((n + 1 : Nat) : Int) = n + 1 := by omega
    rw [this] at h2; omega
  have := elm_mono (bfN n) (bfN (n + 1) - bfN n) (by
    have : ((n + 1 : Nat) : Int) = n + 1 := by omega
    rw [this] at h2; omega)
  rw [← e] at this; exact this
theorem bgN_def (a b c : Nat) : bgN a b c = cond (Nat.beq (c - b) 356) (b + 2) (cond (Nat.beq (b - a) 382) (b + 1) b) := rfl
theorem bga (a b c : Nat) (y : Int) (l0 : a < b) (l1 : b < c) (h0 : el (y - 1) = a) (h1 : el y = b) (h2 : el (y + 1) = c) : bg y + 2092590 = (bgN a b c : Int) := by
  rw [bgN_def]
  unfold bg
  rw [h0, h1, h2]
  clear h0 h1 h2
  by_cases q1 : c - b = 356
  · rw [q1, if_pos (by omega), Nat.beq_refl, cond_true]; omega
  · rw [if_neg (by omega), show Nat.beq (c - b) 356 = false by rw [Bool.eq_false_iff]; exact fun e => q1 (Nat.eq_of_beq_eq_true e), cond_false]
    by_cases q2 : b - a = 382
    · rw [q2, if_pos (by omega), Nat.beq_refl, cond_true]; omega
    · rw [if_neg (by omega), show Nat.beq (b - a) 382 = false by rw [Bool.eq_false_iff]; exact fun e => q2 (Nat.eq_of_beq_eq_true e), cond_false]; omega
theorem pre1 (k : Nat) : ((k + 1 : Nat) : Int) - 1 = (k : Nat) := by omega
theorem suc1 (k : Nat) : ((k + 1 : Nat) : Int) + 1 = ((k + 1 + 1 : Nat) : Int) := rfl
theorem bgN_eq (k : Nat) (h : 1 ≤ k) : bg ((k + 1 : Nat) : Int) + 2092590 = (bgN (elN k) (elN (k + 1)) (elN (k + 1 + 1)) : Int) := by
  have h0 := elN_eq h; have h1 := elN_eq (show 1 ≤ k + 1 by omega); have h2 := elN_eq (show 1 ≤ k + 1 + 1 by omega)
  rw [← pre1 k] at h0; rw [← suc1 k] at h2
  exact bga _ _ _ _ (elN_lt h) (elN_lt (by omega)) h0 h1 h2
/-- what the kernel has seen of each year -/
structure Seen (y : Int) : Prop where
  len : if lp y then ylen y = 383 ∨ ylen y = 384 ∨ ylen y = 385 else ylen y = 353 ∨ ylen y = 354 ∨ ylen y = 355
  wk : (bg y + 2092590) % 7 ≠ 2 ∧ (bg y + 2092590) % 7 ≠ 4 ∧ (bg y + 2092590) % 7 ≠ 6
  mol : mo y ≤ bg y + 2092590 ∧ bg y + 2092590 ≤ mo y + 2
  cyc : 6938 ≤ bg (y + 19) - bg y ∧ bg (y + 19) - bg y ≤ 6942
  up : bg y ≤ -2092590 + 366 * (y - 1)
  lo : -2092990 + 365 * y ≤ bg y
theorem seen1 : Seen 1 := by
  refine ⟨?_, ?_, ?_, ?_, ?_, ?_⟩ <;> decide +kernel
theorem or3 {n a b c : Nat} (h : (Nat.beq n a || (Nat.beq n b || Nat.beq n c)) = true) : n = a ∨ n = b ∨ n = c := by
  simp only [Bool.or_eq_true] at h
  rcases h with h | h | h
  · exact Or.inl (Nat.eq_of_beq_eq_true h)
  · exact Or.inr (Or.inl (Nat.eq_of_beq_eq_true h))
  · exact Or.inr (Or.inr (Nat.eq_of_beq_eq_true h))
theorem chkN_def {k : Nat} (h : chkN (k + 1) = true) : Nat.ble (bgN (elN k) (elN (k + 1)) (elN (k + 1 + 1))) (bgN (elN (k + 1)) (elN (k + 1 + 1)) (elN (k + 1 + 1 + 1))) = true ∧ okL (Nat.ble ((7 * (k + 1) + 1) % 19) 6) (bgN (elN (k + 1)) (elN (k + 1 + 1)) (elN (k + 1 + 1 + 1)) - bgN (elN k) (elN (k + 1)) (elN (k + 1 + 1))) = true ∧
    okW (bgN (elN k) (elN (k + 1)) (elN (k + 1 + 1)) % 7) = true ∧ okM (bgN (elN k) (elN (k + 1)) (elN (k + 1 + 1))) (bfN (k + 1)) = true ∧ okC (bgN (elN k) (elN (k + 1)) (elN (k + 1 + 1))) (k + 1) = true ∧ okB (bgN (elN k) (elN (k + 1)) (elN (k + 1 + 1))) (k + 1) = true := by
  unfold chkN at h
  simp only [Bool.and_eq_true, and_assoc] at h
  exact h
theorem okC_def {p y : Nat} (h : okC p y = true) : p + 6938 ≤ bgN (elN (y + 18)) (elN (y + 18 + 1)) (elN (y + 18 + 1 + 1)) ∧ bgN (elN (y + 18)) (elN (y + 18 + 1)) (elN (y + 18 + 1 + 1)) ≤ p + 6942 := by
  unfold okC at h
  rw [Bool.and_eq_true] at h
  exact ⟨Nat.le_of_ble_eq_true h.1, Nat.le_of_ble_eq_true h.2⟩
theorem okB_def {p y : Nat} (h : okB p y = true) : p + 366 ≤ 366 * y ∧ 365 * y ≤ p + 400 := by
  unfold okB at h
  rw [Bool.and_eq_true] at h
  exact ⟨Nat.le_of_ble_eq_true h.1, Nat.le_of_ble_eq_true h.2⟩
theorem okM_def {p m : Nat} (h : okM p m = true) : (765433 * m - 876) / 25920 ≤ p ∧ p ≤ (765433 * m - 876) / 25920 + 2 := by
  unfold okM at h
  rw [Bool.and_eq_true] at h
  exact ⟨Nat.le_of_ble_eq_true h.1, Nat.le_of_ble_eq_true h.2⟩
theorem okW_def {w : Nat} (h : okW w = true) : w ≠ 2 ∧ w ≠ 4 ∧ w ≠ 6 := by
  simp only [okW, Bool.and_eq_true, Bool.not_eq_true'] at h
  exact ⟨Nat.ne_of_beq_eq_false h.1, Nat.ne_of_beq_eq_false h.2.1, Nat.ne_of_beq_eq_false h.2.2⟩
theorem okL_def {n k : Nat} (h : okL (Nat.ble k 6) n = true) : (k ≤ 6 ∧ (n = 383 ∨ n = 384 ∨ n = 385)) ∨ (¬ k ≤ 6 ∧ (n = 353 ∨ n = 354 ∨ n = 355)) := by
  by_cases q : k ≤ 6
  · rw [Nat.ble_eq_true_of_le q] at h; exact Or.inl ⟨q, or3 h⟩
  · rw [show Nat.ble k 6 = false by rw [Bool.eq_false_iff]; exact fun e => q (Nat.le_of_ble_eq_true e)] at h; exact Or.inr ⟨q, or3 h⟩
theorem bf_pos {n : Nat} (h : 2 ≤ n) : 1 ≤ bfN n := by show 1 ≤ (235 * n - 234) / 19; omega
theorem seen_num (p q r m n : Nat) (y : Int) (hy : y = n) (_hn : 2 ≤ n) (g0 : bg y + 2092590 = p) (g1 : bg (y + 1) + 2092590 = q) (g19 : bg (y + 19) + 2092590 = r) (hbf : bf y = m) (hm : 1 ≤ m) (c0 : p ≤ q)
    (c1 : ((7 * n + 1) % 19 ≤ 6 ∧ (q - p = 383 ∨ q - p = 384 ∨ q - p = 385)) ∨ (¬ (7 * n + 1) % 19 ≤ 6 ∧ (q - p = 353 ∨ q - p = 354 ∨ q - p = 355)))
    (c2 : p % 7 ≠ 2 ∧ p % 7 ≠ 4 ∧ p % 7 ≠ 6) (c3 : (765433 * m - 876) / 25920 ≤ p ∧ p ≤ (765433 * m - 876) / 25920 + 2) (c4 : p + 6938 ≤ r ∧ r ≤ p + 6942) (c5 : p + 366 ≤ 366 * n ∧ 365 * n ≤ p + 400) : Seen y := by
  have hl := lp_iff (y := y)
  have e3 : (7 * y + 1) % 19 = ((7 * n + 1) % 19 : Nat) := by rw [hy]; simp
  rw [e3] at hl
  generalize (7 * n + 1) % 19 = z at *
  refine ⟨?_, ?_, ?_, ?_, ?_, ?_⟩
  · unfold ylen
    clear c2 c3 c4 c5 e3
    rcases c1 with ⟨k, c1⟩ | ⟨k, c1⟩
    · rw [if_pos (hl.2 (by omega))]; omega
    · rw [if_neg (fun e => k (by have := hl.1 e; omega))]; omega
  · rw [g0]; clear c1 c3 c4 c5 hl e3; omega
  · unfold mo; rw [g0, hbf]; clear c1 c2 c4 c5 hl e3 g0 g1 g19
    obtain ⟨u, hu⟩ : ∃ u : Nat, u + 876 = 765433 * m := ⟨765433 * m - 876, by omega⟩
    rw [show 765433 * m - 876 = u by omega] at c3
    rw [show 765433 * (m : Int) - 876 = (u : Int) by omega]
    omega
  · clear c1 c2 c3 c5 hl e3; omega
  · clear c1 c2 c3 c4 hl e3; omega
  · clear c1 c2 c3 c4 hl e3; omega
theorem cast1 (k : Nat) : ((k : Nat) : Int) + 1 = ((k + 1 : Nat) : Int) := rfl
theorem cast19 (k : Nat) : ((k : Nat) : Int) + 19 = ((k + 18 + 1 : Nat) : Int) := by omega
theorem seen_of {k : Nat} (h1 : 1 ≤ k) (h : chkN (k + 1) = true) : Seen ((k + 1 : Nat) : Int) := by
  have g0 := bgN_eq k h1; have g1 := bgN_eq (k + 1) (by omega); have g19 := bgN_eq (k + 1 + 18) (by omega)
  obtain ⟨c0, c1, c2, c3, c4, c5⟩ := chkN_def h
  rw [← cast19] at g19
  exact seen_num _ _ _ _ _ _ rfl (by omega) g0 g1 g19 (bfN_eq (by omega)) (bf_pos (by omega)) (Nat.le_of_ble_eq_true c0) (okL_def c1) (okW_def c2) (okM_def c3) (okC_def c4) (okB_def c5)
theorem seen {y : Int} (h1 : 1 ≤ y) (h2 : y ≤ 20480) : Seen y := by
  by_cases e : y = 1
  · subst e; exact seen1
  · obtain ⟨k, rfl⟩ : ∃ k : Nat, y = ((k + 1 : Nat) : Int) := ⟨(y - 1).toNat, by omega⟩
    by_cases q : k + 1 < 16386
    · exact seen_of (by omega) (all2_of _ _ _ chk_all.1 (k + 1) (by omega) (by omega))
    · exact seen_of (by omega) (all2_of _ _ _ chk_all.2 (k + 1) (by omega) (by omega))
end Heb
namespace Heb
open Cal (bracket)
theorem mths_bd (y : Int) : 12 ≤ mths y ∧ mths y ≤ 13 := by unfold mths; split <;> omega
theorem mths_lp {y : Int} : (lp y = true → mths y = 13) ∧ (lp y = false → mths y = 12) := by unfold mths; constructor <;> intro h <;> simp [h]
def lenA (l : Bool) (c m : Int) : Int :=
  if m = 2 ∨ m = 4 ∨ m = 6 ∨ m = 10 ∨ m = 13 then 29 else if m = 12 then (if l then 30 else 29) else if m = 8 then (if c = 5 then 30 else 29) else if m = 9 then (if c = 3 then 29 else 30) else 30
def len (y m : Int) : Int := lenA (lp y) (ylen y % 10) m
def lenc (y m : Int) : Int := if 1 ≤ m ∧ m ≤ mthc y then len y m else 0
def ordL (l : Bool) : List Int := if l then [7, 8, 9, 10, 11, 12, 13, 1, 2, 3, 4, 5, 6] else [7, 8, 9, 10, 11, 12, 1, 2, 3, 4, 5, 6]
def ordF (l : Bool) (k : Nat) : Int := (ordL l).getD k 0
def nm (l : Bool) : Nat := if l then 13 else 12
def cumA (l : Bool) (c : Int) : Nat → Int
  | 0 => 0
  | k + 1 => cumA l c k + lenA l c (ordF l k)
def posA (l : Bool) (m : Int) : Nat := if 7 ≤ m then (m - 7).toNat else (m + (if l then 6 else 5)).toNat
def off (y m : Int) : Int := cumA (lp y) (ylen y % 10) (posA (lp y) m)
def day (y m d : Int) : Int := bg y + off y m + d - 1
def ok (y m d : Int) : Prop := yB y = true ∧ 1 ≤ m ∧ m ≤ mths y ∧ 1 ≤ d ∧ d ≤ len y m
theorem ordL_len (l : Bool) : (ordL l).length = nm l := by cases l <;> rfl
theorem nm_mths (y : Int) : (nm (lp y) : Int) = mths y := by unfold nm mths; split <;> rfl
theorem lenA_bd (l : Bool) (c m : Int) : 29 ≤ lenA l c m ∧ lenA l c m ≤ 30 := by unfold lenA; (repeat' split) <;> omega
theorem len_bd (y m : Int) : 29 ≤ len y m ∧ len y m ≤ 30 := lenA_bd _ _ _
theorem lenc_bd (y m : Int) : 0 ≤ lenc y m ∧ lenc y m ≤ 30 := by have := len_bd y m; unfold lenc; split <;> omega
theorem ylen_c {y : Int} (h1 : 1 ≤ y) (h2 : y ≤ 20480) : (ylen y % 10 = 3 ∨ ylen y % 10 = 4 ∨ ylen y % 10 = 5) ∧ ylen y = (if lp y then 380 else 350) + ylen y % 10 := by
  have h := (seen h1 h2).len
  by_cases q : lp y = true
  · rw [if_pos q] at h; rw [if_pos q]; omega
  · rw [if_neg q] at h; rw [if_neg q]; omega
theorem cls {l : Bool} {c : Int} (P : Bool → Int → Prop) (hc : c = 3 ∨ c = 4 ∨ c = 5) (h : P true 3 ∧ P true 4 ∧ P true 5 ∧ P false 3 ∧ P false 4 ∧ P false 5) : P l c := by
  obtain ⟨a, b, d, e, f, g⟩ := h
  rcases hc with rfl | rfl | rfl <;> cases l <;> assumption
theorem cum_bd (l : Bool) (c : Int) : ∀ k : Nat, 29 * (k : Int) ≤ cumA l c k ∧ cumA l c k ≤ 30 * k
  | 0 => by simp [cumA]
  | k + 1 => by have := cum_bd l c k; have := lenA_bd l c (ordF l k); simp only [cumA]; omega
theorem cum_lt (l : Bool) (c : Int) : ∀ (n k : Nat), cumA l c (k + 1) ≤ cumA l c (k + 1 + n)
  | 0, k => by simp
  | n + 1, k => by
    have h := cum_lt l c n k
    have := lenA_bd l c (ordF l (k + 1 + n))
    rw [show k + 1 + (n + 1) = k + 1 + n + 1 by omega]
    show _ ≤ cumA l c (k + 1 + n) + lenA l c (ordF l (k + 1 + n))
    omega
theorem cum_mono (l : Bool) (c : Int) {a b : Nat} (h : a < b) : cumA l c (a + 1) ≤ cumA l c b := by
  have := cum_lt l c (b - a - 1) a
  rw [show a + 1 + (b - a - 1) = b by omega] at this; exact this
theorem cum_all {l : Bool} {c : Int} (hc : c = 3 ∨ c = 4 ∨ c = 5) : cumA l c (nm l) = (if l then 380 else 350) + c :=
  cls (fun l c => cumA l c (nm l) = (if l then 380 else 350) + c) hc (by decide)
theorem cum_ylen {y : Int} (h1 : 1 ≤ y) (h2 : y ≤ 20480) : cumA (lp y) (ylen y % 10) (nm (lp y)) = ylen y := by
  have h := ylen_c h1 h2; rw [cum_all h.1]; exact h.2.symm
/-- the place of a month -/
theorem pos_of {l : Bool} {m : Int} (h1 : 1 ≤ m) (h2 : m ≤ nm l) : posA l m < nm l ∧ ordF l (posA l m) = m := by
  have k : ∀ l : Bool, ∀ i : Fin (nm l), posA l ((i : Nat) + 1 : Int) < nm l ∧ ordF l (posA l ((i : Nat) + 1 : Int)) = ((i : Nat) + 1 : Int) := by decide
  have := k l ⟨(m - 1).toNat, by omega⟩
  simp only at this
  rw [show (((m - 1).toNat : Nat) : Int) + 1 = m by omega] at this; exact this
theorem ord_of {l : Bool} {k : Nat} (h : k < nm l) : 1 ≤ ordF l k ∧ ordF l k ≤ nm l ∧ posA l (ordF l k) = k := by
  have t : ∀ l : Bool, ∀ i : Fin (nm l), 1 ≤ ordF l i ∧ ordF l i ≤ nm l ∧ posA l (ordF l i) = i := by decide
  exact t l ⟨k, h⟩
theorem off_step {y m : Int} (hm1 : 1 ≤ m) (hm2 : m ≤ mths y) : off y m + len y m = cumA (lp y) (ylen y % 10) (posA (lp y) m + 1) := by
  rw [← nm_mths] at hm2
  have := (pos_of hm1 hm2).2
  show off y m + len y m = off y m + lenA (lp y) (ylen y % 10) (ordF (lp y) (posA (lp y) m))
  rw [this]; rfl
theorem off_bd {y m : Int} (h1 : 1 ≤ y) (h2 : y ≤ 20480) (hm1 : 1 ≤ m) (hm2 : m ≤ mths y) : 0 ≤ off y m ∧ off y m + len y m ≤ ylen y := by
  have e := off_step hm1 hm2
  rw [← nm_mths] at hm2
  have p := pos_of hm1 hm2
  have c := cum_bd (lp y) (ylen y % 10) (posA (lp y) m)
  refine ⟨?_, ?_⟩
  · show 0 ≤ cumA (lp y) (ylen y % 10) (posA (lp y) m); omega
  · rw [e]
    have hc := cum_ylen h1 h2
    by_cases q : posA (lp y) m + 1 = nm (lp y)
    · rw [q]; omega
    · have := cum_mono (lp y) (ylen y % 10) (show posA (lp y) m < nm (lp y) by omega)
      omega
theorem ylen_bd {y : Int} (h1 : 1 ≤ y) (h2 : y ≤ 20480) : 353 ≤ ylen y ∧ ylen y ≤ 385 := by
  have := (seen h1 h2).len; split at this <;> omega
theorem bg_step {y : Int} : bg (y + 1) = bg y + ylen y := by unfold ylen; omega
theorem bg_lt : ∀ (n : Nat) (y : Int), 0 ≤ y → y + n ≤ 20480 → bg (y + 1) ≤ bg (y + 1 + n)
  | 0, y, _, _ => by simp
  | n + 1, y, h1, h2 => by
    have h := bg_lt n y h1 (by omega)
    have h3 := bg_step (y := y + 1 + n)
    have h4 := ylen_bd (y := y + 1 + n) (by omega) (by omega)
    rw [show y + 1 + ((n + 1 : Nat) : Int) = y + 1 + n + 1 by omega]; omega
theorem bg_mono {a b : Int} (ha : 0 ≤ a) (h : a < b) (hb : b ≤ 20480) : bg (a + 1) ≤ bg b := by
  have := bg_lt (b - a - 1).toNat a ha (by omega)
  rw [show a + 1 + (((b - a - 1).toNat : Nat) : Int) = b by omega] at this; exact this
theorem bg_1 : bg 1 = -2092590 := by decide +kernel
theorem bg_20001 : bg 20001 = 5212335 := by decide +kernel
theorem bg_bd {y : Int} (h1 : 1 ≤ y) (h2 : y ≤ 20480) : -2092625 ≤ bg y ∧ bg y ≤ 5403000 := by
  have s := seen h1 h2
  have := s.up; have := s.lo; omega
theorem day_bd {y m d : Int} (h : ok y m d) : bg y ≤ day y m d ∧ day y m d < bg (y + 1) := by
  obtain ⟨hy, h1, h2, h3, h4⟩ := h
  have hy := yB_iff.1 hy
  have := off_bd hy.1 (by omega) h1 h2; have := bg_step (y := y)
  unfold day; omega
theorem day_in {y m d : Int} (h : ok y m d) : -2092590 ≤ day y m d ∧ day y m d < 5212335 := by
  have b := day_bd h
  have hy := yB_iff.1 h.1
  have h1 := bg_mono (a := 0) (b := y) (by omega) (by omega) (by omega)
  have h2 := bg_mono (a := y) (b := 20001) (by omega) (by omega) (by omega)
  rw [bg_20001] at h2
  rw [show (0 : Int) + 1 = 1 by rfl, bg_1] at h1; omega
theorem day_inj {y m d y' m' d' : Int} (h : ok y m d) (h' : ok y' m' d') (e : day y m d = day y' m' d') : y = y' ∧ m = m' ∧ d = d' := by
  have b := day_bd h; have b' := day_bd h'
  have hy0 := yB_iff.1 h.1; have hy0' := yB_iff.1 h'.1
  have hy : y = y' := by
    rcases Int.lt_trichotomy y y' with q | q | q
    · have := bg_mono (by omega) q (by omega); omega
    · exact q
    · have := bg_mono (by omega) q (by omega); omega
  subst hy
  obtain ⟨_, h1, h2, h3, h4⟩ := h; obtain ⟨_, k1, k2, k3, k4⟩ := h'
  unfold day at e
  have s := off_step h1 h2; have s' := off_step k1 k2
  have p := pos_of (l := lp y) h1 (by rw [nm_mths]; exact h2); have p' := pos_of (l := lp y) k1 (by rw [nm_mths]; exact k2)
  have hm : posA (lp y) m = posA (lp y) m' := by
    rcases Nat.lt_trichotomy (posA (lp y) m) (posA (lp y) m') with q | q | q
    · have := cum_mono (lp y) (ylen y % 10) q
      have e2 : off y m' = cumA (lp y) (ylen y % 10) (posA (lp y) m') := rfl
      omega
    · exact q
    · have := cum_mono (lp y) (ylen y % 10) q
      have e2 : off y m = cumA (lp y) (ylen y % 10) (posA (lp y) m) := rfl
      omega
  have hm' : m = m' := by rw [← p.2, ← p'.2, hm]
  subst hm'
  exact ⟨rfl, rfl, by omega⟩
/-- whether a number is a day of the calendar -/
def rB (n : Int) : Bool := decide (-2092590 ≤ n ∧ n < 5212335)
theorem rB_iff {n : Int} : rB n = true ↔ -2092590 ≤ n ∧ n < 5212335 := by unfold rB; exact decide_eq_true_iff
theorem at_of {n y : Int} {k : Nat} (h1 : 1 ≤ y) (h2 : y ≤ 20000) (hk : k < nm (lp y)) (c1 : cumA (lp y) (ylen y % 10) k ≤ n - bg y) (c2 : n - bg y - cumA (lp y) (ylen y % 10) k < len y (ordF (lp y) k)) :
    ok y (ordF (lp y) k) (n - bg y - cumA (lp y) (ylen y % 10) k + 1) ∧ day y (ordF (lp y) k) (n - bg y - cumA (lp y) (ylen y % 10) k + 1) = n := by
  obtain ⟨o1, o2, o3⟩ := ord_of hk
  rw [nm_mths] at o2
  refine ⟨⟨yB_iff.2 ⟨h1, h2⟩, o1, o2, by omega, by omega⟩, ?_⟩
  unfold day off; rw [o3]; omega
theorem ex {n : Int} (h : -2092590 ≤ n ∧ n < 5212335) : ∃ p : Int × Int × Int, ok p.1 p.2.1 p.2.2 ∧ day p.1 p.2.1 p.2.2 = n := by
  obtain ⟨y, h1, h2, h3, h4⟩ := bracket bg n 20000 1 (by rw [bg_1]; exact h.1) (by show n < bg 20001; rw [bg_20001]; exact h.2)
  have hs := cum_ylen h1 (show y ≤ 20480 by omega)
  rw [bg_step] at h4
  have hy : yB y = true := yB_iff.2 ⟨h1, by omega⟩
  have : ∃ k : Nat, k < nm (lp y) ∧ cumA (lp y) (ylen y % 10) k ≤ n - bg y ∧ n - bg y < cumA (lp y) (ylen y % 10) (k + 1) := by
    have go : ∀ j : Nat, n - bg y < cumA (lp y) (ylen y % 10) j → ∃ k : Nat, k < j ∧ cumA (lp y) (ylen y % 10) k ≤ n - bg y ∧ n - bg y < cumA (lp y) (ylen y % 10) (k + 1) := by
      intro j
      induction j with
      | zero => intro h; simp [cumA] at h; omega
      | succ j ih =>
        intro h
        by_cases q : n - bg y < cumA (lp y) (ylen y % 10) j
        · obtain ⟨k, k1, k2, k3⟩ := ih q; exact ⟨k, by omega, k2, k3⟩
        · exact ⟨j, by omega, by omega, h⟩
    exact go _ (by rw [hs]; omega)
  obtain ⟨k, k1, k2, k3⟩ := this
  have k3' : n - bg y < cumA (lp y) (ylen y % 10) k + len y (ordF (lp y) k) := k3
  exact ⟨(y, _, _), at_of h1 (by omega) k1 k2 (by omega)⟩
noncomputable def dt (n : Int) : Int × Int × Int := if rB n then Classical.epsilon fun p => ok p.1 p.2.1 p.2.2 ∧ day p.1 p.2.1 p.2.2 = n else (0, 0, 0)
noncomputable def yH (n : Int) : Int := (dt n).1
noncomputable def mH (n : Int) : Int := (dt n).2.1
noncomputable def aH (n : Int) : Int := (dt n).2.2
theorem dt_spec {n : Int} (h : rB n = true) : ok (yH n) (mH n) (aH n) ∧ day (yH n) (mH n) (aH n) = n := by
  have := Classical.epsilon_spec (ex (rB_iff.1 h)); unfold yH mH aH dt; rw [if_pos h]; exact this
theorem dt_eq {y m d n : Int} (h : ok y m d) (e : day y m d = n) : y = yH n ∧ m = mH n ∧ d = aH n := by
  have hr : rB n = true := by rw [← e]; exact rB_iff.2 (day_in h)
  exact day_inj h (dt_spec hr).1 (e.trans (dt_spec hr).2.symm)
theorem dt_day {y m d : Int} (h : ok y m d) : yH (day y m d) = y ∧ mH (day y m d) = m ∧ aH (day y m d) = d := by
  have := dt_eq h rfl; omega
def okb (y m d : Int) : Bool := decide (1 ≤ d) && decide (d ≤ lenc y m)
theorem mthc_y {y : Int} (h : 1 ≤ mthc y) : yB y = true ∧ mthc y = mths y := by
  unfold mthc at *; split at h
  · rename_i q; simp [q]
  · omega
theorem okb_iff {y m d : Int} : okb y m d = true ↔ ok y m d := by
  unfold okb ok; rw [Bool.and_eq_true, decide_eq_true_eq, decide_eq_true_eq]
  unfold lenc; split
  · rename_i h; obtain ⟨h1, h2⟩ := h
    obtain ⟨a, b⟩ := mthc_y (by omega : 1 ≤ mthc y)
    rw [b] at h2
    exact ⟨fun h => ⟨a, h1, h2, h.1, h.2⟩, fun h => ⟨h.2.2.2.1, h.2.2.2.2⟩⟩
  · rename_i h
    exact ⟨fun h => by omega, fun k => absurd ⟨k.2.1, by unfold mthc; rw [if_pos k.1]; exact k.2.2.1⟩ h⟩
/-- what Day answers: only days within the years 1 to 9999 -/
def dayB (y m d : Int) : Bool := okb y m d && Cal.inB (day y m d)
def dayN (y m d : Int) : Int := if dayB y m d then day y m d else 0
def dayE (y m d : Int) : Int := if dayB y m d then 0 else 2
noncomputable def dY (n : Int) : Int := if Cal.inB n then yH n else 0
noncomputable def dM (n : Int) : Int := if Cal.inB n then mH n else 0
noncomputable def dA (n : Int) : Int := if Cal.inB n then aH n else 0
def dE (n : Int) : Int := if Cal.inB n then 0 else 2
theorem in_r {n : Int} (h : Cal.inB n = true) : rB n = true := by have := Cal.inB_iff.1 h; exact rB_iff.2 (by omega)
/-- the month behind a month -/
def folY (y m : Int) : Int := if m = 6 then y + 1 else y
def folM (y m : Int) : Int := if m = 6 then 7 else if 12 ≤ m ∧ m = mthc y then 1 else m + 1
theorem fol_off {y m : Int} (h1 : 1 ≤ y) (h2 : y ≤ 20000) (hm1 : 1 ≤ m) (hm2 : m ≤ mths y) (h6 : m ≠ 6) : off y (folM y m) = off y m + len y m ∧ 1 ≤ folM y m ∧ folM y m ≤ mths y := by
  have hc : mthc y = mths y := by unfold mthc; rw [if_pos (yB_iff.2 ⟨h1, h2⟩)]
  have t : ∀ l : Bool, ∀ i : Fin (nm l), (i : Nat) ≠ 5 → posA l (if (12 : Int) ≤ (i : Nat) + 1 ∧ ((i : Nat) + 1 : Int) = nm l then 1 else (i : Nat) + 1 + 1) = posA l ((i : Nat) + 1 : Int) + 1 := by decide
  have hm3 : m ≤ nm (lp y) := by rw [nm_mths]; exact hm2
  have q := t (lp y) ⟨(m - 1).toNat, by omega⟩ (by simp only; omega)
  simp only at q
  rw [show (((m - 1).toNat : Nat) : Int) + 1 = m by omega] at q
  refine ⟨?_, ?_⟩
  · rw [off_step hm1 hm2]; unfold off folM; rw [if_neg h6, hc, ← nm_mths, q]
  · unfold folM; rw [if_neg h6, hc]; have := mths_bd y; split <;> omega
theorem six_end {y : Int} (h1 : 1 ≤ y) (h2 : y ≤ 20480) : off y 6 + len y 6 = ylen y := by
  have := mths_bd y
  have hc := cum_ylen h1 h2
  rw [off_step (by omega) (by omega), show posA (lp y) 6 + 1 = nm (lp y) by unfold posA nm; cases lp y <;> rfl]
  exact hc
theorem off_7 (y : Int) : off y 7 = 0 := rfl
end Heb
namespace Wk
open Cal
def rB (f mi : Int) : Bool := decide (1 ≤ f ∧ f ≤ 7 ∧ 1 ≤ mi ∧ mi ≤ 7)
theorem rB_iff {f mi : Int} : rB f mi = true ↔ 1 ≤ f ∧ f ≤ 7 ∧ 1 ≤ mi ∧ mi ≤ 7 := by unfold rB; exact decide_eq_true_iff
def wd (n : Int) : Int := (n + 3) % 7 + 1
/-- the first day of a week-year -/
def bg (f mi y : Int) : Int := if mi ≤ 7 - (wd (ysG y) - f) % 7 then ysG y - (wd (ysG y) - f) % 7 else ysG y - (wd (ysG y) - f) % 7 + 7
theorem bg_spec {f mi : Int} (h : rB f mi = true) (y : Int) : wd (bg f mi y) = f ∧ ysG y + mi - 7 ≤ bg f mi y ∧ bg f mi y < ysG y + mi := by
  obtain ⟨h1, h2, h3, h4⟩ := rB_iff.1 h
  unfold bg wd; split <;> omega
theorem bg_uniq {f mi y n : Int} (h : rB f mi = true) (h1 : wd n = f) (h2 : ysG y + mi - 7 ≤ n) (h3 : n < ysG y + mi) : n = bg f mi y := by
  obtain ⟨g1, g2, g3⟩ := bg_spec h y
  unfold wd at *; omega
theorem bg_near {f mi : Int} (h : rB f mi = true) (y : Int) : ysG y - 6 ≤ bg f mi y ∧ bg f mi y ≤ ysG y + 6 := by
  obtain ⟨g1, g2, g3⟩ := bg_spec h y
  have := rB_iff.1 h; omega
theorem bg_succ {f mi : Int} (h : rB f mi = true) (y : Int) : bg f mi (y + 1) = bg f mi y + 364 ∨ bg f mi (y + 1) = bg f mi y + 371 := by
  obtain ⟨g1, g2, g3⟩ := bg_spec h y
  obtain ⟨k1, k2, k3⟩ := bg_spec h (y + 1)
  have := ysG_succ y; have := lg_01 y; have := rB_iff.1 h
  unfold wd at *; omega
def wks (f mi y : Int) : Int := (bg f mi (y + 1) - bg f mi y) / 7
theorem wks_52 {f mi : Int} (h : rB f mi = true) (y : Int) : (wks f mi y = 52 ∨ wks f mi y = 53) ∧ bg f mi (y + 1) = bg f mi y + 7 * wks f mi y := by
  have := bg_succ h y; unfold wks; omega
theorem bg_lt {f mi : Int} (h : rB f mi = true) : ∀ (n : Nat) (y : Int), bg f mi (y + 1) ≤ bg f mi (y + 1 + n)
  | 0, y => by simp
  | n + 1, y => by
    have h1 := bg_lt h n y
    have h2 := bg_succ h (y + 1 + n)
    rw [show y + 1 + ((n + 1 : Nat) : Int) = y + 1 + n + 1 by omega]; omega
theorem bg_mono {f mi a b : Int} (h : rB f mi = true) (hab : a < b) : bg f mi (a + 1) ≤ bg f mi b := by
  have := bg_lt h (b - a - 1).toNat a
  rw [show a + 1 + (((b - a - 1).toNat : Nat) : Int) = b by omega] at this
  exact this
/-- the week-year of a day -/
theorem wy_uniq {f mi a b n : Int} (h : rB f mi = true) (h1 : bg f mi a ≤ n) (h2 : n < bg f mi (a + 1)) (h3 : bg f mi b ≤ n) (h4 : n < bg f mi (b + 1)) : a = b := by
  rcases Int.lt_trichotomy a b with q | q | q
  · have := bg_mono h q; omega
  · exact q
  · have := bg_mono h q; omega
noncomputable def wy (f mi n : Int) : Int := if n < bg f mi (yG n) then yG n - 1 else if bg f mi (yG n + 1) ≤ n then yG n + 1 else yG n
theorem wy_spec {f mi n : Int} (h : rB f mi = true) (hi : inB n = true) : bg f mi (wy f mi n) ≤ n ∧ n < bg f mi (wy f mi n + 1) ∧ 0 ≤ wy f mi n ∧ wy f mi n ≤ 10000 := by
  obtain ⟨ho, hd⟩ := dtG_spec hi
  have hb := dayG_bd ho
  rw [hd] at hb
  have hy := ho.1; have hy' := ho.2.1
  unfold wy
  generalize yG n = y at *
  have n1 := bg_near h (y - 1); have n2 := bg_near h (y + 1); have n3 := bg_near h (y + 2); have n0 := bg_near h y
  have s1 := ysG_succ (y - 1); have s2 := ysG_succ y; have s3 := ysG_succ (y + 1)
  rw [show y - 1 + 1 = y by omega] at s1
  rw [show y + 1 + 1 = y + 2 by omega] at s3
  have l1 := lg_01 (y - 1); have l2 := lg_01 y; have l3 := lg_01 (y + 1)
  split
  · rw [show y - 1 + 1 = y by omega]; omega
  · split
    · rw [show y + 1 + 1 = y + 2 by omega]; omega
    · omega
theorem wy_eq {f mi n y : Int} (h : rB f mi = true) (hi : inB n = true) (h1 : bg f mi y ≤ n) (h2 : n < bg f mi (y + 1)) : y = wy f mi n :=
  have s := wy_spec h hi
  wy_uniq h h1 h2 s.1 s.2.1
def yB (y : Int) : Bool := decide (1 ≤ y ∧ y ≤ 9999)
theorem yB_iff {y : Int} : yB y = true ↔ 1 ≤ y ∧ y ≤ 9999 := by unfold yB; exact decide_eq_true_iff
/-- Of's results -/
noncomputable def okOf (f mi n : Int) : Bool := rB f mi && (inB n && yB (wy f mi n))
noncomputable def ofY (f mi n : Int) : Int := if okOf f mi n then wy f mi n else 0
noncomputable def ofW (f mi n : Int) : Int := if okOf f mi n then (n - bg f mi (wy f mi n)) / 7 + 1 else 0
noncomputable def ofD (f mi n : Int) : Int := if okOf f mi n then wd n else 0
noncomputable def ofE (f mi n : Int) : Int := if rB f mi then if inB n && yB (wy f mi n) then 0 else 2 else 1
def stN (f mi y : Int) : Int := if rB f mi && yB y then bg f mi y else 0
def stE (f mi y : Int) : Int := if rB f mi then if yB y then 0 else 2 else 1
def wkN (f mi y : Int) : Int := if rB f mi && yB y then wks f mi y else 0
/-- Day's results -/
def okDay (f mi y k d : Int) : Bool := rB f mi && (yB y && decide (1 ≤ k ∧ k ≤ wks f mi y ∧ 1 ≤ d ∧ d ≤ 7) && inB (bg f mi y + 7 * (k - 1) + (d - f) % 7))
def dyN (f mi y k d : Int) : Int := if okDay f mi y k d then bg f mi y + 7 * (k - 1) + (d - f) % 7 else 0
def dyE (f mi y k d : Int) : Int := if rB f mi then if okDay f mi y k d then 0 else 2 else 1
noncomputable def orN (n : Int) : Int := if inB n then n - ysG (yG n) + 1 else 0
def foB (y n : Int) : Bool := yB y && decide (1 ≤ n ∧ n ≤ ysG (y + 1) - ysG y)
def foN (y n : Int) : Int := if foB y n then ysG y + n - 1 else 0
def foE (y n : Int) : Int := if foB y n then 0 else 2
end Wk
namespace Fea
open Cal
def yB (y : Int) : Bool := decide (1 ≤ y ∧ y ≤ 9999)
theorem yB_iff {y : Int} : yB y = true ↔ 1 ≤ y ∧ y ≤ 9999 := by unfold yB; exact decide_eq_true_iff
def gold (y : Int) : Int := if yB y then y % 19 + 1 else 0
def ep (y : Int) : Int := (8 + y / 100 / 4 - y / 100 + (8 * (y / 100) + 13) / 25 + 11 * (y % 19)) % 30
def epact (y : Int) : Int := if yB y then ep y else -1
/-- the epact that counts, and the full moon: days from March 0 on -/
def ep2 (y : Int) : Int := if ep y = 24 ∨ (ep y = 25 ∧ 11 < y % 19 + 1) then ep y + 1 else ep y
def moon (y : Int) : Int := if 44 - ep2 y < 21 then 44 - ep2 y + 30 else 44 - ep2 y
def wd (n : Int) : Int := (n + 3) % 7 + 1
def sun (d : Int) : Int := d + 8 - wd (d + 1)
def east (y : Int) : Int := sun (dayG y 3 1 + moon y - 1)
def easter (y : Int) : Int := if yB y then east y else 0
def yE (y : Int) : Int := if yB y then 0 else 2
theorem ep_bd (y : Int) : 0 ≤ ep y ∧ ep y < 30 := by unfold ep; omega
theorem moon_bd (y : Int) : 21 ≤ moon y ∧ moon y ≤ 49 := by
  have := ep_bd y
  unfold moon ep2; split <;> split <;> omega
theorem sun_bd (d : Int) : d + 1 ≤ sun d ∧ sun d ≤ d + 7 := by unfold sun wd; omega
theorem sun_wd (d : Int) : wd (sun d) = 7 := by unfold sun wd; omega
theorem sun_uniq {d n : Int} (h1 : d + 1 ≤ n) (h2 : n ≤ d + 7) (h3 : wd n = 7) : n = sun d := by unfold sun; unfold wd at *; omega
theorem m1 (y : Int) : dayG y 3 1 = ysG y + 59 + lg y := by unfold dayG cumG; simp; omega
theorem east_bd (y : Int) : dayG y 3 1 + 21 ≤ east y ∧ east y ≤ dayG y 3 1 + 55 := by
  have := moon_bd y; have := sun_bd (dayG y 3 1 + moon y - 1)
  unfold east; omega
/-- the rule without an epact -/
def rh (y : Int) : Int := (19 * (y % 19) + y / 100 - y / 100 / 4 - (y / 100 - (y / 100 + 8) / 25 + 1) / 3 + 15) % 30
def rl (y : Int) : Int := (32 + 2 * (y / 100 % 4) + 2 * (y % 100 / 4) - rh y - y % 100 % 4) % 7
def rm (y : Int) : Int := (y % 19 + 11 * rh y + 22 * rl y) / 451
def rn (y : Int) : Int := rh y + rl y - 7 * rm y + 114
-- the same in natural numbers, for the kernel
def epN (y c : Nat) : Nat := Nat.mod (Nat.sub (Nat.add (Nat.add (Nat.add 308 (Nat.div c 4)) (Nat.div (Nat.add (Nat.mul 8 c) 13) 25)) (Nat.mul 11 (Nat.mod y 19))) c) 30
def ep2N (e g : Nat) : Nat := cond (Nat.beq e 24 || (Nat.beq e 25 && Nat.ble 11 g)) (Nat.succ e) e
def moonN (e : Nat) : Nat := cond (Nat.ble e 23) (Nat.sub 44 e) (Nat.sub 74 e)
def m1N (y z : Nat) : Nat := Nat.add (Nat.sub (Nat.add (Nat.add (Nat.add (Nat.mul 365 z) (Nat.div z 4)) (Nat.div z 400)) 59) (Nat.div z 100)) (cond (Nat.beq (Nat.mod y 4) 0 && (not (Nat.beq (Nat.mod y 100) 0) || Nat.beq (Nat.mod y 400) 0)) 1 0)
def offN (d m : Nat) : Nat := Nat.sub (Nat.add m 6) (Nat.mod (Nat.add d m) 7)
def rhN (a b : Nat) : Nat := Nat.mod (Nat.sub (Nat.add (Nat.add (Nat.mul 19 a) b) 15) (Nat.add (Nat.div b 4) (Nat.div (Nat.sub (Nat.add b 1) (Nat.div (Nat.add b 8) 25)) 3))) 30
def rlN (b c h : Nat) : Nat := Nat.mod (Nat.sub (Nat.add (Nat.add 32 (Nat.mul 2 (Nat.mod b 4))) (Nat.mul 2 (Nat.div c 4))) (Nat.add h (Nat.mod c 4))) 7
def rnN (a h l : Nat) : Nat := Nat.sub (Nat.add (Nat.add h l) 114) (Nat.mul 7 (Nat.div (Nat.add (Nat.add a (Nat.mul 11 h)) (Nat.mul 22 l)) 451))
def chkN (y : Nat) : Bool :=
  (fun h => (fun l => (fun o => Nat.beq (Nat.add o 93) (rnN (Nat.mod y 19) h l) && (Nat.ble o 55 && Nat.ble 21 o)) (offN (m1N y (Nat.pred y)) (moonN (ep2N (epN y (Nat.div y 100)) (Nat.mod y 19))))) (rlN (Nat.div y 100) (Nat.mod y 100) h)) (rhN (Nat.mod y 19) (Nat.div y 100))
def all2 (f : Nat → Bool) : Nat → Nat → Bool
  | 0, s => f s
  | n + 1, s => all2 f n s && all2 f n (Nat.add s (Nat.pow 2 n))
theorem all2_of (f : Nat → Bool) : ∀ (n s : Nat), all2 f n s = true → ∀ i : Nat, s ≤ i → i < s + 2 ^ n → f i = true
  | 0, s, h, i, h1, h2 => by
    obtain rfl : i = s := by simp at h2; omega
    exact h
  | n + 1, s, h, i, h1, h2 => by
    simp only [all2, Bool.and_eq_true] at h
    have e : (2 : Nat) ^ (n + 1) = 2 ^ n + 2 ^ n := by rw [Nat.pow_succ]; omega
    by_cases q : i < s + 2 ^ n
    · exact all2_of f n s h.1 i h1 q
    · exact all2_of f n (s + 2 ^ n) h.2 i (show s + 2 ^ n ≤ i by omega) (show i < s + 2 ^ n + 2 ^ n by omega)
theorem chk_all : all2 chkN 13 1 = true ∧ all2 chkN 11 7953 = true := by decide +kernel
theorem epN_eq (y c : Nat) (hc : c = y / 100) (h : y ≤ 9999) : ep (y : Int) = (epN y c : Int) := by
  obtain ⟨a, ha⟩ : ∃ a, a = c / 4 := ⟨_, rfl⟩
  obtain ⟨b, hb⟩ : ∃ b, b = (8 * c + 13) / 25 := ⟨_, rfl⟩
  obtain ⟨g, hg⟩ : ∃ g, g = y % 19 := ⟨_, rfl⟩
  obtain ⟨X, hX⟩ : ∃ X, X + c = 308 + a + b + 11 * g := ⟨308 + a + b + 11 * g - c, by omega⟩
  have e : epN y c = X % 30 := by
    show (308 + c / 4 + (8 * c + 13) / 25 + 11 * (y % 19) - c) % 30 = X % 30
    rw [← ha, ← hb, ← hg, ← hX, Nat.add_sub_cancel]
  have e1 : (y : Int) / 100 = (c : Int) := by omega
  have e2 : (c : Int) / 4 = (a : Int) := by omega
  have e3 : (8 * (c : Int) + 13) / 25 = (b : Int) := by omega
  have e4 : (y : Int) % 19 = (g : Int) := by omega
  unfold ep
  rw [e1, e2, e3, e4, e]
  clear e e1 e2 e3 e4 ha hb hg hc
  rw [show 8 + (a : Int) - c + b + 11 * g = (X : Int) - 300 by omega]
  omega
theorem ep2N_eq (y e g : Nat) (he : ep (y : Int) = e) (hg : g = y % 19) : ep2 (y : Int) = (ep2N e g : Int) := by
  have e4 : (y : Int) % 19 = (g : Int) := by omega
  unfold ep2; rw [he, e4]
  show _ = ((cond (Nat.beq e 24 || (Nat.beq e 25 && Nat.ble 11 g)) (e + 1) e : Nat) : Int)
  clear hg he e4
  by_cases q : e = 24
  · subst q; rw [if_pos (by omega)]; rfl
  · rw [show Nat.beq e 24 = false by rw [Bool.eq_false_iff]; exact fun k => q (Nat.eq_of_beq_eq_true k), Bool.false_or]
    by_cases q2 : e = 25
    · subst q2
      by_cases q3 : 11 ≤ g
      · rw [if_pos (by omega), Nat.ble_eq_true_of_le q3]; rfl
      · rw [if_neg (by omega), show Nat.ble 11 g = false by rw [Bool.eq_false_iff]; exact fun k => q3 (Nat.le_of_ble_eq_true k)]; rfl
    · rw [show Nat.beq e 25 = false by rw [Bool.eq_false_iff]; exact fun k => q2 (Nat.eq_of_beq_eq_true k), Bool.false_and, if_neg (by omega)]; rfl
theorem moonN_eq (y e : Nat) (he : ep2 (y : Int) = e) (h : e ≤ 30) : moon (y : Int) = (moonN e : Int) := by
  unfold moon; rw [he]
  show _ = ((cond (Nat.ble e 23) (44 - e) (74 - e) : Nat) : Int)
  by_cases q : e ≤ 23
  · rw [Nat.ble_eq_true_of_le q, if_neg (by omega)]; simp only [cond_true]; omega
  · rw [show Nat.ble e 23 = false by rw [Bool.eq_false_iff]; exact fun k => q (Nat.le_of_ble_eq_true k), if_pos (by omega)]; simp only [cond_false]; omega
theorem m1N_eq (y z : Nat) (hz : y = z + 1) : dayG (y : Int) 3 1 + 719162 = (m1N y z : Int) := by
  rw [m1]
  obtain ⟨l, hl⟩ : ∃ l, l = cond (Nat.beq (y % 4) 0 && (not (Nat.beq (y % 100) 0) || Nat.beq (y % 400) 0)) 1 0 := ⟨_, rfl⟩
  have e : m1N y z = 365 * z + z / 4 + z / 400 + 59 - z / 100 + l := by rw [hl]; rfl
  have e2 : lg (y : Int) = (l : Int) := by
    rw [hl]; unfold lg
    by_cases a : y % 4 = 0
    · rw [a, Nat.beq_refl, Bool.true_and]
      by_cases b : y % 100 = 0
      · rw [b, Nat.beq_refl, Bool.not_true, Bool.false_or]
        by_cases d : y % 400 = 0
        · rw [d, if_pos (by omega)]; rfl
        · rw [show Nat.beq (y % 400) 0 = false by rw [Bool.eq_false_iff]; exact fun k => d (Nat.eq_of_beq_eq_true k), if_neg (by omega)]; rfl
      · rw [show Nat.beq (y % 100) 0 = false by rw [Bool.eq_false_iff]; exact fun k => b (Nat.eq_of_beq_eq_true k), Bool.not_false, Bool.true_or, if_pos (by omega)]; rfl
    · rw [show Nat.beq (y % 4) 0 = false by rw [Bool.eq_false_iff]; exact fun k => a (Nat.eq_of_beq_eq_true k), Bool.false_and, if_neg (by omega)]; rfl
  rw [e2, e]; clear e e2 hl
  have y1 : (y : Int) - 1 = z := by omega
  unfold ysG; rw [y1]; clear y1
  omega
theorem rh_eq (y a b : Nat) (ha : a = y % 19) (hb : b = y / 100) (h : y ≤ 9999) : rh (y : Int) = (rhN a b : Int) := by
  obtain ⟨q, hq⟩ : ∃ q, q = b / 4 := ⟨_, rfl⟩
  obtain ⟨r, hr⟩ : ∃ r, r = (b + 8) / 25 := ⟨_, rfl⟩
  obtain ⟨s, hs⟩ : ∃ s, s = (b + 1 - r) / 3 := ⟨_, rfl⟩
  obtain ⟨X, hX⟩ : ∃ X, X + (q + s) = 19 * a + b + 15 := ⟨19 * a + b + 15 - (q + s), by omega⟩
  have e : rhN a b = X % 30 := by
    show (19 * a + b + 15 - (b / 4 + (b + 1 - (b + 8) / 25) / 3)) % 30 = X % 30
    rw [← hq, ← hr, ← hs, ← hX, Nat.add_sub_cancel]
  have e1 : (y : Int) % 19 = (a : Int) := by omega
  have e2 : (y : Int) / 100 = (b : Int) := by omega
  have e3 : (b : Int) / 4 = (q : Int) := by omega
  have e4 : ((b : Int) + 8) / 25 = (r : Int) := by omega
  have e5 : ((b : Int) - r + 1) / 3 = (s : Int) := by omega
  unfold rh
  rw [e1, e2, e3, e4, e5, e]
  clear e e1 e2 e3 e4 e5 ha hb hq hr hs
  rw [show 19 * (a : Int) + b - q - s + 15 = (X : Int) by omega]
  omega
theorem rl_eq (y b c hh : Nat) (hb : b = y / 100) (hc : c = y % 100) (h : rh (y : Int) = hh) (h30 : hh < 30) : rl (y : Int) = (rlN b c hh : Int) := by
  obtain ⟨q, hq⟩ : ∃ q, q = b % 4 := ⟨_, rfl⟩
  obtain ⟨r, hr⟩ : ∃ r, r = c / 4 := ⟨_, rfl⟩
  obtain ⟨s, hs⟩ : ∃ s, s = c % 4 := ⟨_, rfl⟩
  obtain ⟨X, hX⟩ : ∃ X, X + (hh + s) = 32 + 2 * q + 2 * r := ⟨32 + 2 * q + 2 * r - (hh + s), by omega⟩
  have e : rlN b c hh = X % 7 := by
    show (32 + 2 * (b % 4) + 2 * (c / 4) - (hh + c % 4)) % 7 = X % 7
    rw [← hq, ← hr, ← hs, ← hX, Nat.add_sub_cancel]
  have e1 : (y : Int) / 100 % 4 = (q : Int) := by omega
  have e2 : (y : Int) % 100 / 4 = (r : Int) := by omega
  have e3 : (y : Int) % 100 % 4 = (s : Int) := by omega
  unfold rl
  rw [e1, e2, e3, h, e]
  clear e e1 e2 e3 hb hc hq hr hs h
  rw [show 32 + 2 * (q : Int) + 2 * r - hh - s = (X : Int) by omega]
  omega
theorem rn_eq (y a hh l : Nat) (ha : a = y % 19) (h : rh (y : Int) = hh) (h2 : rl (y : Int) = l) (hb : 7 * ((a + 11 * hh + 22 * l) / 451) ≤ hh + l + 114) : rn (y : Int) = (rnN a hh l : Int) := by
  obtain ⟨q, hq⟩ : ∃ q, q = (a + 11 * hh + 22 * l) / 451 := ⟨_, rfl⟩
  rw [← hq] at hb
  have e : rnN a hh l = hh + l + 114 - 7 * q := by rw [hq]; rfl
  have e1 : (y : Int) % 19 = (a : Int) := by omega
  have e2 : ((a : Int) + 11 * hh + 22 * l) / 451 = (q : Int) := by omega
  unfold rn rm
  rw [e1, h, h2, e2, e]
  omega
theorem off_eq (y d m : Nat) (hd : dayG (y : Int) 3 1 + 719162 = d) (hm : moon (y : Int) = m) : east (y : Int) = dayG (y : Int) 3 1 + (offN d m : Int) := by
  obtain ⟨r, hr⟩ : ∃ r, r = (d + m) % 7 := ⟨_, rfl⟩
  have e : offN d m = m + 6 - r := by rw [hr]; rfl
  have hr7 : r < 7 := by rw [hr]; omega
  unfold east sun wd
  rw [hm, e]
  have e1 : (dayG (y : Int) 3 1 + m - 1 + 1 + 3) % 7 = (r : Int) := by omega
  rw [e1]; omega
theorem sm (y : Nat) (h : y ≤ 9999) (hc : chkN y = true) (h1 : 1 ≤ y) : east (y : Int) = dayG (y : Int) 3 1 + rn (y : Int) - 93 := by
  obtain ⟨hh, ehh⟩ : ∃ hh, hh = rhN (y % 19) (y / 100) := ⟨_, rfl⟩
  obtain ⟨l, el⟩ : ∃ l, l = rlN (y / 100) (y % 100) hh := ⟨_, rfl⟩
  obtain ⟨m, em⟩ : ∃ m, m = moonN (ep2N (epN y (y / 100)) (y % 19)) := ⟨_, rfl⟩
  obtain ⟨d, ed⟩ : ∃ d, d = m1N y (y - 1) := ⟨_, rfl⟩
  have hk : (Nat.beq (offN d m + 93) (rnN (y % 19) hh l) && (Nat.ble (offN d m) 55 && Nat.ble 21 (offN d m))) = true := by rw [ed, em, el, ehh]; exact hc
  rw [Bool.and_eq_true] at hk
  have hk := Nat.eq_of_beq_eq_true hk.1
  have h1' := rh_eq y (y % 19) (y / 100) rfl rfl h
  rw [← ehh] at h1'
  have hh30 : hh < 30 := by rw [ehh]; exact Nat.mod_lt _ (by omega)
  have h2' := rl_eq y (y / 100) (y % 100) hh rfl rfl h1' hh30
  rw [← el] at h2'
  have hl7 : l < 7 := by rw [el]; exact Nat.mod_lt _ (by omega)
  have h3' := rn_eq y (y % 19) hh l rfl h1' h2' (by omega)
  have he := epN_eq y (y / 100) rfl h
  have he30 : epN y (y / 100) < 30 := Nat.mod_lt _ (by omega)
  have he2 := ep2N_eq y (epN y (y / 100)) (y % 19) he rfl
  have heb : ep2N (epN y (y / 100)) (y % 19) ≤ 30 := by
    show (cond _ (epN y (y / 100) + 1) (epN y (y / 100))) ≤ 30
    cases (Nat.beq (epN y (y / 100)) 24 || (Nat.beq (epN y (y / 100)) 25 && Nat.ble 11 (y % 19))) <;> simp only [cond_true, cond_false] <;> omega
  have hm := moonN_eq y _ he2 heb
  rw [← em] at hm
  have hd := m1N_eq y (y - 1) (by omega)
  rw [← ed] at hd
  rw [off_eq y d m hd hm, h3', ← hk]
  omega
theorem same {y : Int} (h1 : 1 ≤ y) (h2 : y ≤ 9999) : east y = dayG y 3 1 + rn y - 93 := by
  obtain ⟨n, rfl⟩ : ∃ n : Nat, y = n := ⟨y.toNat, by omega⟩
  by_cases q : n < 8193
  · exact sm n (by omega) (all2_of _ _ _ chk_all.1 n (by omega) (by omega)) (by omega)
  · exact sm n (by omega) (all2_of _ _ _ chk_all.2 n (by omega) (by omega)) (by omega)
theorem rn_bd {y : Int} (h1 : 1 ≤ y) (h2 : y ≤ 9999) : 114 ≤ rn y ∧ rn y ≤ 148 := by
  have := same h1 h2; have := east_bd y; omega
/-- the date that the rule gives is the day -/
theorem rn_day {y : Int} (h1 : 1 ≤ y) (h2 : y ≤ 9999) : okG y (rn y / 31) (rn y % 31 + 1) ∧ dayG y (rn y / 31) (rn y % 31 + 1) = east y := by
  have hs := same h1 h2
  have hb := rn_bd h1 h2
  rw [hs]
  have m4 : dayG y 4 1 = dayG y 3 1 + 31 := by unfold dayG cumG; simp; omega
  by_cases q : rn y < 124
  · have e1 : rn y / 31 = 3 := by omega
    rw [e1]
    refine ⟨⟨h1, h2, by omega, by omega, by omega, by simp [lenG, lenB]; omega⟩, ?_⟩
    unfold dayG; omega
  · have e1 : rn y / 31 = 4 := by omega
    rw [e1]
    refine ⟨⟨h1, h2, by omega, by omega, by omega, by simp [lenG, lenB]; omega⟩, ?_⟩
    unfold dayG at *; omega
-- Julian Easter
def jm (y : Int) : Int := dayJ y 3 21
def jp (y : Int) : Int := (19 * (y % 19) + 15) % 30
def jeast (y : Int) : Int := sun (jm y + jp y)
def jeaster (y : Int) : Int := if yB y then jeast y else 0
theorem jp_bd (y : Int) : 0 ≤ jp y ∧ jp y ≤ 28 := by
  have k : ∀ i : Fin 19, (19 * ((i : Nat) : Int) + 15) % 30 ≤ 28 := by decide
  have := k ⟨(y % 19).toNat, by omega⟩
  simp only at this
  rw [show (((y % 19).toNat : Nat) : Int) = y % 19 by omega] at this
  unfold jp; omega
theorem jeast_bd (y : Int) : jm y + 1 ≤ jeast y ∧ jeast y ≤ jm y + 35 := by
  have := jp_bd y; have := sun_bd (jm y + jp y)
  unfold jeast; omega
theorem jm_eq (y : Int) : jm y = ysJ y + 59 + lj y + 20 := by unfold jm dayJ cumJ; simp; omega
theorem jm_532 (y : Int) : jm (y + 532) = jm y + 194313 := by rw [jm_eq, jm_eq]; unfold ysJ lj; split <;> split <;> omega
theorem jeast_532 (y : Int) : jeast (y + 532) = jeast y + 194313 := by
  have e : jp (y + 532) = jp y := by unfold jp; rw [show (y + 532) % 19 = y % 19 by omega]
  unfold jeast; rw [e, jm_532]; unfold sun wd; omega
/-- its Julian date -/
def jM (y : Int) : Int := if jeast y - jm y < 11 then 3 else 4
def jA (y : Int) : Int := if jeast y - jm y < 11 then jeast y - jm y + 21 else jeast y - jm y - 10
theorem jdate {y : Int} (h1 : 1 ≤ y) (h2 : y ≤ 9999) : okJ y (jM y) (jA y) ∧ dayJ y (jM y) (jA y) = jeast y := by
  have hb := jeast_bd y
  have m4 : dayJ y 4 1 = jm y + 11 := by unfold jm dayJ cumJ; simp; omega
  unfold jM jA; split
  · refine ⟨⟨h1, h2, by omega, by omega, by omega, by simp [lenJ, lenB]; omega⟩, ?_⟩
    unfold jm dayJ at *; omega
  · refine ⟨⟨h1, h2, by omega, by omega, by omega, by simp [lenJ, lenB]; omega⟩, ?_⟩
    unfold jm dayJ at *; omega
theorem jdate_532 (y : Int) : jM (y + 532) = jM y ∧ jA (y + 532) = jA y := by
  unfold jM jA; rw [jeast_532, jm_532, show jeast y + 194313 - (jm y + 194313) = jeast y - jm y by omega]; exact ⟨rfl, rfl⟩
theorem east_in {y : Int} (h1 : 1 ≤ y) (h2 : y ≤ 9999) : -719162 ≤ dayG y 3 1 ∧ dayG y 3 1 ≤ 2932650 ∧ -719162 ≤ east y ∧ east y ≤ 2932800 := by
  have := east_bd y; have e := m1 y; have := lg_01 y
  have s1 : -719162 ≤ ysG y ∧ ysG y ≤ 2932532 := by unfold ysG; omega
  omega
theorem jeast_in {y : Int} (h1 : 1 ≤ y) (h2 : y ≤ 9999) : -719162 ≤ jm y ∧ jm y ≤ 2932800 ∧ -719162 ≤ jeast y ∧ jeast y ≤ 2932850 := by
  have := jeast_bd y; have e := jm_eq y; have := lj_01 y
  have s1 : -719164 ≤ ysJ y ∧ ysJ y ≤ 2932700 := by unfold ysJ; omega
  omega
end Fea
namespace Gra
open Cal
/-- the spans of the first n granules, f being where they begin -/
def sp (f : Int → Int) : Nat → List Int
  | 0 => []
  | j + 1 => sp f j ++ [f j, f (j + 1)]
theorem sp_len (f : Int → Int) : ∀ j, (sp f j).length = 2 * j
  | 0 => rfl
  | j + 1 => by simp [sp, sp_len f j]; omega
theorem sp_get (f : Int → Int) : ∀ (j i : Nat), i < j → (sp f j).getD (2 * i) 0 = f i ∧ (sp f j).getD (2 * i + 1) 0 = f (i + 1)
  | 0, i, h => by omega
  | j + 1, i, h => by
    have hl := sp_len f j
    by_cases e : i = j
    · subst e
      simp only [sp]
      constructor
      · simp only [List.getD]; rw [List.getElem?_append_right (by omega), show 2 * i - (sp f i).length = 0 by omega]; rfl
      · simp only [List.getD]; rw [List.getElem?_append_right (by omega), show 2 * i + 1 - (sp f i).length = 1 by omega]; rfl
    · obtain ⟨a, b⟩ := sp_get f j i (by omega)
      simp only [sp]
      rw [← a, ← b]
      constructor
      · simp only [List.getD]; rw [List.getElem?_append_left (by omega)]
      · simp only [List.getD]; rw [List.getElem?_append_left (by omega)]
/-- f begins at 0, rises, and repeats behind n granules, P later -/
structure Gr (f : Int → Int) (n : Nat) (P : Int) : Prop where
  n1 : 0 < n
  n2 : n ≤ 4800
  p1 : 1 ≤ P
  p2 : P ≤ 146097
  zero : f 0 = 0
  up : ∀ i, f i < f (i + 1)
  per : ∀ i, f (i + n) = f i + P
  /-- no smaller period: the granule that would have to come again does not -/
  least : ∀ m : Nat, 1 ≤ m → m < n → n % m = 0 → P % ((n / m : Nat) : Int) = 0 → f m ≠ P / ((n / m : Nat) : Int)
theorem Gr.le {f : Int → Int} {n : Nat} {P : Int} (g : Gr f n P) : ∀ (k : Nat) (a : Int), f a ≤ f (a + k)
  | 0, a => by simp
  | k + 1, a => by
    have h := g.le k a
    have h2 := g.up (a + k)
    rw [show a + ((k + 1 : Nat) : Int) = a + k + 1 by omega]; omega
theorem Gr.mono {f : Int → Int} {n : Nat} {P : Int} (g : Gr f n P) {a b : Int} (h : a ≤ b) : f a ≤ f b := by
  have := g.le (b - a).toNat a
  rw [show a + (((b - a).toNat : Nat) : Int) = b by omega] at this
  exact this
theorem Gr.lt {f : Int → Int} {n : Nat} {P : Int} (g : Gr f n P) {a b : Int} (h : a < b) : f a < f b :=
  Int.lt_of_lt_of_le (g.up a) (g.mono (by omega))
theorem Gr.end {f : Int → Int} {n : Nat} {P : Int} (g : Gr f n P) : f n = P := by
  have := g.per 0
  rw [g.zero] at this; simpa using this
theorem Gr.bd {f : Int → Int} {n : Nat} {P : Int} (g : Gr f n P) {i : Int} (h0 : 0 ≤ i) (h1 : i ≤ n) : 0 ≤ f i ∧ f i ≤ P := by
  have a := g.mono h0; have b := g.mono h1
  rw [g.zero] at a; rw [g.end] at b; exact ⟨a, b⟩
theorem Gr.pers {f : Int → Int} {n : Nat} {P : Int} (g : Gr f n P) (i : Int) : ∀ q : Nat, f (i + n * q) = f i + P * q
  | 0 => by simp
  | q + 1 => by
    have h := g.pers i q
    have h2 := g.per (i + n * q)
    rw [show i + (n : Int) * ((q + 1 : Nat) : Int) = i + n * q + n by push_cast; rw [Int.mul_add]; omega, h2, h]
    push_cast; rw [Int.mul_add]; omega
/-- far along the line, both ways -/
theorem Gr.far {f : Int → Int} {n : Nat} {P : Int} (g : Gr f n P) (i q : Int) : f (i + n * q) = f i + P * q := by
  rcases Int.le_total 0 q with h | h
  · have := g.pers i q.toNat
    rw [show ((q.toNat : Nat) : Int) = q by omega] at this; exact this
  · have := g.pers (i + n * q) (-q).toNat
    rw [show (((-q).toNat : Nat) : Int) = -q by omega, show i + (n : Int) * q + n * -q = i by rw [Int.mul_neg]; omega, Int.mul_neg] at this
    omega
theorem Gr.split {f : Int → Int} {n : Nat} {P : Int} (g : Gr f n P) (k : Int) : f k = f (k % n) + P * (k / n) := by
  have := g.far (k % n) (k / n)
  rw [Int.emod_add_mul_ediv] at this
  exact this
/-- the granule of a number -/
theorem Gr.ex {f : Int → Int} {n : Nat} {P : Int} (g : Gr f n P) {r : Int} (h0 : 0 ≤ r) (h1 : r < P) : ∃ i : Nat, i < n ∧ f i ≤ r ∧ r < f (i + 1) := by
  obtain ⟨y, a, b, c, d⟩ := bracket f r n 0 (by rw [g.zero]; exact h0) (by rw [Int.zero_add, g.end]; exact h1)
  exact ⟨y.toNat, by omega, by rw [show ((y.toNat : Nat) : Int) = y by omega]; exact c, by rw [show ((y.toNat : Nat) : Int) = y by omega]; exact d⟩
theorem Gr.uniq {f : Int → Int} {n : Nat} {P : Int} (g : Gr f n P) {a b r : Int} (a1 : f a ≤ r) (a2 : r < f (a + 1)) (b1 : f b ≤ r) (b2 : r < f (b + 1)) : a = b := by
  rcases Int.lt_trichotomy a b with q | q | q
  · have := g.mono (show a + 1 ≤ b by omega); omega
  · exact q
  · have := g.mono (show b + 1 ≤ a by omega); omega
/-- the number of the granule that holds x -/
theorem Gr.near {f : Int → Int} {n : Nat} {P : Int} (g : Gr f n P) {x k : Int} (h1 : f k ≤ x) (h2 : x < f (k + 1)) {i : Nat} (i1 : f i ≤ x % P) (i2 : x % P < f (i + 1)) : n * (x / P) + i = k := by
  have e := Int.emod_add_mul_ediv x P
  have f1 := g.far i (x / P)
  have f2 := g.far (i + 1) (x / P)
  refine g.uniq (r := x) ?_ ?_ h1 h2
  · rw [show (n : Int) * (x / P) + i = i + n * (x / P) by omega, f1]; omega
  · rw [show (n : Int) * (x / P) + i + 1 = i + 1 + n * (x / P) by omega, f2]; omega
/-- where months begin, counted from January 1970 -/
def ms (i : Int) : Int := dayG (1970 + i / 12) (i % 12 + 1) 1
def ml (i : Int) : Int := lenG (1970 + i / 12) (i % 12 + 1)
theorem ms_succ (i : Int) : ms (i + 1) = ms i + ml i := by
  unfold ms ml dayG
  by_cases h : i % 12 = 11
  · rw [h, show (i + 1) / 12 = i / 12 + 1 by omega, show (i + 1) % 12 = 0 by omega, show 1970 + (i / 12 + 1) = 1970 + i / 12 + 1 by omega, ysG_succ]
    have e1 : cumG (1970 + i / 12 + 1) (0 + 1) = 0 := by simp [cumG]
    have e2 : cumG (1970 + i / 12) (11 + 1) + lenG (1970 + i / 12) (11 + 1) = 365 + lg (1970 + i / 12) := by simp [cumG, lenG, lenB]; omega
    omega
  · rw [show (i + 1) / 12 = i / 12 by omega, show (i + 1) % 12 = i % 12 + 1 by omega, cumG_succ _ (m := i % 12 + 1) (by omega) (by omega)]
    omega
theorem lg_400 (y : Int) : lg (y + 400) = lg y := by unfold lg; split <;> split <;> omega
theorem ms_per (i : Int) : ms (i + 4800) = ms i + 146097 := by
  unfold ms dayG
  rw [show (i + 4800) / 12 = i / 12 + 400 by omega, show (i + 4800) % 12 = i % 12 by omega, show 1970 + (i / 12 + 400) = 1970 + i / 12 + 400 by omega]
  have e1 : ysG (1970 + i / 12 + 400) = ysG (1970 + i / 12) + 146097 := by unfold ysG; omega
  have e2 : cumG (1970 + i / 12 + 400) (i % 12 + 1) = cumG (1970 + i / 12) (i % 12 + 1) := by unfold cumG; rw [lg_400]
  omega
theorem months : Gr ms 4800 146097 where
  n1 := by omega
  n2 := by omega
  p1 := by omega
  p2 := by omega
  zero := by decide
  up i := by have := ms_succ i; have := lenG_bd (1970 + i / 12) (i % 12 + 1); unfold ml at *; omega
  per := ms_per
  least m h1 h2 h3 h4 := by
    have hm : 4800 / m * m = 4800 := Nat.div_mul_cancel (Nat.dvd_of_mod_eq_zero h3)
    generalize 4800 / m = q at hm h4 ⊢
    have hq : q ∣ 4800 := ⟨m, hm.symm⟩
    have hp : q ∣ 146097 := Int.ofNat_dvd.1 (Int.dvd_of_emod_eq_zero h4)
    have hg : q ∣ Nat.gcd 4800 146097 := Nat.dvd_gcd hq hp
    have hg3 : Nat.gcd 4800 146097 = 3 := by decide +kernel
    rw [hg3] at hg
    have hle := Nat.le_of_dvd (by omega) hg
    have hc : q = 0 ∨ q = 1 ∨ q = 2 ∨ q = 3 := by omega
    rcases hc with rfl | rfl | rfl | rfl
    · omega
    · omega
    · exact absurd hg (by decide)
    · have : m = 1600 := by omega
      subst this
      decide
/-- where years begin, counted from 1970 -/
def yr (a : Int) : Int := ysG (1970 + a)
theorem years : Gr yr 400 146097 where
  n1 := by omega
  n2 := by omega
  p1 := by omega
  p2 := by omega
  zero := by decide
  up i := by unfold yr; have := ysG_succ (1970 + i); have := lg_01 (1970 + i); rw [show 1970 + (i + 1) = 1970 + i + 1 by omega]; omega
  per i := by unfold yr ysG; omega
  least m h1 h2 h3 h4 := by
    have hm : 400 / m * m = 400 := Nat.div_mul_cancel (Nat.dvd_of_mod_eq_zero h3)
    generalize 400 / m = q at hm h4 ⊢
    have hq : q ∣ 400 := ⟨m, hm.symm⟩
    have hp : q ∣ 146097 := Int.ofNat_dvd.1 (Int.dvd_of_emod_eq_zero h4)
    have hg : q ∣ Nat.gcd 400 146097 := Nat.dvd_gcd hq hp
    have hg1 : Nat.gcd 400 146097 = 1 := by decide +kernel
    rw [hg1] at hg
    have hle := Nat.le_of_dvd (by omega) hg
    have hc : q = 0 ∨ q = 1 := by omega
    rcases hc with rfl | rfl <;> omega
def wk (a : Int) : Int := 7 * a
theorem weeks : Gr wk 1 7 where
  n1 := by omega
  n2 := by omega
  p1 := by omega
  p2 := by omega
  zero := by decide
  up i := by unfold wk; omega
  per i := by unfold wk; omega
  least m h1 h2 _ _ := by omega
/-- the month of a day -/
theorem month_of {n : Int} (h : inB n = true) : ms (12 * (yG n - 1970) + mG n - 1) ≤ n ∧ n < ms (12 * (yG n - 1970) + mG n - 1 + 1) := by
  obtain ⟨ho, hd⟩ := dtG_spec h
  obtain ⟨_, _, m1, m2, a1, a2⟩ := ho
  rw [ms_succ]
  unfold ms ml
  rw [show 1970 + (12 * (yG n - 1970) + mG n - 1) / 12 = yG n by omega, show (12 * (yG n - 1970) + mG n - 1) % 12 + 1 = mG n by omega]
  unfold dayG at hd ⊢
  omega
theorem year_of {n : Int} (h : inB n = true) : yr (yG n - 1970) ≤ n ∧ n < yr (yG n - 1970 + 1) := by
  obtain ⟨ho, hd⟩ := dtG_spec h
  have hb := dayG_bd ho
  rw [hd] at hb
  unfold yr
  rw [show 1970 + (yG n - 1970) = yG n by omega, show 1970 + (yG n - 1970 + 1) = yG n + 1 by omega]
  exact hb
/-- a year is twelve months -/
theorem year_ms (a : Int) : yr a = ms (12 * a) := by
  unfold yr ms
  rw [show 12 * a / 12 = a by omega, show 12 * a % 12 + 1 = 1 by omega]
  unfold dayG cumG; simp
end Gra
namespace Gra
open Cal
theorem Gr.quo {f : Int → Int} {n : Nat} {P : Int} (g : Gr f n P) {k : Int} (k1 : -10000000 ≤ k) (k2 : k ≤ 10000000) :
    -10000000 ≤ k / n ∧ k / n ≤ 10000000 ∧ -1460970000000 ≤ P * (k / n) ∧ P * (k / n) ≤ 1460970000000 ∧ 0 ≤ k % n ∧ k % n < n ∧ (n : Int) * (k / n) = k - k % n := by
  have n1 := g.n1
  have p1 := g.p1
  have p2 := g.p2
  have h1 : -10000000 ≤ k / n := (Int.le_ediv_iff_mul_le (by omega)).2 (by omega)
  have h2 : k / n < 10000001 := (Int.ediv_lt_iff_lt_mul (by omega)).2 (by omega)
  have h3 := Int.mul_le_mul_of_nonneg_left h1 (show 0 ≤ P by omega)
  have h4 := Int.mul_le_mul_of_nonneg_left (show k / n ≤ 10000000 by omega) (show 0 ≤ P by omega)
  have h5 := Int.emod_nonneg k (b := (n : Int)) (by omega)
  have h6 := Int.emod_lt_of_pos k (b := (n : Int)) (by omega)
  have h7 := Int.emod_add_mul_ediv k n
  refine ⟨h1, by omega, by omega, by omega, h5, h6, by omega⟩
/-- the granule k, by its place in the list -/
theorem Gr.at {f : Int → Int} {n : Nat} {P : Int} (g : Gr f n P) (k : Int) : f (k % n) + P * (k / n) = f k ∧ f (k % n + 1) + P * (k / n) = f (k + 1) := by
  have h := g.far (k % n) (k / n)
  have h2 := g.far (k % n + 1) (k / n)
  have e := Int.emod_add_mul_ediv k n
  rw [e] at h
  rw [show k % n + 1 + n * (k / n) = k + 1 by omega] at h2
  exact ⟨h.symm, h2.symm⟩
/-- far away from the line -/
theorem Gr.reach {f : Int → Int} {n : Nat} {P : Int} (g : Gr f n P) : 60000000 ≤ (8796093022208 : Int) / P ∧ (-8796093022208 : Int).tdiv P = -((8796093022208 : Int) / P) := by
  have p1 := g.p1
  have p2 := g.p2
  refine ⟨(Int.le_ediv_iff_mul_le (by omega)).2 (by omega), ?_⟩
  rw [Int.neg_tdiv, Int.tdiv_eq_ediv_of_nonneg (by omega)]
/-- the place in the list of what is left of a number, and the number of the granule -/
theorem Gr.find {f : Int → Int} {n : Nat} {P : Int} (g : Gr f n P) {x k : Int} (h1 : f k ≤ x) (h2 : x < f (k + 1)) :
    ∃ i : Nat, i < n ∧ f i ≤ x % P ∧ x % P < f (i + 1) ∧ (n : Int) * (x / P) + i = k ∧ 0 ≤ x % P ∧ x % P < P ∧ P * (x / P) = x - x % P := by
  have p1 := g.p1
  have m0 := Int.emod_nonneg x (b := P) (by omega)
  have m1 := Int.emod_lt_of_pos x (b := P) (by omega)
  have e := Int.emod_add_mul_ediv x P
  obtain ⟨i, a, b, c⟩ := g.ex m0 m1
  exact ⟨i, a, b, c, g.near h1 h2 b c, m0, m1, by omega⟩
theorem Gr.line {f : Int → Int} {n : Nat} {P : Int} (g : Gr f n P) {x : Int} (h1 : -9000000000000 ≤ x) (h2 : x ≤ 9000000000000) : -9000000000000 ≤ x / P ∧ x / P ≤ 9000000000000 := by
  have p1 := g.p1
  have h3 : -9000000000000 ≤ x / P := (Int.le_ediv_iff_mul_le (by omega)).2 (by omega)
  have h4 : x / P < 9000000000001 := (Int.ediv_lt_iff_lt_mul (by omega)).2 (by omega)
  omega
/-- the test of the search: the first span that begins behind -/
theorem Gr.test {f : Int → Int} {n : Nat} {P : Int} (g : Gr f n P) {r : Int} {i j : Nat} (h1 : f i ≤ r) (h2 : r < f (i + 1)) : (i < j → r < f j) ∧ (j ≤ i → f j ≤ r) := by
  refine ⟨fun h => ?_, fun h => ?_⟩
  · have := g.mono (show (i : Int) + 1 ≤ j by omega); omega
  · have := g.mono (show (j : Int) ≤ i by omega); omega
end Gra
