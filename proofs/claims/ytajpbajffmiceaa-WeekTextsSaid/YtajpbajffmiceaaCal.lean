/- Plain arithmetic of the Gregorian and the Julian calendar: the lengths of months, the first days of years, the day of a date, and that dates are told apart by their days. No conditions. -/
namespace Cal
/-- 1 in a Gregorian leap year. -/
def lg (y : Int) : Int := if y % 4 = 0 ∧ (y % 100 ≠ 0 ∨ y % 400 = 0) then 1 else 0
/-- 1 in a Julian leap year. -/
def lj (y : Int) : Int := if y % 4 = 0 then 1 else 0
def lenB (m : Int) : Int := if m = 2 then 28 else if m = 4 ∨ m = 6 ∨ m = 9 ∨ m = 11 then 30 else 31
def lenG (y m : Int) : Int := if m = 2 then 28 + lg y else lenB m
def lenJ (y m : Int) : Int := if m = 2 then 28 + lj y else lenB m
/-- days before a month, in a year that is no leap year -/
def cumB (m : Int) : Int := if m ≤ 2 then 31 * (m - 1) else (153 * (m - 3) + 2) / 5 + 59
def cumG (y m : Int) : Int := if m ≤ 2 then 31 * (m - 1) else (153 * (m - 3) + 2) / 5 + 59 + lg y
def cumJ (y m : Int) : Int := if m ≤ 2 then 31 * (m - 1) else (153 * (m - 3) + 2) / 5 + 59 + lj y
def ysG (y : Int) : Int := 365 * (y - 1) + (y - 1) / 4 - (y - 1) / 100 + (y - 1) / 400 - 719162
def ysJ (y : Int) : Int := 365 * (y - 1) + (y - 1) / 4 - 719164
def dayG (y m d : Int) : Int := ysG y + cumG y m + d - 1
def dayJ (y m d : Int) : Int := ysJ y + cumJ y m + d - 1
def okG (y m d : Int) : Prop := 1 ≤ y ∧ y ≤ 9999 ∧ 1 ≤ m ∧ m ≤ 12 ∧ 1 ≤ d ∧ d ≤ lenG y m
def okJ (y m d : Int) : Prop := 1 ≤ y ∧ y ≤ 9999 ∧ 1 ≤ m ∧ m ≤ 12 ∧ 1 ≤ d ∧ d ≤ lenJ y m

theorem lg_01 (y : Int) : 0 ≤ lg y ∧ lg y ≤ 1 := by unfold lg; split <;> omega
theorem lj_01 (y : Int) : 0 ≤ lj y ∧ lj y ≤ 1 := by unfold lj; split <;> omega
theorem m12 {m : Int} (h1 : 1 ≤ m) (h2 : m ≤ 12) : m = 1 ∨ m = 2 ∨ m = 3 ∨ m = 4 ∨ m = 5 ∨ m = 6 ∨ m = 7 ∨ m = 8 ∨ m = 9 ∨ m = 10 ∨ m = 11 ∨ m = 12 := by omega
theorem ysG_succ (y : Int) : ysG (y + 1) = ysG y + 365 + lg y := by unfold ysG lg; split <;> omega
theorem ysJ_succ (y : Int) : ysJ (y + 1) = ysJ y + 365 + lj y := by unfold ysJ lj; split <;> omega
theorem ysG_lt {a b : Int} (h : a < b) : ysG (a + 1) ≤ ysG b := by unfold ysG; omega
theorem ysJ_lt {a b : Int} (h : a < b) : ysJ (a + 1) ≤ ysJ b := by unfold ysJ; omega
theorem ysG_mono {a b : Int} (h : a ≤ b) : ysG a ≤ ysG b := by unfold ysG; omega
theorem ysJ_mono {a b : Int} (h : a ≤ b) : ysJ a ≤ ysJ b := by unfold ysJ; omega
theorem lenG_bd (y m : Int) : 28 ≤ lenG y m ∧ lenG y m ≤ 31 := by have := lg_01 y; unfold lenG lenB; repeat' split
                                                                  all_goals omega
theorem lenJ_bd (y m : Int) : 28 ≤ lenJ y m ∧ lenJ y m ≤ 31 := by have := lj_01 y; unfold lenJ lenB; repeat' split
                                                                  all_goals omega
theorem cumG_succ (y : Int) {m : Int} (h1 : 1 ≤ m) (h2 : m ≤ 11) : cumG y (m + 1) = cumG y m + lenG y m := by
  have h : m = 1 ∨ m = 2 ∨ m = 3 ∨ m = 4 ∨ m = 5 ∨ m = 6 ∨ m = 7 ∨ m = 8 ∨ m = 9 ∨ m = 10 ∨ m = 11 := by omega
  rcases h with rfl | rfl | rfl | rfl | rfl | rfl | rfl | rfl | rfl | rfl | rfl <;> simp [cumG, lenG, lenB] <;> omega
theorem cumJ_succ (y : Int) {m : Int} (h1 : 1 ≤ m) (h2 : m ≤ 11) : cumJ y (m + 1) = cumJ y m + lenJ y m := by
  have h : m = 1 ∨ m = 2 ∨ m = 3 ∨ m = 4 ∨ m = 5 ∨ m = 6 ∨ m = 7 ∨ m = 8 ∨ m = 9 ∨ m = 10 ∨ m = 11 := by omega
  rcases h with rfl | rfl | rfl | rfl | rfl | rfl | rfl | rfl | rfl | rfl | rfl <;> simp [cumJ, lenJ, lenB] <;> omega
theorem cumG_bd (y : Int) {m : Int} (h1 : 1 ≤ m) (h2 : m ≤ 12) : 0 ≤ cumG y m ∧ cumG y m + lenG y m ≤ 365 + lg y := by
  have := lg_01 y
  rcases m12 h1 h2 with rfl | rfl | rfl | rfl | rfl | rfl | rfl | rfl | rfl | rfl | rfl | rfl <;> simp [cumG, lenG, lenB] <;> omega
theorem cumJ_bd (y : Int) {m : Int} (h1 : 1 ≤ m) (h2 : m ≤ 12) : 0 ≤ cumJ y m ∧ cumJ y m + lenJ y m ≤ 365 + lj y := by
  have := lj_01 y
  rcases m12 h1 h2 with rfl | rfl | rfl | rfl | rfl | rfl | rfl | rfl | rfl | rfl | rfl | rfl <;> simp [cumJ, lenJ, lenB] <;> omega
theorem cumG_lt (y : Int) {m n : Int} (h1 : 1 ≤ m) (h : m < n) (h2 : n ≤ 12) : cumG y m + lenG y m ≤ cumG y n := by
  have := lg_01 y
  rcases m12 h1 (by omega) with rfl | rfl | rfl | rfl | rfl | rfl | rfl | rfl | rfl | rfl | rfl | rfl <;> simp [cumG, lenG, lenB] <;> (try split) <;> omega
theorem cumJ_lt (y : Int) {m n : Int} (h1 : 1 ≤ m) (h : m < n) (h2 : n ≤ 12) : cumJ y m + lenJ y m ≤ cumJ y n := by
  have := lj_01 y
  rcases m12 h1 (by omega) with rfl | rfl | rfl | rfl | rfl | rfl | rfl | rfl | rfl | rfl | rfl | rfl <;> simp [cumJ, lenJ, lenB] <;> (try split) <;> omega
theorem dayG_bd {y m d : Int} (h : okG y m d) : ysG y ≤ dayG y m d ∧ dayG y m d < ysG (y + 1) := by
  obtain ⟨_, _, h1, h2, h3, h4⟩ := h
  have := cumG_bd y h1 h2; have := ysG_succ y
  unfold dayG; omega
theorem dayJ_bd {y m d : Int} (h : okJ y m d) : ysJ y ≤ dayJ y m d ∧ dayJ y m d < ysJ (y + 1) := by
  obtain ⟨_, _, h1, h2, h3, h4⟩ := h
  have := cumJ_bd y h1 h2; have := ysJ_succ y
  unfold dayJ; omega
theorem dayG_inj {y m d y' m' d' : Int} (h : okG y m d) (h' : okG y' m' d') (e : dayG y m d = dayG y' m' d') : y = y' ∧ m = m' ∧ d = d' := by
  have b := dayG_bd h; have b' := dayG_bd h'
  have hy : y = y' := by
    rcases Int.lt_trichotomy y y' with k | k | k
    · have := ysG_lt k; omega
    · exact k
    · have := ysG_lt k; omega
  subst hy
  obtain ⟨_, _, h1, h2, h3, h4⟩ := h; obtain ⟨_, _, k1, k2, k3, k4⟩ := h'
  unfold dayG at e
  have hm : m = m' := by
    rcases Int.lt_trichotomy m m' with k | k | k
    · have := cumG_lt y h1 k k2; omega
    · exact k
    · have := cumG_lt y k1 k h2; omega
  subst hm
  exact ⟨rfl, rfl, by omega⟩
theorem dayJ_inj {y m d y' m' d' : Int} (h : okJ y m d) (h' : okJ y' m' d') (e : dayJ y m d = dayJ y' m' d') : y = y' ∧ m = m' ∧ d = d' := by
  have b := dayJ_bd h; have b' := dayJ_bd h'
  have hy : y = y' := by
    rcases Int.lt_trichotomy y y' with k | k | k
    · have := ysJ_lt k; omega
    · exact k
    · have := ysJ_lt k; omega
  subst hy
  obtain ⟨_, _, h1, h2, h3, h4⟩ := h; obtain ⟨_, _, k1, k2, k3, k4⟩ := h'
  unfold dayJ at e
  have hm : m = m' := by
    rcases Int.lt_trichotomy m m' with k | k | k
    · have := cumJ_lt y h1 k k2; omega
    · exact k
    · have := cumJ_lt y k1 k h2; omega
  subst hm
  exact ⟨rfl, rfl, by omega⟩
def okGb (y m d : Int) : Bool := decide (1 ≤ y ∧ y ≤ 9999 ∧ 1 ≤ m ∧ m ≤ 12 ∧ 1 ≤ d ∧ d ≤ lenG y m)
def okJb (y m d : Int) : Bool := decide (1 ≤ y ∧ y ≤ 9999 ∧ 1 ≤ m ∧ m ≤ 12 ∧ 1 ≤ d ∧ d ≤ lenJ y m)
def inB (n : Int) : Bool := decide (-719162 ≤ n ∧ n < 2932897)
theorem okGb_iff {y m d : Int} : okGb y m d = true ↔ okG y m d := by unfold okGb okG; exact decide_eq_true_iff
theorem okJb_iff {y m d : Int} : okJb y m d = true ↔ okJ y m d := by unfold okJb okJ; exact decide_eq_true_iff
theorem inB_iff {n : Int} : inB n = true ↔ -719162 ≤ n ∧ n < 2932897 := by unfold inB; exact decide_eq_true_iff
theorem okGb_no {y m d : Int} : okGb y m d = false ↔ ¬ okG y m d := by unfold okGb okG; exact decide_eq_false_iff_not
theorem okJb_no {y m d : Int} : okJb y m d = false ↔ ¬ okJ y m d := by unfold okJb okJ; exact decide_eq_false_iff_not
theorem inB_no {n : Int} : inB n = false ↔ ¬ (-719162 ≤ n ∧ n < 2932897) := by unfold inB; exact decide_eq_false_iff_not
/-- a month's length, 0 for a year or a month that is none -/
def lenJc (y m : Int) : Int := if 1 ≤ y ∧ y ≤ 9999 ∧ 1 ≤ m ∧ m ≤ 12 then lenJ y m else 0
def lenGc (y m : Int) : Int := if 1 ≤ y ∧ y ≤ 9999 ∧ 1 ≤ m ∧ m ≤ 12 then lenG y m else 0
def leapJc (y : Int) : Bool := decide (1 ≤ y ∧ y ≤ 9999 ∧ y % 4 = 0)
def leapGc (y : Int) : Bool := decide (1 ≤ y ∧ y ≤ 9999 ∧ y % 4 = 0 ∧ (y % 100 ≠ 0 ∨ y % 400 = 0))
theorem lenJ_30 (y : Int) : lenJ y 4 = 30 ∧ lenJ y 6 = 30 ∧ lenJ y 9 = 30 ∧ lenJ y 11 = 30 := ⟨rfl, rfl, rfl, rfl⟩
theorem lenJ_31 (y : Int) : lenJ y 1 = 31 ∧ lenJ y 3 = 31 ∧ lenJ y 5 = 31 ∧ lenJ y 7 = 31 ∧ lenJ y 8 = 31 ∧ lenJ y 10 = 31 ∧ lenJ y 12 = 31 := ⟨rfl, rfl, rfl, rfl, rfl, rfl, rfl⟩
theorem lenJc_bd (y m : Int) : 0 ≤ lenJc y m ∧ lenJc y m ≤ 31 := by
  have := lenJ_bd y m; unfold lenJc; split <;> omega
theorem lenGc_bd (y m : Int) : 0 ≤ lenGc y m ∧ lenGc y m ≤ 31 := by
  have := lenG_bd y m; unfold lenGc; split <;> omega
theorem okJb_of (y m d : Int) : okJb y m d = (decide (1 ≤ d) && decide (d ≤ lenJc y m)) := by
  rw [Bool.eq_iff_iff]; simp only [okJb_iff, okJ, Bool.and_eq_true, decide_eq_true_eq]; unfold lenJc
  split <;> constructor <;> intro hh
  · exact ⟨by omega, by omega⟩
  · obtain ⟨h1, h2, h3, h4⟩ := ‹_ ∧ _ ∧ _ ∧ _›; exact ⟨h1, h2, h3, h4, hh.1, hh.2⟩
  · omega
  · omega
theorem okGb_of (y m d : Int) : okGb y m d = (decide (1 ≤ d) && decide (d ≤ lenGc y m)) := by
  rw [Bool.eq_iff_iff]; simp only [okGb_iff, okG, Bool.and_eq_true, decide_eq_true_eq]; unfold lenGc
  split <;> constructor <;> intro hh
  · exact ⟨by omega, by omega⟩
  · obtain ⟨h1, h2, h3, h4⟩ := ‹_ ∧ _ ∧ _ ∧ _›; exact ⟨h1, h2, h3, h4, hh.1, hh.2⟩
  · omega
  · omega
/-- the results of Day: the day or 0, and the error -/
def dayJn (y m d : Int) : Int := if okJb y m d && inB (dayJ y m d) then dayJ y m d else 0
def dayJe (y m d : Int) : Int := if okJb y m d then if inB (dayJ y m d) then 0 else 2 else 1
def dayGn (y m d : Int) : Int := if okGb y m d then dayG y m d else 0
def dayGe (y m d : Int) : Int := if okGb y m d then 0 else 1
theorem ysJ_bd {y : Int} (h1 : 1 ≤ y) (h2 : y ≤ 10000) : -719164 ≤ ysJ y ∧ ysJ y ≤ 2932971 := by unfold ysJ; omega
theorem ysG_bd {y : Int} (h1 : 1 ≤ y) (h2 : y ≤ 10000) : -719162 ≤ ysG y ∧ ysG y ≤ 2932897 := by unfold ysG; omega
theorem dayG_in {y m d : Int} (h : okG y m d) : -719162 ≤ dayG y m d ∧ dayG y m d < 2932897 := by
  have h0 := dayG_bd h
  have h1 := ysG_bd (y := y) h.1 (by have := h.2.1; omega)
  have h2 := ysG_bd (y := y + 1) (by have := h.1; omega) (by have := h.2.1; omega)
  omega
theorem cumJ_succ' (y : Int) (m : Int) (h1 : 1 ≤ m) (h2 : m ≤ 11) (hy : 1 ≤ y) (hy' : y ≤ 9999) : cumJ y m + lenJc y m = cumJ y (m + 1) := by
  rw [cumJ_succ y h1 h2]; unfold lenJc; rw [if_pos (by omega)]
theorem cumG_succ' (y : Int) (m : Int) (h1 : 1 ≤ m) (h2 : m ≤ 11) (hy : 1 ≤ y) (hy' : y ≤ 9999) : cumG y m + lenGc y m = cumG y (m + 1) := by
  rw [cumG_succ y h1 h2]; unfold lenGc; rw [if_pos (by omega)]
def numJ (n : Int) : Int := if inB n then n + 2440588 else 0
def inE (n : Int) : Int := if inB n then 0 else 2
/-- A number that lies between two values of a function lies between two values side by side. -/
theorem bracket (f : Int → Int) (n : Int) : ∀ (k : Nat) (a : Int), f a ≤ n → n < f (a + k) → ∃ y, a ≤ y ∧ y < a + k ∧ f y ≤ n ∧ n < f (y + 1)
  | 0, a, h1, h2 => by simp at h2; omega
  | k + 1, a, h1, h2 => by
    by_cases h : n < f (a + 1)
    · exact ⟨a, by omega, by omega, h1, h⟩
    · obtain ⟨y, h3, h4, h5⟩ := bracket f n k (a + 1) (by omega) (by rw [show a + 1 + (k : Int) = a + ((k + 1 : Nat) : Int) by omega]; exact h2)
      exact ⟨y, by omega, by omega, h5⟩
theorem exG {n : Int} (h : -719162 ≤ n ∧ n < 2932897) : ∃ p : Int × Int × Int, okG p.1 p.2.1 p.2.2 ∧ dayG p.1 p.2.1 p.2.2 = n := by
  obtain ⟨y, h1, h2, h3, h4⟩ := bracket ysG n 9999 1 (by unfold ysG; omega) (by unfold ysG; omega)
  rw [ysG_succ] at h4
  by_cases h5 : n < ysG y + cumG y 12
  · obtain ⟨m, k1, k2, k3, k4⟩ := bracket (fun m => ysG y + cumG y m) n 11 1 (by simp [cumG]; omega) h5
    rw [cumG_succ y k1 (by omega)] at k4
    exact ⟨(y, m, n - ysG y - cumG y m + 1), show okG y m (n - ysG y - cumG y m + 1) from ⟨h1, by omega, k1, by omega, by omega, by omega⟩, show dayG y m (n - ysG y - cumG y m + 1) = n by unfold dayG; omega⟩
  · have e1 : cumG y 12 = 334 + lg y := by simp [cumG]
    have e2 : lenG y 12 = 31 := by simp [lenG, lenB]
    exact ⟨(y, 12, n - ysG y - cumG y 12 + 1), show okG y 12 (n - ysG y - cumG y 12 + 1) from ⟨h1, by omega, by omega, by omega, by omega, by omega⟩, show dayG y 12 (n - ysG y - cumG y 12 + 1) = n by unfold dayG; omega⟩
theorem exJ {n : Int} (h : -719162 ≤ n ∧ n < 2932897) : ∃ p : Int × Int × Int, okJ p.1 p.2.1 p.2.2 ∧ dayJ p.1 p.2.1 p.2.2 = n := by
  obtain ⟨y, h1, h2, h3, h4⟩ := bracket ysJ n 9999 1 (by unfold ysJ; omega) (by unfold ysJ; omega)
  rw [ysJ_succ] at h4
  by_cases h5 : n < ysJ y + cumJ y 12
  · obtain ⟨m, k1, k2, k3, k4⟩ := bracket (fun m => ysJ y + cumJ y m) n 11 1 (by simp [cumJ]; omega) h5
    rw [cumJ_succ y k1 (by omega)] at k4
    exact ⟨(y, m, n - ysJ y - cumJ y m + 1), show okJ y m (n - ysJ y - cumJ y m + 1) from ⟨h1, by omega, k1, by omega, by omega, by omega⟩, show dayJ y m (n - ysJ y - cumJ y m + 1) = n by unfold dayJ; omega⟩
  · have e1 : cumJ y 12 = 334 + lj y := by simp [cumJ]
    have e2 : lenJ y 12 = 31 := by simp [lenJ, lenB]
    exact ⟨(y, 12, n - ysJ y - cumJ y 12 + 1), show okJ y 12 (n - ysJ y - cumJ y 12 + 1) from ⟨h1, by omega, by omega, by omega, by omega, by omega⟩, show dayJ y 12 (n - ysJ y - cumJ y 12 + 1) = n by unfold dayJ; omega⟩
/-- the Gregorian and the Julian date of a day: year, month, day of the month; zeros outside of the range -/
noncomputable def dtG (n : Int) : Int × Int × Int := if inB n then Classical.epsilon fun p => okG p.1 p.2.1 p.2.2 ∧ dayG p.1 p.2.1 p.2.2 = n else (0, 0, 0)
noncomputable def dtJ (n : Int) : Int × Int × Int := if inB n then Classical.epsilon fun p => okJ p.1 p.2.1 p.2.2 ∧ dayJ p.1 p.2.1 p.2.2 = n else (0, 0, 0)
noncomputable def yG (n : Int) : Int := (dtG n).1
noncomputable def mG (n : Int) : Int := (dtG n).2.1
noncomputable def aG (n : Int) : Int := (dtG n).2.2
noncomputable def yJ (n : Int) : Int := (dtJ n).1
noncomputable def mJ (n : Int) : Int := (dtJ n).2.1
noncomputable def aJ (n : Int) : Int := (dtJ n).2.2
theorem dtG_spec {n : Int} (h : inB n = true) : okG (yG n) (mG n) (aG n) ∧ dayG (yG n) (mG n) (aG n) = n := by
  have := Classical.epsilon_spec (exG (inB_iff.1 h)); unfold yG mG aG dtG; rw [if_pos h]; exact this
theorem dtJ_spec {n : Int} (h : inB n = true) : okJ (yJ n) (mJ n) (aJ n) ∧ dayJ (yJ n) (mJ n) (aJ n) = n := by
  have := Classical.epsilon_spec (exJ (inB_iff.1 h)); unfold yJ mJ aJ dtJ; rw [if_pos h]; exact this
theorem dtG_out {n : Int} (h : inB n = false) : yG n = 0 ∧ mG n = 0 ∧ aG n = 0 := by unfold yG mG aG dtG; simp [h]
theorem dtJ_out {n : Int} (h : inB n = false) : yJ n = 0 ∧ mJ n = 0 ∧ aJ n = 0 := by unfold yJ mJ aJ dtJ; simp [h]
theorem dtG_eq {y m d n : Int} (hi : inB n = true) (h : okG y m d) (e : dayG y m d = n) : y = yG n ∧ m = mG n ∧ d = aG n :=
  dayG_inj h (dtG_spec hi).1 (e.trans (dtG_spec hi).2.symm)
theorem dtJ_eq {y m d n : Int} (hi : inB n = true) (h : okJ y m d) (e : dayJ y m d = n) : y = yJ n ∧ m = mJ n ∧ d = aJ n :=
  dayJ_inj h (dtJ_spec hi).1 (e.trans (dtJ_spec hi).2.symm)
theorem cumJ_all (y m : Int) (h1 : 1 ≤ m) (h2 : m ≤ 12) (hy : 1 ≤ y) (hy' : y ≤ 9999) : cumJ y m + lenJc y m = cumJ y (m + 1) := by
  by_cases h : m ≤ 11
  · exact cumJ_succ' y m h1 h hy hy'
  · obtain rfl : m = 12 := by omega
    unfold lenJc; rw [if_pos (by omega)]; simp [cumJ, lenJ, lenB]; omega
theorem cumJ_13 (y : Int) : cumJ y 13 = 365 + lj y := by simp [cumJ]
theorem lenJ_4 (y m : Int) : lenJ (y + 4) m = lenJ y m := by unfold lenJ lj; split <;> (try rfl); split <;> split <;> omega
theorem dayJ_4 (y m d : Int) : dayJ (y + 4) m d = dayJ y m d + 1461 := by
  have h : lj (y + 4) = lj y := by unfold lj; split <;> split <;> omega
  unfold dayJ cumJ ysJ; rw [h]; omega
/-- four years later: the three ways -/
theorem day_4 {y m d : Int} (hv : okJb y m d = true) :
    (9999 < y + 4 ∧ dayJe (y + 4) m d = 1) ∨ (dayJe (y + 4) m d = 2) ∨ (dayJe (y + 4) m d = 0 ∧ dayJn (y + 4) m d = dayJ y m d + 1461) := by
  obtain ⟨h1, h2, h3, h4, h5, h6⟩ := okJb_iff.1 hv
  by_cases hy : 9999 < y + 4
  · have : okJb (y + 4) m d = false := okJb_no.2 (by unfold okJ; omega)
    exact Or.inl ⟨hy, by simp [dayJe, this]⟩
  · have ho : okJb (y + 4) m d = true := okJb_iff.2 ⟨by omega, by omega, h3, h4, h5, by rw [lenJ_4]; exact h6⟩
    by_cases hj : inB (dayJ (y + 4) m d) = true
    · exact Or.inr (Or.inr ⟨by simp [dayJe, ho, hj], by simp only [dayJn, ho, hj, Bool.and_self, if_true]; exact dayJ_4 y m d⟩)
    · exact Or.inr (Or.inl (by simp [dayJe, ho, hj]))
end Cal
