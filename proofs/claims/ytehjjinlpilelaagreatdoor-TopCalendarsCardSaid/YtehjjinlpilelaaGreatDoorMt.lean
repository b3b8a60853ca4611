/- Plain facts on the dates of a day and of the next day, and on going on by months. Conditions: the days are within range. -/
import Derived.Test.YtehjjinlpilelaaGreatDoorMa
import Derived.Test.YtehjjinlpilelaaGreatDoorMd
import Derived.Test.YtehjjinlpilelaaGreatDoorMf
import Derived.Test.YtehjjinlpilelaaGreatDoorMi
import Derived.Test.YtehjjinlpilelaaGreatDoorMj
import Derived.Test.YtehjjinlpilelaaGreatDoorMk
import Derived.Test.YtehjjinlpilelaaGreatDoorSIslN
import Derived.Test.YtehjjinlpilelaaGreatDoorSTopA
namespace Go.Proofs.YtehjjinlpilelaaGreatDoor
open Go.ChangeShapes Go.WideShapes Go.ChangeAt Go.RowKit
end Go.Proofs.YtehjjinlpilelaaGreatDoor
namespace Top
open Cal
theorem g_fact {n : Int} (h : inB n = true) : inE n = 0 ∧ dayGn (yG n) (mG n) (aG n) = n ∧ dayGe (yG n) (mG n) (aG n) = 0 ∧ okGb (yG n) (mG n) (aG n) = true ∧ 1 ≤ yG n ∧ yG n ≤ 9999 ∧ 1 ≤ mG n ∧ mG n ≤ 12 ∧ 1 ≤ aG n ∧ aG n ≤ 31 := by
  obtain ⟨ho, hd⟩ := dtG_spec h
  have hv := okGb_iff.2 ho
  obtain ⟨h1, h2, h3, h4, h5, h6⟩ := ho
  have := lenG_bd (yG n) (mG n)
  exact ⟨by simp [inE, h], by simp [dayGn, hv, hd], by simp [dayGe, hv], hv, h1, h2, h3, h4, h5, by omega⟩
theorem j_fact {n : Int} (h : inB n = true) : dayJn (yJ n) (mJ n) (aJ n) = n ∧ dayJe (yJ n) (mJ n) (aJ n) = 0 := by
  obtain ⟨ho, hd⟩ := dtJ_spec h
  have hv := okJb_iff.2 ho
  exact ⟨by simp [dayJn, hv, hd, h], by simp [dayJe, hv, hd, h]⟩
theorem n_fact {n : Int} (h : inB n = true) : numJ n = n + 2440588 ∧ Int.tmod (n + 2440588) 7 = (n + 3) % 7 := by
  have := inB_iff.1 h
  refine ⟨by simp [numJ, h], ?_⟩
  rw [Int.tmod_eq_emod_of_nonneg (by omega)]; omega
theorem h_fact {n : Int} (h : inB n = true) : Heb.dE n = 0 ∧ Heb.dayN (Heb.dY n) (Heb.dM n) (Heb.dA n) = n ∧ Heb.dayE (Heb.dY n) (Heb.dM n) (Heb.dA n) = 0 := by
  obtain ⟨ho, hd⟩ := Heb.dt_spec (Heb.in_r h)
  have hv := Heb.okb_iff.2 ho
  exact ⟨by simp [Heb.dE, h], by simp [Heb.dayN, Heb.dayB, Heb.dY, Heb.dM, Heb.dA, h, hv, hd], by simp [Heb.dayE, Heb.dayB, Heb.dY, Heb.dM, Heb.dA, h, hv, hd]⟩
theorem i_fact {k n : Int} (hk : Isl.kB k = true) (h : Isl.rB k n = true) : Isl.dtE k n = 0 ∧ Isl.dayN k (Isl.yI k n) (Isl.mI k n) (Isl.aI k n) = n ∧ Isl.dayE k (Isl.yI k n) (Isl.mI k n) (Isl.aI k n) = 0 ∧ 1 ≤ Isl.yI k n ∧ Isl.yI k n ≤ 9600 ∧ 1 ≤ Isl.mI k n ∧ Isl.mI k n ≤ 12 := by
  obtain ⟨ho, hd⟩ := Isl.dt_spec hk h
  have hv := Isl.okb_iff.2 ho
  obtain ⟨_, hy, h1, h2, _, _⟩ := ho
  have hy := Isl.yB_iff.1 hy
  exact ⟨by simp [Isl.dtE, hk, h], by simp [Isl.dayN, hv, hd], by simp [Isl.dayE, hv], hy.1, hy.2, h1, h2⟩
theorem i_none {k n : Int} (hk : Isl.kB k = true) (h : Isl.rB k n = false) : Isl.dtE k n = 2 := by simp [Isl.dtE, hk, h]
theorem e_fact {n : Int} (h : inB n = true) : Fea.yE (yG n) = 0 ∧ Fea.easter (yG n) + Fea.fdN n = n := by
  obtain ⟨_, _, _, _, h1, h2, _⟩ := g_fact h
  have hy : Fea.yB (yG n) = true := by unfold Fea.yB; simp [h1, h2]
  refine ⟨by simp [Fea.yE, hy], ?_⟩
  simp only [Fea.easter, hy, if_true, Fea.fdN, h]; omega
/-- the date x, y, z follows a, b, c -/
def nxt (a b c x y z : Int) : Prop := (z = 1 ∧ b ≠ y ∧ (a = x ∨ a + 1 = x)) ∨ (z ≠ 1 ∧ x = a ∧ y = b ∧ z = c + 1)
theorem g_next {n : Int} (h : inB n = true) (h' : inB (n + 1) = true) : nxt (yG n) (mG n) (aG n) (yG (n + 1)) (mG (n + 1)) (aG (n + 1)) := by
  obtain ⟨s1, s2, s3⟩ := stepG h h'
  obtain ⟨_, _, _, _, _, _, h3, h4, h5, _⟩ := g_fact h
  by_cases k : aG n < lenGc (yG n) (mG n)
  · obtain ⟨e1, e2, e3⟩ := s1 k
    exact Or.inr ⟨by omega, e1, e2, e3⟩
  · by_cases k2 : mG n < 12
    · obtain ⟨e1, e2, e3⟩ := s2 k k2
      exact Or.inl ⟨e3, by omega, by omega⟩
    · obtain ⟨e1, e2, e3⟩ := s3 k k2
      exact Or.inl ⟨e3, by omega, by omega⟩
theorem j_next {n : Int} (h : inB n = true) (h' : inB (n + 1) = true) : nxt (yJ n) (mJ n) (aJ n) (yJ (n + 1)) (mJ (n + 1)) (aJ (n + 1)) := by
  obtain ⟨s1, s2, s3⟩ := stepJ h h'
  obtain ⟨⟨_, _, h3, h4, h5, _⟩, _⟩ := dtJ_spec h
  by_cases k : aJ n < lenJc (yJ n) (mJ n)
  · obtain ⟨e1, e2, e3⟩ := s1 k
    exact Or.inr ⟨by omega, e1, e2, e3⟩
  · by_cases k2 : mJ n < 12
    · obtain ⟨e1, e2, e3⟩ := s2 k k2
      exact Or.inl ⟨e3, by omega, by omega⟩
    · obtain ⟨e1, e2, e3⟩ := s3 k k2
      exact Or.inl ⟨e3, by omega, by omega⟩
theorem h_next {n : Int} (h : inB n = true) (h' : inB (n + 1) = true) : nxt (Heb.dY n) (Heb.dM n) (Heb.dA n) (Heb.dY (n + 1)) (Heb.dM (n + 1)) (Heb.dA (n + 1)) := by
  obtain ⟨ho, hd⟩ := Heb.dt_spec (Heb.in_r h)
  simp only [Heb.dY, Heb.dM, Heb.dA, h, h', if_true]
  have hn := inB_iff.1 h'
  obtain ⟨hy, m1, m2, d1, d2⟩ := ho
  have hy' := Heb.yB_iff.1 hy
  have hm := Heb.mths_bd (Heb.yH n)
  generalize Heb.yH n = y at *
  generalize Heb.mH n = m at *
  generalize Heb.aH n = d at *
  by_cases k : d < Heb.len y m
  · obtain ⟨e1, e2, e3⟩ := Heb.dt_eq (n := n + 1) (show Heb.ok y m (d + 1) from ⟨hy, m1, m2, by omega, by omega⟩) (by unfold Heb.day at *; omega)
    exact Or.inr ⟨by omega, e1.symm, e2.symm, e3.symm⟩
  · by_cases h6 : m = 6
    · subst h6
      have s := Heb.six_end hy'.1 (show y ≤ 20480 by omega)
      have b := Heb.bg_step (y := y)
      have o7 := Heb.off_7 (y + 1)
      have hl := Heb.len_bd (y + 1) 7
      have hm' := Heb.mths_bd (y + 1)
      have hd' : Heb.day (y + 1) 7 1 = n + 1 := by unfold Heb.day at *; omega
      have hy2 : y + 1 ≤ 20000 := by
        rcases (show y + 1 ≤ 20000 ∨ y = 20000 by omega) with q | q
        · exact q
        · subst q
          have e5 := Heb.bg_20001
          unfold Heb.day at hd'
          rw [show (20000 : Int) + 1 = 20001 by rfl] at hd' o7
          omega
      obtain ⟨e1, e2, e3⟩ := Heb.dt_eq (n := n + 1) (show Heb.ok (y + 1) 7 1 from ⟨Heb.yB_iff.2 ⟨by omega, hy2⟩, by omega, by omega, by omega, by omega⟩) hd'
      exact Or.inl ⟨e3.symm, by omega, by omega⟩
    · obtain ⟨f1, f2, f3⟩ := Heb.fol_off hy'.1 hy'.2 m1 m2 h6
      have hl := Heb.len_bd y (Heb.folM y m)
      have hne : Heb.folM y m ≠ m := by unfold Heb.folM; rw [if_neg h6]; split <;> omega
      obtain ⟨e1, e2, e3⟩ := Heb.dt_eq (n := n + 1) (show Heb.ok y (Heb.folM y m) 1 from ⟨hy, f2, f3, by omega, by omega⟩) (by unfold Heb.day at *; omega)
      exact Or.inl ⟨e3.symm, by omega, by omega⟩
theorem i_next {k n : Int} (hk : Isl.kB k = true) (h : Isl.rB k n = true) (h' : Isl.rB k (n + 1) = true) : nxt (Isl.yI k n) (Isl.mI k n) (Isl.aI k n) (Isl.yI k (n + 1)) (Isl.mI k (n + 1)) (Isl.aI k (n + 1)) := by
  obtain ⟨ho, hd⟩ := Isl.dt_spec hk h
  have hn := Isl.rB_iff.1 h'
  obtain ⟨_, hy, m1, m2, d1, d2⟩ := ho
  have hy' := Isl.yB_iff.1 hy
  generalize Isl.yI k n = y at *
  generalize Isl.mI k n = m at *
  generalize Isl.aI k n = d at *
  by_cases q : d < Isl.len k y m
  · obtain ⟨e1, e2, e3⟩ := Isl.dt_eq h' (show Isl.ok k y m (d + 1) from ⟨hk, hy, m1, m2, by omega, by omega⟩) (by unfold Isl.day at *; omega)
    exact Or.inr ⟨by omega, e1.symm, e2.symm, e3.symm⟩
  · by_cases h12 : m = 12
    · subst h12
      have s := Isl.before_12 k y
      have b := Isl.first_succ hk y
      have hl := Isl.len_bd k (y + 1) 1
      have b1 : Isl.before 1 = 0 := by rfl
      have hd' : Isl.day k (y + 1) 1 1 = n + 1 := by unfold Isl.day at *; omega
      have hy2 : y + 1 ≤ 9600 := by
        rcases (show y + 1 ≤ 9600 ∨ y = 9600 by omega) with r | r
        · exact r
        · subst r
          unfold Isl.day at hd'
          rw [show (9600 : Int) + 1 = 9601 by rfl] at hd'
          omega
      obtain ⟨e1, e2, e3⟩ := Isl.dt_eq h' (show Isl.ok k (y + 1) 1 1 from ⟨hk, Isl.yB_iff.2 ⟨by omega, hy2⟩, by omega, by omega, by omega, by omega⟩) hd'
      exact Or.inl ⟨e3.symm, by omega, by omega⟩
    · have s := Isl.before_succ k y m1 (show m ≤ 11 by omega)
      have hl := Isl.len_bd k y (m + 1)
      obtain ⟨e1, e2, e3⟩ := Isl.dt_eq h' (show Isl.ok k y (m + 1) 1 from ⟨hk, hy, by omega, by omega, by omega, by omega⟩) (by unfold Isl.day at *; omega)
      exact Or.inl ⟨e3.symm, by omega, by omega⟩
/-- the granules of a day: its month, its year, its week -/
theorem m_fact {n : Int} (h : inB n = true) : Gra.ms (12 * (yG n - 1970) + mG n - 1) ≤ n ∧ n < Gra.ms (12 * (yG n - 1970) + mG n - 1 + 1) ∧ Gra.yr (yG n - 1970) ≤ n ∧ n < Gra.yr (yG n - 1970 + 1) ∧
    -30000 ≤ 12 * (yG n - 1970) + mG n - 1 ∧ 12 * (yG n - 1970) + mG n - 1 ≤ 100000 := by
  obtain ⟨a, b⟩ := Gra.month_of h
  obtain ⟨c, d⟩ := Gra.year_of h
  obtain ⟨_, _, _, _, h1, h2, h3, h4, _⟩ := g_fact h
  exact ⟨a, b, c, d, by omega, by omega⟩
theorem w_fact (n : Int) : Gra.wk ((n + 3) / 7) ≤ n - (-3) ∧ n - (-3) < Gra.wk ((n + 3) / 7 + 1) := by unfold Gra.wk; omega
end Top
namespace Top
open Cal
/-- the year's months, and where they lie -/
theorem p_fact {n : Int} (h : inB n = true) : Gra.yr (yG n - 1970) + 0 ≤ Gra.ms (12 * (yG n - 1970) + mG n - 1) + 0 ∧ Gra.ms (12 * (yG n - 1970) + mG n - 1 + 1) + 0 ≤ Gra.yr (yG n - 1970 + 1) + 0 ∧
    Gra.ms (12 * (yG n - 1970)) + 0 = Gra.yr (yG n - 1970) + 0 ∧ -719162 ≤ Gra.yr (yG n - 1970) ∧ -719162 ≤ Gra.ms (12 * (yG n - 1970) + mG n - 1) ∧ Gra.ms (12 * (yG n - 1970) + mG n - 1 + 1) ≤ 2932897 := by
  obtain ⟨_, _, _, _, h1, h2, h3, h4, _⟩ := g_fact h
  have e1 := Gra.year_ms (yG n - 1970)
  have e2 := Gra.year_ms (yG n - 1970 + 1)
  have m1 := Gra.months.mono (a := 12 * (yG n - 1970)) (b := 12 * (yG n - 1970) + mG n - 1) (by omega)
  have m2 := Gra.months.mono (a := 12 * (yG n - 1970) + mG n - 1 + 1) (b := 12 * (yG n - 1970 + 1)) (by omega)
  have b1 := ysG_bd (y := yG n) h1 (by omega)
  have b2 := ysG_bd (y := yG n + 1) (by omega) (by omega)
  have f1 : Gra.yr (yG n - 1970) = ysG (yG n) := by unfold Gra.yr; rw [show 1970 + (yG n - 1970) = yG n by omega]
  have f2 : Gra.yr (yG n - 1970 + 1) = ysG (yG n + 1) := by unfold Gra.yr; rw [show 1970 + (yG n - 1970 + 1) = yG n + 1 by omega]
  omega
/-- the Islamic date of a day leads back to it, and its month holds it -/
theorem i_ok {k n e y m d : Int} (hk : Isl.kB k = true) (he : Isl.dtE k n = e) (hy : Isl.yI k n = y) (hm : Isl.mI k n = m) (hd : Isl.aI k n = d) (z : e = 0) :
    Isl.dayN k y m d = n ∧ Isl.dayE k y m d = 0 ∧ 1 ≤ y ∧ y ≤ 9600 ∧ 1 ≤ m ∧ m ≤ 12 ∧ Isl.S k 1 (12 * (y - 1) + m - 1) ≤ n - Isl.first k 1 ∧ n - Isl.first k 1 < Isl.S k 1 (12 * (y - 1) + m - 1 + 1) ∧ Isl.first k 1 = -492148 := by
  by_cases r : Isl.rB k n = true
  · obtain ⟨_, h2, h3, h4, h5, h6, h7⟩ := i_fact hk r
    obtain ⟨h8, h9⟩ := Gra.islamic_of hk r
    rw [hy, hm] at h2 h3 h8 h9
    rw [hy] at h4 h5
    rw [hm] at h6 h7
    rw [hd] at h2 h3
    exact ⟨h2, h3, h4, h5, h6, h7, h8, h9, Isl.first_1 hk⟩
  · have := i_none hk (Bool.eq_false_iff.2 r)
    omega
end Top
namespace Go.Proofs.YtehjjinlpilelaaGreatDoor
open Cal
theorem add_fact {n s : Int} (h : inB n = true) (hE : amE (yG n) (mG n) s = 0) : ∃ T K F1 F2 F3 : Int,
    12 * (yG n - 1970) + mG n - 1 = K ∧ Gra.ms K = F1 ∧ Gra.ms (K + s) = F2 ∧ Gra.ms (K + s + 1) = F3 ∧
    dayGn (amY (yG n) (mG n) s) (amM (yG n) (mG n) s) (amD (yG n) (mG n) (aG n) s) = T ∧ dayGe (amY (yG n) (mG n) s) (amM (yG n) (mG n) s) (amD (yG n) (mG n) (aG n) s) = 0 ∧
    -30000 ≤ K ∧ K ≤ 100000 ∧ -30000 ≤ K + s ∧ K + s ≤ 100000 ∧ F1 ≤ n ∧ n < Gra.ms (K + 1) ∧ F2 ≤ T ∧ T < F3 ∧
    -719162 ≤ F1 ∧ -719162 ≤ F2 ∧ F3 ≤ 2932900 ∧ -719162 ≤ T ∧ T ≤ 2932900 ∧
    ((F2 + n - F1 ≤ F3 + 0 - 1 ∧ T = F2 + n - F1) ∨ (F3 + 0 - 1 < F2 + n - F1 ∧ T = F3 + 0 - 1)) := by
  obtain ⟨hm1, hm2⟩ := Gra.month_of h
  obtain ⟨ho, hd⟩ := dtG_spec h
  have hmm := Gra.ms_succ (12 * (yG n - 1970) + mG n - 1 + s)
  have e1 : Gra.ms (12 * (yG n - 1970) + mG n - 1) = dayG (yG n) (mG n) 1 := by
    obtain ⟨_, _, h3, h4, _⟩ := ho
    unfold Gra.ms
    rw [show 1970 + (12 * (yG n - 1970) + mG n - 1) / 12 = yG n by omega, show (12 * (yG n - 1970) + mG n - 1) % 12 + 1 = mG n by omega]
  have e2 : Gra.ms (12 * (yG n - 1970) + mG n - 1 + s) = dayG ((12 * yG n + mG n - 1 + s) / 12) ((12 * yG n + mG n - 1 + s) % 12 + 1) 1 ∧ Gra.ml (12 * (yG n - 1970) + mG n - 1 + s) = lenG ((12 * yG n + mG n - 1 + s) / 12) ((12 * yG n + mG n - 1 + s) % 12 + 1) := by
    unfold Gra.ms Gra.ml
    rw [show 1970 + (12 * (yG n - 1970) + mG n - 1 + s) / 12 = (12 * yG n + mG n - 1 + s) / 12 by omega, show (12 * (yG n - 1970) + mG n - 1 + s) % 12 + 1 = (12 * yG n + mG n - 1 + s) % 12 + 1 by omega]
    exact ⟨rfl, rfl⟩
  obtain ⟨e2, e3⟩ := e2
  have hY : 1 ≤ (12 * yG n + mG n - 1 + s) / 12 ∧ (12 * yG n + mG n - 1 + s) / 12 ≤ 9999 := by
    unfold amE at hE
    split at hE
    · assumption
    · cases hE
  have eY : amY (yG n) (mG n) s = (12 * yG n + mG n - 1 + s) / 12 := by unfold amY; rw [if_pos hE]
  have eM : amM (yG n) (mG n) s = (12 * yG n + mG n - 1 + s) % 12 + 1 := by unfold amM; rw [if_pos hE]
  have eD : amD (yG n) (mG n) (aG n) s = if aG n ≤ lenG ((12 * yG n + mG n - 1 + s) / 12) ((12 * yG n + mG n - 1 + s) % 12 + 1) then aG n else lenG ((12 * yG n + mG n - 1 + s) / 12) ((12 * yG n + mG n - 1 + s) % 12 + 1) := by unfold amD; rw [if_pos hE]
  have hL := lenG_bd ((12 * yG n + mG n - 1 + s) / 12) ((12 * yG n + mG n - 1 + s) % 12 + 1)
  have hL0 := lenG_bd (yG n) (mG n)
  have hokd : ∀ d, 1 ≤ d → d ≤ lenG ((12 * yG n + mG n - 1 + s) / 12) ((12 * yG n + mG n - 1 + s) % 12 + 1) → okG ((12 * yG n + mG n - 1 + s) / 12) ((12 * yG n + mG n - 1 + s) % 12 + 1) d := fun d d1 d2 => ⟨hY.1, hY.2, by omega, by omega, d1, d2⟩
  have b1 := dayG_in (hokd 1 (by omega) (by omega))
  have b2 := dayG_in (hokd _ (by omega) (Int.le_refl _))
  have b0 := dayG_in (y := yG n) (m := mG n) (d := 1) ⟨ho.1, ho.2.1, ho.2.2.1, ho.2.2.2.1, by omega, by omega⟩
  have hda : ∀ y m d, dayG y m d = dayG y m 1 + d - 1 := fun y m d => by unfold dayG; omega
  have hmm' : Gra.ms (12 * (yG n - 1970) + mG n - 1 + s + 1) = dayG ((12 * yG n + mG n - 1 + s) / 12) ((12 * yG n + mG n - 1 + s) % 12 + 1) 1 + lenG ((12 * yG n + mG n - 1 + s) / 12) ((12 * yG n + mG n - 1 + s) % 12 + 1) := by rw [hmm, e2, e3]
  obtain ⟨o1, o2, o3, o4, o5, o6⟩ := ho
  have hok' : ∀ d, 1 ≤ d → d ≤ lenG ((12 * yG n + mG n - 1 + s) / 12) ((12 * yG n + mG n - 1 + s) % 12 + 1) → dayGn ((12 * yG n + mG n - 1 + s) / 12) ((12 * yG n + mG n - 1 + s) % 12 + 1) d = dayG ((12 * yG n + mG n - 1 + s) / 12) ((12 * yG n + mG n - 1 + s) % 12 + 1) 1 + d - 1 ∧ dayGe ((12 * yG n + mG n - 1 + s) / 12) ((12 * yG n + mG n - 1 + s) % 12 + 1) d = 0 := fun d d1 d2 => by
    have := okGb_iff.2 (hokd d d1 d2)
    rw [← hda]
    exact ⟨by simp [dayGn, this], by simp [dayGe, this]⟩
  refine ⟨_, _, _, _, _, rfl, rfl, rfl, rfl, rfl, ?_⟩
  rw [e1] at hm1
  rw [hda] at hd
  rw [hda _ _ (lenG _ _)] at b2
  rw [eY, eM, eD, e1, e2, hmm']
  split
  · obtain ⟨c1, c2⟩ := hok' (aG n) (by omega) (by assumption)
    rw [c1]
    exact ⟨c2, by omega, by omega, by omega, by omega, hm1, hm2, by omega, by omega, by omega, by omega, by omega, by omega, by omega, by omega⟩
  · obtain ⟨c1, c2⟩ := hok' (lenG ((12 * yG n + mG n - 1 + s) / 12) ((12 * yG n + mG n - 1 + s) % 12 + 1)) (by omega) (Int.le_refl _)
    rw [c1]
    exact ⟨c2, by omega, by omega, by omega, by omega, hm1, hm2, by omega, by omega, by omega, by omega, by omega, by omega, by omega, by omega⟩
end Go.Proofs.YtehjjinlpilelaaGreatDoor
