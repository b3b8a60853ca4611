/- Plain arithmetic of calendars of weeks. No conditions. -/
import Derived.Test.YtajpbajffmiceaaCalB
namespace Wk
open Cal
def rB (f mi : Int) : Bool := decide (1 ≤ f ∧ f ≤ 7 ∧ 1 ≤ mi ∧ mi ≤ 7)
theorem rB_iff {f mi : Int} : rB f mi = true ↔ 1 ≤ f ∧ f ≤ 7 ∧ 1 ≤ mi ∧ mi ≤ 7 := by unfold rB; exact decide_eq_true_iff
def wd (n : Int) : Int := (n + 3) % 7 + 1
/-- the first day of a week-year -/
def bg (f mi y : Int) : Int := if mi ≤ 7 - (wd (ysG y) - f) % 7 then ysG y - (wd (ysG y) - f) % 7 else ysG y - (wd (ysG y) - f) % 7 + 7
theorem bg_spec {f mi : Int} (h : rB f mi = true) (y : Int) : wd (bg f mi y) = f ∧ ysG y + mi - 7 ≤ bg f mi y ∧ bg f mi y < ysG y + mi := by
  obtain ⟨h1, h2, h3, h4⟩ := rB_iff.1 h
  unfold bg wd; split <;> omega
theorem bg_uniq {f mi y n : Int} (h : rB f mi = true) (h1 : wd n = f) (h2 : ysG y + mi - 7 ≤ n) (h3 : n < ysG y + mi) : n = bg f mi y := by
  obtain ⟨g1, g2, g3⟩ := bg_spec h y
  unfold wd at *; omega
theorem bg_near {f mi : Int} (h : rB f mi = true) (y : Int) : ysG y - 6 ≤ bg f mi y ∧ bg f mi y ≤ ysG y + 6 := by
  obtain ⟨g1, g2, g3⟩ := bg_spec h y
  have := rB_iff.1 h; omega
theorem bg_succ {f mi : Int} (h : rB f mi = true) (y : Int) : bg f mi (y + 1) = bg f mi y + 364 ∨ bg f mi (y + 1) = bg f mi y + 371 := by
  obtain ⟨g1, g2, g3⟩ := bg_spec h y
  obtain ⟨k1, k2, k3⟩ := bg_spec h (y + 1)
  have := ysG_succ y; have := lg_01 y; have := rB_iff.1 h
  unfold wd at *; omega
def wks (f mi y : Int) : Int := (bg f mi (y + 1) - bg f mi y) / 7
theorem wks_52 {f mi : Int} (h : rB f mi = true) (y : Int) : (wks f mi y = 52 ∨ wks f mi y = 53) ∧ bg f mi (y + 1) = bg f mi y + 7 * wks f mi y := by
  have := bg_succ h y; unfold wks; omega
theorem bg_lt {f mi : Int} (h : rB f mi = true) : ∀ (n : Nat) (y : Int), bg f mi (y + 1) ≤ bg f mi (y + 1 + n)
  | 0, y => by simp
  | n + 1, y => by
    have h1 := bg_lt h n y
    have h2 := bg_succ h (y + 1 + n)
    rw [show y + 1 + ((n + 1 : Nat) : Int) = y + 1 + n + 1 by omega]; omega
theorem bg_mono {f mi a b : Int} (h : rB f mi = true) (hab : a < b) : bg f mi (a + 1) ≤ bg f mi b := by
  have := bg_lt h (b - a - 1).toNat a
  rw [show a + 1 + (((b - a - 1).toNat : Nat) : Int) = b by omega] at this
  exact this
/-- the week-year of a day -/
theorem wy_uniq {f mi a b n : Int} (h : rB f mi = true) (h1 : bg f mi a ≤ n) (h2 : n < bg f mi (a + 1)) (h3 : bg f mi b ≤ n) (h4 : n < bg f mi (b + 1)) : a = b := by
  rcases Int.lt_trichotomy a b with q | q | q
  · have := bg_mono h q; omega
  · exact q
  · have := bg_mono h q; omega
noncomputable def wy (f mi n : Int) : Int := if n < bg f mi (yG n) then yG n - 1 else if bg f mi (yG n + 1) ≤ n then yG n + 1 else yG n
theorem wy_spec {f mi n : Int} (h : rB f mi = true) (hi : inB n = true) : bg f mi (wy f mi n) ≤ n ∧ n < bg f mi (wy f mi n + 1) ∧ 0 ≤ wy f mi n ∧ wy f mi n ≤ 10000 := by
  obtain ⟨ho, hd⟩ := dtG_spec hi
  have hb := dayG_bd ho
  rw [hd] at hb
  have hy := ho.1; have hy' := ho.2.1
  unfold wy
  generalize yG n = y at *
  have n1 := bg_near h (y - 1); have n2 := bg_near h (y + 1); have n3 := bg_near h (y + 2); have n0 := bg_near h y
  have s1 := ysG_succ (y - 1); have s2 := ysG_succ y; have s3 := ysG_succ (y + 1)
  rw [show y - 1 + 1 = y by omega] at s1
  rw [show y + 1 + 1 = y + 2 by omega] at s3
  have l1 := lg_01 (y - 1); have l2 := lg_01 y; have l3 := lg_01 (y + 1)
  split
  · rw [show y - 1 + 1 = y by omega]; omega
  · split
    · rw [show y + 1 + 1 = y + 2 by omega]; omega
    · omega
theorem wy_eq {f mi n y : Int} (h : rB f mi = true) (hi : inB n = true) (h1 : bg f mi y ≤ n) (h2 : n < bg f mi (y + 1)) : y = wy f mi n :=
  have s := wy_spec h hi
  wy_uniq h h1 h2 s.1 s.2.1
def yB (y : Int) : Bool := decide (1 ≤ y ∧ y ≤ 9999)
theorem yB_iff {y : Int} : yB y = true ↔ 1 ≤ y ∧ y ≤ 9999 := by unfold yB; exact decide_eq_true_iff
/-- Of's results -/
noncomputable def okOf (f mi n : Int) : Bool := rB f mi && (inB n && yB (wy f mi n))
noncomputable def ofY (f mi n : Int) : Int := if okOf f mi n then wy f mi n else 0
noncomputable def ofW (f mi n : Int) : Int := if okOf f mi n then (n - bg f mi (wy f mi n)) / 7 + 1 else 0
noncomputable def ofD (f mi n : Int) : Int := if okOf f mi n then wd n else 0
noncomputable def ofE (f mi n : Int) : Int := if rB f mi then if inB n && yB (wy f mi n) then 0 else 2 else 1
def stN (f mi y : Int) : Int := if rB f mi && yB y then bg f mi y else 0
def stE (f mi y : Int) : Int := if rB f mi then if yB y then 0 else 2 else 1
def wkN (f mi y : Int) : Int := if rB f mi && yB y then wks f mi y else 0
/-- Day's results -/
def okDay (f mi y k d : Int) : Bool := rB f mi && (yB y && decide (1 ≤ k ∧ k ≤ wks f mi y ∧ 1 ≤ d ∧ d ≤ 7) && inB (bg f mi y + 7 * (k - 1) + (d - f) % 7))
def dyN (f mi y k d : Int) : Int := if okDay f mi y k d then bg f mi y + 7 * (k - 1) + (d - f) % 7 else 0
def dyE (f mi y k d : Int) : Int := if rB f mi then if okDay f mi y k d then 0 else 2 else 1
noncomputable def orN (n : Int) : Int := if inB n then n - ysG (yG n) + 1 else 0
def foB (y n : Int) : Bool := yB y && decide (1 ≤ n ∧ n ≤ ysG (y + 1) - ysG y)
def foN (y n : Int) : Int := if foB y n then ysG y + n - 1 else 0
def foE (y n : Int) : Int := if foB y n then 0 else 2
end Wk
