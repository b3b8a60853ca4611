/- Plain arithmetic of the tabular Islamic calendar: leap years, first days of years, the day of a date, and that dates are told apart by their days. No conditions. -/
import Derived.Test.YtbfdmpjgdpglgaaCal
namespace Isl
open Cal (bracket)
def leapsL (k : Int) : List Int :=
  if k = 1 then [2, 5, 7, 10, 13, 15, 18, 21, 24, 26, 29] else if k = 2 then [2, 5, 7, 10, 13, 16, 18, 21, 24, 26, 29]
  else if k = 3 then [2, 5, 8, 10, 13, 16, 19, 21, 24, 27, 29] else [2, 5, 8, 11, 13, 16, 19, 21, 24, 27, 30]
def kB (k : Int) : Bool := decide (1 ≤ k ∧ k ≤ 4)
def yB (y : Int) : Bool := decide (1 ≤ y ∧ y ≤ 9600)
def place (y : Int) : Int := (y - 1) % 30 + 1
def cnt (l : List Int) (p : Int) : Int := (l.filter fun x => decide (x < p)).length
def lp (k y : Int) : Bool := (leapsL k).contains (place y)
def leap (k y : Int) : Bool := kB k && (yB y && lp k y)
def first (k y : Int) : Int := -492148 + (y - 1) / 30 * 10631 + ((y - 1) % 30) * 354 + cnt (leapsL k) (place y)
def ylen (k y : Int) : Int := if lp k y then 355 else 354
def before (m : Int) : Int := 29 * (m - 1) + m / 2
def len (k y m : Int) : Int := if m % 2 = 1 then 30 else if m = 12 ∧ lp k y = true then 30 else 29
def lenc (k y m : Int) : Int := if kB k = true ∧ yB y = true ∧ 1 ≤ m ∧ m ≤ 12 then len k y m else 0
def ylenc (k y : Int) : Int := if kB k = true ∧ yB y = true then ylen k y else 0
def day (k y m d : Int) : Int := first k y + before m + d - 1
def ok (k y m d : Int) : Prop := kB k = true ∧ yB y = true ∧ 1 ≤ m ∧ m ≤ 12 ∧ 1 ≤ d ∧ d ≤ len k y m
theorem kB_iff {k : Int} : kB k = true ↔ 1 ≤ k ∧ k ≤ 4 := by unfold kB; exact decide_eq_true_iff
theorem yB_iff {y : Int} : yB y = true ↔ 1 ≤ y ∧ y ≤ 9600 := by unfold yB; exact decide_eq_true_iff
theorem kinds {k : Int} (h : kB k = true) : k = 1 ∨ k = 2 ∨ k = 3 ∨ k = 4 := by have := kB_iff.1 h; omega
theorem cnt_bd (k p : Int) : 0 ≤ cnt (leapsL k) p ∧ cnt (leapsL k) p ≤ 11 := by
  unfold cnt
  have h := List.length_filter_le (fun x => decide (x < p)) (leapsL k)
  have h2 : (leapsL k).length = 11 := by unfold leapsL; split <;> (try rfl); split <;> (try rfl); split <;> rfl
  omega
theorem table : ∀ k ∈ [(1 : Int), 2, 3, 4], cnt (leapsL k) 1 = 0 ∧ (∀ r ∈ List.range 29, cnt (leapsL k) ((r : Int) + 2) = cnt (leapsL k) ((r : Int) + 1) + (if (leapsL k).contains ((r : Int) + 1) then 1 else 0)) ∧ cnt (leapsL k) 30 + (if (leapsL k).contains 30 then 1 else 0) = 11 := by decide +kernel
theorem cnt_1 {k : Int} (h : kB k = true) : cnt (leapsL k) 1 = 0 := by
  rcases kinds h with rfl | rfl | rfl | rfl <;> rfl
theorem ylen_bd (k y : Int) : 354 ≤ ylen k y ∧ ylen k y ≤ 355 := by unfold ylen; split <;> omega
theorem first_succ {k : Int} (hk : kB k = true) (y : Int) : first k (y + 1) = first k y + ylen k y := by
  have hm : k ∈ [(1 : Int), 2, 3, 4] := by rcases kinds hk with rfl | rfl | rfl | rfl <;> simp
  obtain ⟨t1, t2, t3⟩ := table k hm
  unfold first ylen lp place
  by_cases h : (y - 1) % 30 = 29
  · rw [h, show (y + 1 - 1) % 30 = 0 by omega, show (y + 1 - 1) / 30 = (y - 1) / 30 + 1 by omega]
    simp only [show (0 : Int) + 1 = 1 by rfl, show (29 : Int) + 1 = 30 by rfl, t1]
    split at t3 <;> rename_i q <;> simp only [q] <;> simp <;> omega
  · have hr := t2 ((y - 1) % 30).toNat (by simp; omega)
    rw [show (((y - 1) % 30).toNat : Int) = (y - 1) % 30 by omega] at hr
    rw [show (y + 1 - 1) % 30 = (y - 1) % 30 + 1 by omega, show (y + 1 - 1) / 30 = (y - 1) / 30 by omega]
    rw [show (y - 1) % 30 + 1 + 1 = (y - 1) % 30 + 2 by omega, hr]
    split <;> omega
theorem first_lt {k : Int} (hk : kB k = true) : ∀ (n : Nat) (y : Int), first k (y + 1) ≤ first k (y + 1 + n)
  | 0, y => by simp
  | n + 1, y => by
    have h := first_lt hk n y
    have h2 := first_succ hk (y + 1 + n)
    have h3 := ylen_bd k (y + 1 + n)
    rw [show y + 1 + ((n + 1 : Nat) : Int) = y + 1 + n + 1 by omega]; omega
theorem first_mono {k a b : Int} (hk : kB k = true) (h : a < b) : first k (a + 1) ≤ first k b := by
  have := first_lt hk (b - a - 1).toNat a
  rw [show a + 1 + (((b - a - 1).toNat : Nat) : Int) = b by omega] at this
  exact this
theorem first_bd {k y : Int} (_hk : kB k = true) (h1 : 1 ≤ y) (h2 : y ≤ 9601) : -492148 ≤ first k y ∧ first k y ≤ 2909783 := by
  have := cnt_bd k (place y); unfold first; omega
theorem first_1 {k : Int} (hk : kB k = true) : first k 1 = -492148 := by have := cnt_1 hk; unfold first place; simp [this]
theorem len_bd (k y m : Int) : 29 ≤ len k y m ∧ len k y m ≤ 30 := by unfold len; split <;> (try split) <;> omega
theorem lenc_bd (k y m : Int) : 0 ≤ lenc k y m ∧ lenc k y m ≤ 30 := by have := len_bd k y m; unfold lenc; split <;> omega
theorem before_succ (k y : Int) {m : Int} (_h1 : 1 ≤ m) (h2 : m ≤ 11) : before (m + 1) = before m + len k y m := by
  unfold before len; split <;> (try split) <;> omega
theorem before_12 (k y : Int) : before 12 + len k y 12 = ylen k y := by unfold before len ylen; split <;> (try split) <;> simp_all
theorem before_lt (k y : Int) {m n : Int} (_h1 : 1 ≤ m) (h : m < n) (_h2 : n ≤ 12) : before m + len k y m ≤ before n := by
  unfold before len; split <;> (try split) <;> omega
theorem before_bd (k y : Int) {m : Int} (h1 : 1 ≤ m) (h2 : m ≤ 12) : 0 ≤ before m ∧ before m + len k y m ≤ ylen k y := by
  have h12 := before_12 k y
  have := len_bd k y 12
  by_cases h : m = 12
  · subst h; unfold before at *; omega
  · have := before_lt k y h1 (show m < 12 by omega) (by omega)
    unfold before at *; omega
theorem day_bd {k y m d : Int} (h : ok k y m d) : first k y ≤ day k y m d ∧ day k y m d < first k (y + 1) := by
  obtain ⟨hk, hy, h1, h2, h3, h4⟩ := h
  have := before_bd k y h1 h2; have := first_succ hk y
  unfold day; omega
theorem day_inj {k y m d y' m' d' : Int} (h : ok k y m d) (h' : ok k y' m' d') (e : day k y m d = day k y' m' d') : y = y' ∧ m = m' ∧ d = d' := by
  have b := day_bd h; have b' := day_bd h'
  have hk := h.1
  have hy : y = y' := by
    rcases Int.lt_trichotomy y y' with q | q | q
    · have := first_mono hk q; omega
    · exact q
    · have := first_mono hk q; omega
  subst hy
  obtain ⟨_, _, h1, h2, h3, h4⟩ := h; obtain ⟨_, _, k1, k2, k3, k4⟩ := h'
  unfold day at e
  have hm : m = m' := by
    rcases Int.lt_trichotomy m m' with q | q | q
    · have := before_lt k y h1 q k2; omega
    · exact q
    · have := before_lt k y k1 q h2; omega
  subst hm
  exact ⟨rfl, rfl, by omega⟩
/-- whether a number is a day of the calendar -/
def rB (k n : Int) : Bool := decide (-492148 ≤ n ∧ n < first k 9601)
theorem rB_iff {k n : Int} : rB k n = true ↔ -492148 ≤ n ∧ n < first k 9601 := by unfold rB; exact decide_eq_true_iff
theorem ex {k n : Int} (hk : kB k = true) (h : -492148 ≤ n ∧ n < first k 9601) : ∃ p : Int × Int × Int, ok k p.1 p.2.1 p.2.2 ∧ day k p.1 p.2.1 p.2.2 = n := by
  obtain ⟨y, h1, h2, h3, h4⟩ := bracket (first k) n 9600 1 (by rw [first_1 hk]; exact h.1) h.2
  rw [first_succ hk] at h4
  have hy : yB y = true := yB_iff.2 ⟨h1, by omega⟩
  have h12 := before_12 k y
  by_cases h5 : n < first k y + before 12
  · obtain ⟨m, k1, k2, k3, k4⟩ := bracket (fun m => first k y + before m) n 11 1 (by simp [before]; omega) h5
    rw [before_succ k y k1 (by omega)] at k4
    exact ⟨(y, m, n - first k y - before m + 1), show ok k y m (n - first k y - before m + 1) from ⟨hk, hy, k1, by omega, by omega, by omega⟩, show day k y m (n - first k y - before m + 1) = n by unfold day; omega⟩
  · exact ⟨(y, 12, n - first k y - before 12 + 1), show ok k y 12 (n - first k y - before 12 + 1) from ⟨hk, hy, by omega, by omega, by omega, by omega⟩, show day k y 12 (n - first k y - before 12 + 1) = n by unfold day; omega⟩
noncomputable def dt (k n : Int) : Int × Int × Int := if kB k && rB k n then Classical.epsilon fun p => ok k p.1 p.2.1 p.2.2 ∧ day k p.1 p.2.1 p.2.2 = n else (0, 0, 0)
noncomputable def yI (k n : Int) : Int := (dt k n).1
noncomputable def mI (k n : Int) : Int := (dt k n).2.1
noncomputable def aI (k n : Int) : Int := (dt k n).2.2
def dtE (k n : Int) : Int := if kB k then if rB k n then 0 else 2 else 1
theorem dt_spec {k n : Int} (hk : kB k = true) (h : rB k n = true) : ok k (yI k n) (mI k n) (aI k n) ∧ day k (yI k n) (mI k n) (aI k n) = n := by
  have := Classical.epsilon_spec (ex hk (rB_iff.1 h)); unfold yI mI aI dt; rw [if_pos (by simp [hk, h])]; exact this
theorem dt_out {k n : Int} (h : (kB k && rB k n) = false) : yI k n = 0 ∧ mI k n = 0 ∧ aI k n = 0 := by unfold yI mI aI dt; rw [if_neg (by simp [h])]; exact ⟨rfl, rfl, rfl⟩
theorem dt_eq {k y m d n : Int} (hr : rB k n = true) (h : ok k y m d) (e : day k y m d = n) : y = yI k n ∧ m = mI k n ∧ d = aI k n :=
  day_inj h (dt_spec h.1 hr).1 (e.trans (dt_spec h.1 hr).2.symm)
def okb (k y m d : Int) : Bool := decide (1 ≤ d) && decide (d ≤ lenc k y m)
theorem okb_iff {k y m d : Int} : okb k y m d = true ↔ ok k y m d := by
  unfold okb ok; rw [Bool.and_eq_true, decide_eq_true_eq, decide_eq_true_eq]
  unfold lenc; split
  · rename_i h; obtain ⟨h1, h2, h3, h4⟩ := h; exact ⟨fun h => ⟨h1, h2, h3, h4, h.1, h.2⟩, fun h => ⟨h.2.2.2.2.1, h.2.2.2.2.2⟩⟩
  · rename_i h; exact ⟨fun h => by omega, fun k => absurd ⟨k.1, k.2.1, k.2.2.1, k.2.2.2.1⟩ h⟩
def dayN (k y m d : Int) : Int := if okb k y m d then day k y m d else 0
def dayE (k y m d : Int) : Int := if okb k y m d then 0 else 1
def newN (k y : Int) : Int := if kB k && decide (1 ≤ y ∧ y ≤ 9601) then first k y else 0
def newE (k y : Int) : Int := if kB k then if decide (1 ≤ y ∧ y ≤ 9601) then 0 else 2 else 1
theorem day_in {k y m d : Int} (h : ok k y m d) : rB k (day k y m d) = true := by
  have b := day_bd h
  have hy := yB_iff.1 h.2.1
  have h1 := first_bd h.1 hy.1 (by omega)
  have h2 : first k (y + 1) ≤ first k 9601 := by
    have := first_mono h.1 (show y < 9601 by omega); exact this
  exact rB_iff.2 (by omega)
end Isl
