/- Plain arithmetic of the Islamic calendar: groups of months, and the days of a Gregorian year with a month and a day. No conditions. -/
import Derived.Test.YtbfdmpjgdpglgaaLaws6A
import Derived.Test.YtbfdmpjgdpglgaaCalB
namespace Isl
/-- days from the first day of the year fr to the beginning of month i -/
def S (k fr i : Int) : Int := first k (fr + i / 12) - first k fr + before (i % 12 + 1)
theorem S_0 (k fr : Int) : S k fr 0 = 0 := by simp [S, before]
theorem S_succ {k fr i : Int} (hk : kB k = true) (f1 : 1 ≤ fr) (f2 : fr ≤ 9571) (i0 : 0 ≤ i) (i1 : i < 360) : S k fr i + lenc k (fr + i / 12) (i % 12 + 1) = S k fr (i + 1) := by
  have hy : yB (fr + i / 12) = true := yB_iff.2 ⟨by omega, by omega⟩
  have hl : lenc k (fr + i / 12) (i % 12 + 1) = len k (fr + i / 12) (i % 12 + 1) := by unfold lenc; rw [if_pos ⟨hk, hy, by omega, by omega⟩]
  rw [hl]; unfold S
  by_cases h : i % 12 = 11
  · rw [h, show (i + 1) / 12 = i / 12 + 1 by omega, show (i + 1) % 12 = 0 by omega, show fr + (i / 12 + 1) = fr + i / 12 + 1 by omega, first_succ hk, show (11 : Int) + 1 = 12 by rfl]
    have := before_12 k (fr + i / 12)
    have : before (0 + 1) = 0 := by rfl
    omega
  · rw [show (i + 1) / 12 = i / 12 by omega, show (i + 1) % 12 = i % 12 + 1 by omega, before_succ (m := i % 12 + 1) k (fr + i / 12) (by omega) (by omega)]
    omega
theorem S_360 (k fr : Int) : S k fr 360 = 10631 := by
  have := first_30 k fr
  unfold S before
  rw [show (360 : Int) / 12 = 30 by rfl, this]; simp; omega
theorem S_bd {k fr i : Int} (hk : kB k = true) (f1 : 1 ≤ fr) (f2 : fr ≤ 9571) (i0 : 0 ≤ i) (i1 : i ≤ 360) : -4000000 ≤ S k fr i ∧ S k fr i ≤ 4000000 := by
  have h1 := first_bd hk f1 (show fr ≤ 9601 by omega)
  have h2 := first_bd hk (show 1 ≤ fr + i / 12 by omega) (show fr + i / 12 ≤ 9601 by omega)
  unfold S before; omega
/-- the spans of j groups of n months -/
def fs (k fr n : Int) : Nat → List Int
  | 0 => []
  | j + 1 => fs k fr n j ++ [S k fr (j * n), S k fr ((j + 1) * n)]
theorem fs_len (k fr n : Int) : ∀ j, (fs k fr n j).length = 2 * j
  | 0 => rfl
  | j + 1 => by simp [fs, fs_len k fr n j]; omega
theorem fs_get (k fr n : Int) : ∀ (j i : Nat), i < j → (fs k fr n j).getD (2 * i) 0 = S k fr (i * n) ∧ (fs k fr n j).getD (2 * i + 1) 0 = S k fr ((i + 1) * n)
  | 0, i, h => by omega
  | j + 1, i, h => by
    have hl := fs_len k fr n j
    by_cases e : i = j
    · subst e
      simp only [fs]
      constructor
      · simp only [List.getD]; rw [List.getElem?_append_right (by omega), show 2 * i - (fs k fr n i).length = 0 by omega]; rfl
      · simp only [List.getD]; rw [List.getElem?_append_right (by omega), show 2 * i + 1 - (fs k fr n i).length = 1 by omega]; rfl
    · obtain ⟨a, b⟩ := fs_get k fr n j i (by omega)
      simp only [fs]
      rw [← a, ← b]
      constructor
      · simp only [List.getD]; rw [List.getElem?_append_left (by omega)]
      · simp only [List.getD]; rw [List.getElem?_append_left (by omega)]
/-- the month i begins so many days behind the first one -/
theorem S_day {k fr i : Int} (hk : kB k = true) (f1 : 1 ≤ fr) (f2 : fr ≤ 9571) (i0 : 0 ≤ i) (i1 : i < 360) : dayN k (fr + i / 12) (i % 12 + 1) 1 = first k fr + S k fr i ∧ dayE k (fr + i / 12) (i % 12 + 1) 1 = 0 := by
  have hy : yB (fr + i / 12) = true := yB_iff.2 ⟨by omega, by omega⟩
  have hb := len_bd k (fr + i / 12) (i % 12 + 1)
  have ho : okb k (fr + i / 12) (i % 12 + 1) 1 = true := okb_iff.2 ⟨hk, hy, by omega, by omega, by omega, by omega⟩
  refine ⟨?_, by simp [dayE, ho]⟩
  have e : dayN k (fr + i / 12) (i % 12 + 1) 1 = day k (fr + i / 12) (i % 12 + 1) 1 := by simp [dayN, ho]
  rw [e]; unfold day S; omega
/-- whether a year's day with a month and a day lies in a span -/
def hit (k m d fr to y : Int) : Bool := okb k y m d && (decide (fr ≤ day k y m d) && decide (day k y m d ≤ to))
/-- the days of n years from lo on -/
def ml (k m d fr to lo : Int) : Nat → List Int
  | 0 => []
  | n + 1 => if hit k m d fr to (lo + n) then ml k m d fr to lo n ++ [day k (lo + n) m d] else ml k m d fr to lo n
theorem ml_yes {k m d fr to lo : Int} {n : Nat} (h : hit k m d fr to (lo + n) = true) : ml k m d fr to lo (n + 1) = ml k m d fr to lo n ++ [day k (lo + n) m d] := by simp [ml, h]
theorem ml_no {k m d fr to lo : Int} {n : Nat} (h : hit k m d fr to (lo + n) = false) : ml k m d fr to lo (n + 1) = ml k m d fr to lo n := by simp [ml, h]
theorem ml_len (k m d fr to lo : Int) : ∀ n, (ml k m d fr to lo n).length ≤ n
  | 0 => by simp [ml]
  | n + 1 => by
    have := ml_len k m d fr to lo n
    simp only [ml]; split
    · simp; omega
    · omega
theorem ml_none (k m d fr to lo : Int) : ∀ n : Nat, (∀ j : Nat, j < n → hit k m d fr to (lo + j) = false) → ml k m d fr to lo n = []
  | 0, _ => rfl
  | n + 1, h => by rw [ml_no (h n (by omega))]; exact ml_none k m d fr to lo n fun j hj => h j (by omega)
theorem ml_front (k m d fr to lo : Int) (a : Nat) (h : ∀ j : Nat, j < a → hit k m d fr to (lo + j) = false) : ∀ n : Nat, ml k m d fr to lo (a + n) = ml k m d fr to (lo + a) n
  | 0 => by rw [Nat.add_zero, ml_none k m d fr to lo a h]; rfl
  | n + 1 => by
    have e : lo + ((a + n : Nat) : Int) = lo + a + n := by omega
    rw [← Nat.add_assoc]
    cases q : hit k m d fr to (lo + a + n)
    · rw [ml_no q, ml_no (by rw [e]; exact q)]; exact ml_front k m d fr to lo a h n
    · rw [ml_yes q, ml_yes (by rw [e]; exact q), e, ml_front k m d fr to lo a h n]
theorem ml_back (k m d fr to lo : Int) (n : Nat) : ∀ b : Nat, (∀ j : Nat, n ≤ j → j < n + b → hit k m d fr to (lo + j) = false) → ml k m d fr to lo (n + b) = ml k m d fr to lo n
  | 0, _ => rfl
  | b + 1, h => by rw [← Nat.add_assoc, ml_no (h (n + b) (by omega) (by omega))]; exact ml_back k m d fr to lo n b fun j h1 h2 => h j h1 (by omega)
/-- all years' days -/
def ML (k m d fr to : Int) : List Int := ml k m d fr to 1 9600
theorem ml_eq {k m d fr to lo : Int} {n : Nat} (h1 : 1 ≤ lo) (hn : n = 0 ∨ lo + n ≤ 9601) (hf : ∀ y, 1 ≤ y → y ≤ 9600 → y < lo → hit k m d fr to y = false) (hb : ∀ y, 1 ≤ y → y ≤ 9600 → lo + n ≤ y → hit k m d fr to y = false) : ml k m d fr to lo n = ML k m d fr to := by
  unfold ML
  by_cases q : lo ≤ 9601
  · have e : 9600 = (lo - 1).toNat + (n + (9601 - lo - n).toNat) := by omega
    rw [e, ml_front k m d fr to 1 (lo - 1).toNat (fun j hj => hf _ (by omega) (by omega) (by omega)), show 1 + (((lo - 1).toNat : Nat) : Int) = lo by omega,
      ml_back k m d fr to lo n _ fun j h1 h2 => hb _ (by omega) (by omega) (by omega)]
  · rcases hn with rfl | hn
    · rw [ml_none k m d fr to 1 9600 fun j hj => hf _ (by omega) (by omega) (by omega)]; rfl
    · omega
theorem hit_true {k m d fr to y : Int} (h : hit k m d fr to y = true) : okb k y m d = true ∧ fr ≤ day k y m d ∧ day k y m d ≤ to := by
  simpa [hit, Bool.and_eq_true, decide_eq_true_eq] using h
theorem no_hit_low {k m d fr to y : Int} (_hk : kB k = true) (h : first k (y + 1) ≤ fr) : hit k m d fr to y = false := by
  cases q : hit k m d fr to y
  · rfl
  · obtain ⟨a, b, c⟩ := hit_true q
    have := day_bd (okb_iff.1 a)
    omega
theorem no_hit_high {k m d fr to y : Int} (h : to < first k y) : hit k m d fr to y = false := by
  cases q : hit k m d fr to y
  · rfl
  · obtain ⟨a, b, c⟩ := hit_true q
    have := day_bd (okb_iff.1 a)
    omega
theorem first_355 {k : Int} (hk : kB k = true) : ∀ n : Nat, first k (1 + n) ≤ -492148 + 355 * n
  | 0 => by have := first_1 hk; simp; omega
  | n + 1 => by
    have h := first_355 hk n
    have h2 := first_succ hk (1 + n)
    have h3 := ylen_bd k (1 + n)
    rw [show 1 + ((n + 1 : Nat) : Int) = 1 + n + 1 by omega, h2]; omega
/-- years before the guess -/
theorem guess_low {k m d fr to y : Int} (hk : kB k = true) (h1 : 1 ≤ y) (h : y < (fr + 492148) / 355) : hit k m d fr to y = false := by
  have := first_355 hk y.toNat
  rw [show 1 + ((y.toNat : Nat) : Int) = y + 1 by omega] at this
  exact no_hit_low hk (by omega)
theorem first_le {k a b : Int} (hk : kB k = true) (h : a ≤ b) : first k a ≤ first k b := by
  rcases Int.lt_or_eq_of_le h with q | rfl
  · have h1 := first_mono hk q; have h2 := first_succ hk a; have h3 := ylen_bd k a; omega
  · exact Int.le_refl _
/-- years behind one that begins behind the span -/
theorem late {k m d fr to a y : Int} (hk : kB k = true) (h : to < first k a) (hy : a ≤ y) : hit k m d fr to y = false :=
  no_hit_high (Int.lt_of_lt_of_le h (first_le hk hy))
theorem first_cyc0 {k : Int} (hk : kB k = true) (q : Int) : first k (30 * q + 1) = -492148 + q * 10631 := by
  have := first_cyc hk (30 * q + 1)
  rw [show 30 * q + 1 - (30 * q + 1 - 1) % 30 = 30 * q + 1 by omega, show (30 * q + 1 - 1) / 30 = q by omega] at this
  exact this
theorem ref_low {k m d fr to y q : Int} (hk : kB k = true) (hq : q = (fr + 492148) / 10631) (h : y ≤ 30 * q) : hit k m d fr to y = false := by
  have h1 := first_cyc0 hk q
  have h2 := first_le hk (show y + 1 ≤ 30 * q + 1 by omega)
  exact no_hit_low hk (by omega)
theorem ref_high {k m d fr to y q : Int} (hk : kB k = true) (h : to < -492148 + (q + 1) * 10631 + 1770) (hy : 30 * q + 36 ≤ y) : hit k m d fr to y = false := by
  have h1 := first_cyc0 hk (q + 1)
  have s : ∀ a, first k a + 354 ≤ first k (a + 1) := fun a => by have := first_succ hk a; have := ylen_bd k a; omega
  have e1 := s (30 * (q + 1) + 1); have e2 := s (30 * (q + 1) + 1 + 1); have e3 := s (30 * (q + 1) + 1 + 1 + 1); have e4 := s (30 * (q + 1) + 1 + 1 + 1 + 1); have e5 := s (30 * (q + 1) + 1 + 1 + 1 + 1 + 1)
  have e : first k (30 * (q + 1) + 1) + 1770 ≤ first k (30 * (q + 1) + 6) := by
    rw [show 30 * (q + 1) + 1 + 1 + 1 + 1 + 1 + 1 = 30 * (q + 1) + 6 by omega] at e5; omega
  have h2 := first_le hk (show 30 * (q + 1) + 6 ≤ y by omega)
  exact no_hit_high (by omega)
/-- whether Moved has an answer for a month and a day -/
def mB (k m d : Int) : Prop := kB k = true ∧ 1 ≤ m ∧ m ≤ 12 ∧ 1 ≤ d ∧ d ≤ 30 ∧ (d < 30 ∨ m % 2 = 1 ∨ m = 12)
theorem ml_in (k m d fr to lo : Int) : ∀ (n i : Nat), i < (ml k m d fr to lo n).length → ∃ j : Nat, j < n ∧ (ml k m d fr to lo n).getD i 0 = day k (lo + j) m d ∧ hit k m d fr to (lo + j) = true
  | 0, i, h => by simp [ml] at h
  | n + 1, i, h => by
    cases q : hit k m d fr to (lo + n)
    · rw [ml_no q] at h ⊢
      obtain ⟨j, a, b, c⟩ := ml_in k m d fr to lo n i h
      exact ⟨j, by omega, b, c⟩
    · rw [ml_yes q] at h ⊢
      by_cases e : i < (ml k m d fr to lo n).length
      · obtain ⟨j, a, b, c⟩ := ml_in k m d fr to lo n i e
        refine ⟨j, by omega, ?_, c⟩
        simp only [List.getD] at b ⊢; rw [List.getElem?_append_left e]; exact b
      · have e : i = (ml k m d fr to lo n).length := by simp at h; omega
        exact ⟨n, by omega, by rw [e]; simp [List.getD], q⟩
theorem day_354 {k y y' m d : Int} (hk : kB k = true) (h : y < y') : day k y m d + 354 ≤ day k y' m d := by
  have h1 := first_mono hk h; have h2 := first_succ hk y; have h3 := ylen_bd k y
  unfold day; omega
/-- the days ascend by 354 at least -/
theorem ml_up {k m d fr to lo : Int} (hk : kB k = true) : ∀ (n i : Nat), i + 1 < (ml k m d fr to lo n).length → (ml k m d fr to lo n).getD i 0 + 354 ≤ (ml k m d fr to lo n).getD (i + 1) 0
  | 0, i, h => by simp [ml] at h
  | n + 1, i, h => by
    cases q : hit k m d fr to (lo + n)
    · rw [ml_no q] at h ⊢
      exact ml_up hk n i h
    · rw [ml_yes q] at h ⊢
      by_cases e : i + 1 < (ml k m d fr to lo n).length
      · have := ml_up hk n i e
        simp only [List.getD] at this ⊢
        rw [List.getElem?_append_left e, List.getElem?_append_left (show i < (ml k m d fr to lo n).length by omega)]; exact this
      · have e : i + 1 = (ml k m d fr to lo n).length := by simp at h; omega
        obtain ⟨j, a, b, _⟩ := ml_in k m d fr to lo n i (by omega)
        have h1 := day_354 (m := m) (d := d) hk (show lo + (j : Int) < lo + n by omega)
        have g1 : (ml k m d fr to lo n ++ [day k (lo + n) m d]).getD (i + 1) 0 = day k (lo + n) m d := by rw [e]; simp [List.getD]
        have g2 : (ml k m d fr to lo n ++ [day k (lo + n) m d]).getD i 0 = (ml k m d fr to lo n).getD i 0 := by simp only [List.getD]; rw [List.getElem?_append_left (by omega)]
        rw [g1, g2, b]; exact h1
theorem ml_mem (k m d fr to lo : Int) : ∀ (n j : Nat), j < n → hit k m d fr to (lo + j) = true → day k (lo + j) m d ∈ ml k m d fr to lo n
  | 0, j, h, _ => by omega
  | n + 1, j, h, hh => by
    by_cases e : j = n
    · subst e; rw [ml_yes hh]; simp
    · have := ml_mem k m d fr to lo n j (by omega) hh
      cases q : hit k m d fr to (lo + n)
      · rw [ml_no q]; exact this
      · rw [ml_yes q]; simp [this]
/-- at most two days in 366 -/
theorem ML_two {k m d fr to : Int} (hk : kB k = true) (h : to ≤ fr + 366) : (ML k m d fr to).length ≤ 2 := by
  unfold ML
  by_cases q : (ml k m d fr to 1 9600).length ≤ 2
  · exact q
  · have u1 : (ml k m d fr to 1 9600).getD 0 0 + 354 ≤ (ml k m d fr to 1 9600).getD 1 0 := ml_up hk 9600 0 (by omega)
    have u2 : (ml k m d fr to 1 9600).getD 1 0 + 354 ≤ (ml k m d fr to 1 9600).getD 2 0 := ml_up hk 9600 1 (by omega)
    obtain ⟨j0, _, b0, c0⟩ := ml_in k m d fr to 1 9600 0 (by omega)
    obtain ⟨j2, _, b2, c2⟩ := ml_in k m d fr to 1 9600 2 (by omega)
    obtain ⟨_, x0, _⟩ := hit_true c0
    obtain ⟨_, _, y2⟩ := hit_true c2
    rw [b0] at u1; rw [b2] at u2; omega
/-- a day of the list -/
theorem ML_get {k m d fr to : Int} {i : Nat} (h : i < (ML k m d fr to).length) : ∃ n, (ML k m d fr to).getD i 0 = n ∧ fr ≤ n ∧ n ≤ to ∧ ∃ y, okb k y m d = true ∧ n = day k y m d := by
  obtain ⟨j, a, b, c⟩ := ml_in k m d fr to 1 9600 i h
  obtain ⟨c1, c2, c3⟩ := hit_true c
  exact ⟨_, b, c2, c3, 1 + j, c1, rfl⟩
theorem ML_own {k n fr to : Int} (hk : kB k = true) (hr : rB k n = true) (h1 : fr ≤ n) (h2 : n ≤ to) : n ∈ ML k (mI k n) (aI k n) fr to := by
  obtain ⟨ho, hd⟩ := dt_spec hk hr
  have hy := yB_iff.1 ho.2.1
  have := ml_mem k (mI k n) (aI k n) fr to 1 9600 (yI k n - 1).toNat (by omega) (by
    rw [show 1 + (((yI k n - 1).toNat : Nat) : Int) = yI k n by omega]
    simp [hit, okb_iff.2 ho, hd, h1, h2])
  rw [show 1 + (((yI k n - 1).toNat : Nat) : Int) = yI k n by omega, hd] at this
  exact this
end Isl
