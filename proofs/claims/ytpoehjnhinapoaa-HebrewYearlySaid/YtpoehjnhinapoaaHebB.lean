/- Plain arithmetic of the Hebrew calendar: lengths of months, the day of a date, the date of a day, the month behind a month. No conditions. -/
import Derived.Test.YtpoehjnhinapoaaHeb
namespace Heb
open Cal (bracket)
theorem mths_bd (y : Int) : 12 ≤ mths y ∧ mths y ≤ 13 := by unfold mths; split <;> omega
theorem mths_lp {y : Int} : (lp y = true → mths y = 13) ∧ (lp y = false → mths y = 12) := by unfold mths; constructor <;> intro h <;> simp [h]
def lenA (l : Bool) (c m : Int) : Int :=
  if m = 2 ∨ m = 4 ∨ m = 6 ∨ m = 10 ∨ m = 13 then 29 else if m = 12 then (if l then 30 else 29) else if m = 8 then (if c = 5 then 30 else 29) else if m = 9 then (if c = 3 then 29 else 30) else 30
def len (y m : Int) : Int := lenA (lp y) (ylen y % 10) m
def lenc (y m : Int) : Int := if 1 ≤ m ∧ m ≤ mthc y then len y m else 0
def ordL (l : Bool) : List Int := if l then [7, 8, 9, 10, 11, 12, 13, 1, 2, 3, 4, 5, 6] else [7, 8, 9, 10, 11, 12, 1, 2, 3, 4, 5, 6]
def ordF (l : Bool) (k : Nat) : Int := (ordL l).getD k 0
def nm (l : Bool) : Nat := if l then 13 else 12
def cumA (l : Bool) (c : Int) : Nat → Int
  | 0 => 0
  | k + 1 => cumA l c k + lenA l c (ordF l k)
def posA (l : Bool) (m : Int) : Nat := if 7 ≤ m then (m - 7).toNat else (m + (if l then 6 else 5)).toNat
def off (y m : Int) : Int := cumA (lp y) (ylen y % 10) (posA (lp y) m)
def day (y m d : Int) : Int := bg y + off y m + d - 1
def ok (y m d : Int) : Prop := yB y = true ∧ 1 ≤ m ∧ m ≤ mths y ∧ 1 ≤ d ∧ d ≤ len y m
theorem ordL_len (l : Bool) : (ordL l).length = nm l := by cases l <;> rfl
theorem nm_mths (y : Int) : (nm (lp y) : Int) = mths y := by unfold nm mths; split <;> rfl
theorem lenA_bd (l : Bool) (c m : Int) : 29 ≤ lenA l c m ∧ lenA l c m ≤ 30 := by unfold lenA; (repeat' split) <;> omega
theorem len_bd (y m : Int) : 29 ≤ len y m ∧ len y m ≤ 30 := lenA_bd _ _ _
theorem lenc_bd (y m : Int) : 0 ≤ lenc y m ∧ lenc y m ≤ 30 := by have := len_bd y m; unfold lenc; split <;> omega
theorem ylen_c {y : Int} (h1 : 1 ≤ y) (h2 : y ≤ 20480) : (ylen y % 10 = 3 ∨ ylen y % 10 = 4 ∨ ylen y % 10 = 5) ∧ ylen y = (if lp y then 380 else 350) + ylen y % 10 := by
  have h := (seen h1 h2).len
  by_cases q : lp y = true
  · rw [if_pos q] at h; rw [if_pos q]; omega
  · rw [if_neg q] at h; rw [if_neg q]; omega
theorem cls {l : Bool} {c : Int} (P : Bool → Int → Prop) (hc : c = 3 ∨ c = 4 ∨ c = 5) (h : P true 3 ∧ P true 4 ∧ P true 5 ∧ P false 3 ∧ P false 4 ∧ P false 5) : P l c := by
  obtain ⟨a, b, d, e, f, g⟩ := h
  rcases hc with rfl | rfl | rfl <;> cases l <;> assumption
theorem cum_bd (l : Bool) (c : Int) : ∀ k : Nat, 29 * (k : Int) ≤ cumA l c k ∧ cumA l c k ≤ 30 * k
  | 0 => by simp [cumA]
  | k + 1 => by have := cum_bd l c k; have := lenA_bd l c (ordF l k); simp only [cumA]; omega
theorem cum_lt (l : Bool) (c : Int) : ∀ (n k : Nat), cumA l c (k + 1) ≤ cumA l c (k + 1 + n)
  | 0, k => by simp
  | n + 1, k => by
    have h := cum_lt l c n k
    have := lenA_bd l c (ordF l (k + 1 + n))
    rw [show k + 1 + (n + 1) = k + 1 + n + 1 by omega]
    show _ ≤ cumA l c (k + 1 + n) + lenA l c (ordF l (k + 1 + n))
    omega
theorem cum_mono (l : Bool) (c : Int) {a b : Nat} (h : a < b) : cumA l c (a + 1) ≤ cumA l c b := by
  have := cum_lt l c (b - a - 1) a
  rw [show a + 1 + (b - a - 1) = b by omega] at this; exact this
theorem cum_all {l : Bool} {c : Int} (hc : c = 3 ∨ c = 4 ∨ c = 5) : cumA l c (nm l) = (if l then 380 else 350) + c :=
  cls (fun l c => cumA l c (nm l) = (if l then 380 else 350) + c) hc (by decide)
theorem cum_ylen {y : Int} (h1 : 1 ≤ y) (h2 : y ≤ 20480) : cumA (lp y) (ylen y % 10) (nm (lp y)) = ylen y := by
  have h := ylen_c h1 h2; rw [cum_all h.1]; exact h.2.symm
/-- the place of a month -/
theorem pos_of {l : Bool} {m : Int} (h1 : 1 ≤ m) (h2 : m ≤ nm l) : posA l m < nm l ∧ ordF l (posA l m) = m := by
  have k : ∀ l : Bool, ∀ i : Fin (nm l), posA l ((i : Nat) + 1 : Int) < nm l ∧ ordF l (posA l ((i : Nat) + 1 : Int)) = ((i : Nat) + 1 : Int) := by decide
  have := k l ⟨(m - 1).toNat, by omega⟩
  simp only at this
  rw [show (((m - 1).toNat : Nat) : Int) + 1 = m by omega] at this; exact this
theorem ord_of {l : Bool} {k : Nat} (h : k < nm l) : 1 ≤ ordF l k ∧ ordF l k ≤ nm l ∧ posA l (ordF l k) = k := by
  have t : ∀ l : Bool, ∀ i : Fin (nm l), 1 ≤ ordF l i ∧ ordF l i ≤ nm l ∧ posA l (ordF l i) = i := by decide
  exact t l ⟨k, h⟩
theorem off_step {y m : Int} (hm1 : 1 ≤ m) (hm2 : m ≤ mths y) : off y m + len y m = cumA (lp y) (ylen y % 10) (posA (lp y) m + 1) := by
  rw [← nm_mths] at hm2
  have := (pos_of hm1 hm2).2
  show off y m + len y m = off y m + lenA (lp y) (ylen y % 10) (ordF (lp y) (posA (lp y) m))
  rw [this]; rfl
theorem off_bd {y m : Int} (h1 : 1 ≤ y) (h2 : y ≤ 20480) (hm1 : 1 ≤ m) (hm2 : m ≤ mths y) : 0 ≤ off y m ∧ off y m + len y m ≤ ylen y := by
  have e := off_step hm1 hm2
  rw [← nm_mths] at hm2
  have p := pos_of hm1 hm2
  have c := cum_bd (lp y) (ylen y % 10) (posA (lp y) m)
  refine ⟨?_, ?_⟩
  · show 0 ≤ cumA (lp y) (ylen y % 10) (posA (lp y) m); omega
  · rw [e]
    have hc := cum_ylen h1 h2
    by_cases q : posA (lp y) m + 1 = nm (lp y)
    · rw [q]; omega
    · have := cum_mono (lp y) (ylen y % 10) (show posA (lp y) m < nm (lp y) by omega)
      omega
theorem ylen_bd {y : Int} (h1 : 1 ≤ y) (h2 : y ≤ 20480) : 353 ≤ ylen y ∧ ylen y ≤ 385 := by
  have := (seen h1 h2).len; split at this <;> omega
theorem bg_step {y : Int} : bg (y + 1) = bg y + ylen y := by unfold ylen; omega
theorem bg_lt : ∀ (n : Nat) (y : Int), 0 ≤ y → y + n ≤ 20480 → bg (y + 1) ≤ bg (y + 1 + n)
  | 0, y, _, _ => by simp
  | n + 1, y, h1, h2 => by
    have h := bg_lt n y h1 (by omega)
    have h3 := bg_step (y := y + 1 + n)
    have h4 := ylen_bd (y := y + 1 + n) (by omega) (by omega)
    rw [show y + 1 + ((n + 1 : Nat) : Int) = y + 1 + n + 1 by omega]; omega
theorem bg_mono {a b : Int} (ha : 0 ≤ a) (h : a < b) (hb : b ≤ 20480) : bg (a + 1) ≤ bg b := by
  have := bg_lt (b - a - 1).toNat a ha (by omega)
  rw [show a + 1 + (((b - a - 1).toNat : Nat) : Int) = b by omega] at this; exact this
theorem bg_1 : bg 1 = -2092590 := by decide +kernel
theorem bg_20001 : bg 20001 = 5212335 := by decide +kernel
theorem bg_bd {y : Int} (h1 : 1 ≤ y) (h2 : y ≤ 20480) : -2092625 ≤ bg y ∧ bg y ≤ 5403000 := by
  have s := seen h1 h2
  have := s.up; have := s.lo; omega
theorem day_bd {y m d : Int} (h : ok y m d) : bg y ≤ day y m d ∧ day y m d < bg (y + 1) := by
  obtain ⟨hy, h1, h2, h3, h4⟩ := h
  have hy := yB_iff.1 hy
  have := off_bd hy.1 (by omega) h1 h2; have := bg_step (y := y)
  unfold day; omega
theorem day_in {y m d : Int} (h : ok y m d) : -2092590 ≤ day y m d ∧ day y m d < 5212335 := by
  have b := day_bd h
  have hy := yB_iff.1 h.1
  have h1 := bg_mono (a := 0) (b := y) (by omega) (by omega) (by omega)
  have h2 := bg_mono (a := y) (b := 20001) (by omega) (by omega) (by omega)
  rw [bg_20001] at h2
  rw [show (0 : Int) + 1 = 1 by rfl, bg_1] at h1; omega
theorem day_inj {y m d y' m' d' : Int} (h : ok y m d) (h' : ok y' m' d') (e : day y m d = day y' m' d') : y = y' ∧ m = m' ∧ d = d' := by
  have b := day_bd h; have b' := day_bd h'
  have hy0 := yB_iff.1 h.1; have hy0' := yB_iff.1 h'.1
  have hy : y = y' := by
    rcases Int.lt_trichotomy y y' with q | q | q
    · have := bg_mono (by omega) q (by omega); omega
    · exact q
    · have := bg_mono (by omega) q (by omega); omega
  subst hy
  obtain ⟨_, h1, h2, h3, h4⟩ := h; obtain ⟨_, k1, k2, k3, k4⟩ := h'
  unfold day at e
  have s := off_step h1 h2; have s' := off_step k1 k2
  have p := pos_of (l := lp y) h1 (by rw [nm_mths]; exact h2); have p' := pos_of (l := lp y) k1 (by rw [nm_mths]; exact k2)
  have hm : posA (lp y) m = posA (lp y) m' := by
    rcases Nat.lt_trichotomy (posA (lp y) m) (posA (lp y) m') with q | q | q
    · have := cum_mono (lp y) (ylen y % 10) q
      have e2 : off y m' = cumA (lp y) (ylen y % 10) (posA (lp y) m') := rfl
      omega
    · exact q
    · have := cum_mono (lp y) (ylen y % 10) q
      have e2 : off y m = cumA (lp y) (ylen y % 10) (posA (lp y) m) := rfl
      omega
  have hm' : m = m' := by rw [← p.2, ← p'.2, hm]
  subst hm'
  exact ⟨rfl, rfl, by omega⟩
/-- whether a number is a day of the calendar -/
def rB (n : Int) : Bool := decide (-2092590 ≤ n ∧ n < 5212335)
theorem rB_iff {n : Int} : rB n = true ↔ -2092590 ≤ n ∧ n < 5212335 := by unfold rB; exact decide_eq_true_iff
theorem at_of {n y : Int} {k : Nat} (h1 : 1 ≤ y) (h2 : y ≤ 20000) (hk : k < nm (lp y)) (c1 : cumA (lp y) (ylen y % 10) k ≤ n - bg y) (c2 : n - bg y - cumA (lp y) (ylen y % 10) k < len y (ordF (lp y) k)) :
    ok y (ordF (lp y) k) (n - bg y - cumA (lp y) (ylen y % 10) k + 1) ∧ day y (ordF (lp y) k) (n - bg y - cumA (lp y) (ylen y % 10) k + 1) = n := by
  obtain ⟨o1, o2, o3⟩ := ord_of hk
  rw [nm_mths] at o2
  refine ⟨⟨yB_iff.2 ⟨h1, h2⟩, o1, o2, by omega, by omega⟩, ?_⟩
  unfold day off; rw [o3]; omega
theorem ex {n : Int} (h : -2092590 ≤ n ∧ n < 5212335) : ∃ p : Int × Int × Int, ok p.1 p.2.1 p.2.2 ∧ day p.1 p.2.1 p.2.2 = n := by
  obtain ⟨y, h1, h2, h3, h4⟩ := bracket bg n 20000 1 (by rw [bg_1]; exact h.1) (by show n < bg 20001; rw [bg_20001]; exact h.2)
  have hs := cum_ylen h1 (show y ≤ 20480 by omega)
  rw [bg_step] at h4
  have hy : yB y = true := yB_iff.2 ⟨h1, by omega⟩
  have : ∃ k : Nat, k < nm (lp y) ∧ cumA (lp y) (ylen y % 10) k ≤ n - bg y ∧ n - bg y < cumA (lp y) (ylen y % 10) (k + 1) := by
    have go : ∀ j : Nat, n - bg y < cumA (lp y) (ylen y % 10) j → ∃ k : Nat, k < j ∧ cumA (lp y) (ylen y % 10) k ≤ n - bg y ∧ n - bg y < cumA (lp y) (ylen y % 10) (k + 1) := by
      intro j
      induction j with
      | zero => intro h; simp [cumA] at h; omega
      | succ j ih =>
        intro h
        by_cases q : n - bg y < cumA (lp y) (ylen y % 10) j
        · obtain ⟨k, k1, k2, k3⟩ := ih q; exact ⟨k, by omega, k2, k3⟩
        · exact ⟨j, by omega, by omega, h⟩
    exact go _ (by rw [hs]; omega)
  obtain ⟨k, k1, k2, k3⟩ := this
  have k3' : n - bg y < cumA (lp y) (ylen y % 10) k + len y (ordF (lp y) k) := k3
  exact ⟨(y, _, _), at_of h1 (by omega) k1 k2 (by omega)⟩
noncomputable def dt (n : Int) : Int × Int × Int := if rB n then Classical.epsilon fun p => ok p.1 p.2.1 p.2.2 ∧ day p.1 p.2.1 p.2.2 = n else (0, 0, 0)
noncomputable def yH (n : Int) : Int := (dt n).1
noncomputable def mH (n : Int) : Int := (dt n).2.1
noncomputable def aH (n : Int) : Int := (dt n).2.2
theorem dt_spec {n : Int} (h : rB n = true) : ok (yH n) (mH n) (aH n) ∧ day (yH n) (mH n) (aH n) = n := by
  have := Classical.epsilon_spec (ex (rB_iff.1 h)); unfold yH mH aH dt; rw [if_pos h]; exact this
theorem dt_eq {y m d n : Int} (h : ok y m d) (e : day y m d = n) : y = yH n ∧ m = mH n ∧ d = aH n := by
  have hr : rB n = true := by rw [← e]; exact rB_iff.2 (day_in h)
  exact day_inj h (dt_spec hr).1 (e.trans (dt_spec hr).2.symm)
theorem dt_day {y m d : Int} (h : ok y m d) : yH (day y m d) = y ∧ mH (day y m d) = m ∧ aH (day y m d) = d := by
  have := dt_eq h rfl; omega
def okb (y m d : Int) : Bool := decide (1 ≤ d) && decide (d ≤ lenc y m)
theorem mthc_y {y : Int} (h : 1 ≤ mthc y) : yB y = true ∧ mthc y = mths y := by
  unfold mthc at *; split at h
  · rename_i q; simp [q]
  · omega
theorem okb_iff {y m d : Int} : okb y m d = true ↔ ok y m d := by
  unfold okb ok; rw [Bool.and_eq_true, decide_eq_true_eq, decide_eq_true_eq]
  unfold lenc; split
  · rename_i h; obtain ⟨h1, h2⟩ := h
    obtain ⟨a, b⟩ := mthc_y (by omega : 1 ≤ mthc y)
    rw [b] at h2
    exact ⟨fun h => ⟨a, h1, h2, h.1, h.2⟩, fun h => ⟨h.2.2.2.1, h.2.2.2.2⟩⟩
  · rename_i h
    exact ⟨fun h => by omega, fun k => absurd ⟨k.2.1, by unfold mthc; rw [if_pos k.1]; exact k.2.2.1⟩ h⟩
/-- what Day answers: only days within the years 1 to 9999 -/
def dayB (y m d : Int) : Bool := okb y m d && Cal.inB (day y m d)
def dayN (y m d : Int) : Int := if dayB y m d then day y m d else 0
def dayE (y m d : Int) : Int := if dayB y m d then 0 else 2
noncomputable def dY (n : Int) : Int := if Cal.inB n then yH n else 0
noncomputable def dM (n : Int) : Int := if Cal.inB n then mH n else 0
noncomputable def dA (n : Int) : Int := if Cal.inB n then aH n else 0
def dE (n : Int) : Int := if Cal.inB n then 0 else 2
theorem in_r {n : Int} (h : Cal.inB n = true) : rB n = true := by have := Cal.inB_iff.1 h; exact rB_iff.2 (by omega)
/-- the month behind a month -/
def folY (y m : Int) : Int := if m = 6 then y + 1 else y
def folM (y m : Int) : Int := if m = 6 then 7 else if 12 ≤ m ∧ m = mthc y then 1 else m + 1
theorem fol_off {y m : Int} (h1 : 1 ≤ y) (h2 : y ≤ 20000) (hm1 : 1 ≤ m) (hm2 : m ≤ mths y) (h6 : m ≠ 6) : off y (folM y m) = off y m + len y m ∧ 1 ≤ folM y m ∧ folM y m ≤ mths y := by
  have hc : mthc y = mths y := by unfold mthc; rw [if_pos (yB_iff.2 ⟨h1, h2⟩)]
  have t : ∀ l : Bool, ∀ i : Fin (nm l), (i : Nat) ≠ 5 → posA l (if (12 : Int) ≤ (i : Nat) + 1 ∧ ((i : Nat) + 1 : Int) = nm l then 1 else (i : Nat) + 1 + 1) = posA l ((i : Nat) + 1 : Int) + 1 := by decide
  have hm3 : m ≤ nm (lp y) := by rw [nm_mths]; exact hm2
  have q := t (lp y) ⟨(m - 1).toNat, by omega⟩ (by simp only; omega)
  simp only at q
  rw [show (((m - 1).toNat : Nat) : Int) + 1 = m by omega] at q
  refine ⟨?_, ?_⟩
  · rw [off_step hm1 hm2]; unfold off folM; rw [if_neg h6, hc, ← nm_mths, q]
  · unfold folM; rw [if_neg h6, hc]; have := mths_bd y; split <;> omega
theorem six_end {y : Int} (h1 : 1 ≤ y) (h2 : y ≤ 20480) : off y 6 + len y 6 = ylen y := by
  have := mths_bd y
  have hc := cum_ylen h1 h2
  rw [off_step (by omega) (by omega), show posA (lp y) 6 + 1 = nm (lp y) by unfold posA nm; cases lp y <;> rfl]
  exact hc
theorem off_7 (y : Int) : off y 7 = 0 := rfl
end Heb
