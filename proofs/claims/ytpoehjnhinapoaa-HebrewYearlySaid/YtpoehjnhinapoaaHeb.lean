/- Plain arithmetic of the Hebrew calendar: leap years, new years, lengths, and that dates are told apart by their days. No conditions. -/
import Derived.Test.YtpoehjnhinapoaaCal
namespace Heb
open Cal (bracket)
def yB (y : Int) : Bool := decide (1 ≤ y ∧ y ≤ 20000)
theorem yB_iff {y : Int} : yB y = true ↔ 1 ≤ y ∧ y ≤ 20000 := by unfold yB; exact decide_eq_true_iff
def lp (y : Int) : Bool := decide ((7 * y + 1) % 19 < 7)
theorem lp_iff {y : Int} : lp y = true ↔ (7 * y + 1) % 19 < 7 := by unfold lp; exact decide_eq_true_iff
def leap (y : Int) : Bool := yB y && lp y
def mths (y : Int) : Int := if lp y then 13 else 12
def mthc (y : Int) : Int := if yB y then mths y else 0
def bf (y : Int) : Int := (235 * y - 234) / 19
theorem bf_succ (y : Int) : bf (y + 1) = bf y + mths y := by
  have h1 := Int.mul_ediv_add_emod (7 * y + 1) 19
  have h2 := Int.emod_nonneg (7 * y + 1) (b := 19) (by omega)
  have h3 := Int.emod_lt_of_pos (7 * y + 1) (b := 19) (by omega)
  unfold bf mths lp
  generalize (7 * y + 1) / 19 = q at *
  generalize (7 * y + 1) % 19 = r at *
  have e1 : 235 * (y + 1) - 234 = 19 * (12 * y + q) + r := by omega
  have e2 : 235 * y - 234 = 19 * (12 * y + q - 13) + (r + 12) := by omega
  clear h1
  rw [e1, e2, Int.mul_add_ediv_left _ _ (by omega), Int.mul_add_ediv_left _ _ (by omega)]
  clear e1 e2
  generalize 12 * y = z
  split <;> rename_i h <;> simp at h <;> omega
/-- the days of the conjunction, half a day later -/
def dd (y : Int) : Int := 29 * bf y + (12084 + 13753 * bf y) / 25920
def el (y : Int) : Int := if 3 * (dd y + 1) % 7 < 3 then dd y + 1 else dd y
def bg (y : Int) : Int := if el (y + 1) - el y = 356 then -2092590 + el y + 2 else if el y - el (y - 1) = 382 then -2092590 + el y + 1 else -2092590 + el y
def ylen (y : Int) : Int := bg (y + 1) - bg y
def ylenc (y : Int) : Int := if yB y then ylen y else 0
/-- the first day of the month 7's conjunction -/
def mo (y : Int) : Int := (765433 * bf y - 876) / 25920
def elmN (m : Nat) : Nat :=
  (fun d => cond (Nat.ble (Nat.mod (Nat.mul 3 (Nat.succ d)) 7) 2) (Nat.succ d) d) (Nat.add (Nat.mul 29 m) (Nat.div (Nat.add 12084 (Nat.mul 13753 m)) 25920))
def bfN (y : Nat) : Nat := Nat.div (Nat.sub (Nat.mul 235 y) 234) 19
def elN (y : Nat) : Nat := elmN (bfN y)
def bgN (a b c : Nat) : Nat := cond (Nat.beq (Nat.sub c b) 356) (Nat.add b 2) (cond (Nat.beq (Nat.sub b a) 382) (Nat.succ b) b)
def okL (l : Bool) (n : Nat) : Bool := cond l (Nat.beq n 383 || (Nat.beq n 384 || Nat.beq n 385)) (Nat.beq n 353 || (Nat.beq n 354 || Nat.beq n 355))
def okW (w : Nat) : Bool := not (Nat.beq w 2) && (not (Nat.beq w 4) && not (Nat.beq w 6))
def okM (p m : Nat) : Bool := (fun o => Nat.ble o p && Nat.ble p (Nat.add o 2)) (Nat.div (Nat.sub (Nat.mul 765433 m) 876) 25920)
def okC (p y : Nat) : Bool := (fun n => Nat.ble (Nat.add p 6938) n && Nat.ble n (Nat.add p 6942)) (bgN (elN (Nat.add y 18)) (elN (Nat.add y 19)) (elN (Nat.add y 20)))
def okB (p y : Nat) : Bool := Nat.ble (Nat.add p 366) (Nat.mul 366 y) && Nat.ble (Nat.mul 365 y) (Nat.add p 400)
def chkN (y : Nat) : Bool :=
  (fun a b c d => (fun p n => Nat.ble p n && okL (Nat.ble (Nat.mod (Nat.succ (Nat.mul 7 y)) 19) 6) (Nat.sub n p) && okW (Nat.mod p 7) && okM p (bfN y) && okC p y && okB p y) (bgN a b c) (bgN b c d))
    (elN (Nat.pred y)) (elN y) (elN (Nat.succ y)) (elN (Nat.succ (Nat.succ y)))
def all2 (f : Nat → Bool) : Nat → Nat → Bool
  | 0, s => f s
  | n + 1, s => all2 f n s && all2 f n (Nat.add s (Nat.pow 2 n))
theorem all2_of (f : Nat → Bool) : ∀ (n s : Nat), all2 f n s = true → ∀ i : Nat, s ≤ i → i < s + 2 ^ n → f i = true
  | 0, s, h, i, h1, h2 => by
    obtain rfl : i = s := by simp at h2; omega
    exact h
  | n + 1, s, h, i, h1, h2 => by
    simp only [all2, Bool.and_eq_true] at h
    have e : (2 : Nat) ^ (n + 1) = 2 ^ n + 2 ^ n := by rw [Nat.pow_succ]; omega
    by_cases q : i < s + 2 ^ n
    · exact all2_of f n s h.1 i h1 q
    · exact all2_of f n (s + 2 ^ n) h.2 i (show s + 2 ^ n ≤ i by omega) (show i < s + 2 ^ n + 2 ^ n by omega)
theorem chk_all : all2 chkN 14 2 = true ∧ all2 chkN 12 16386 = true := by decide +kernel
theorem bfN_eq {n : Nat} (h : 1 ≤ n) : bf n = (bfN n : Int) := by
  show (235 * (n : Int) - 234) / 19 = (((235 * n - 234) / 19 : Nat) : Int)
  omega
theorem elmN_eq (m : Nat) (y : Int) (h : bf y = m) : el y = (elmN m : Int) := by
  obtain ⟨d, hd⟩ : ∃ d, d = 29 * m + (12084 + 13753 * m) / 25920 := ⟨_, rfl⟩
  have e : elmN m = cond (Nat.ble (3 * (d + 1) % 7) 2) (d + 1) d := by rw [hd]; rfl
  have e2 : dd y = d := by
    unfold dd; rw [h, hd]
    have : (12084 + 13753 * (m : Int)) = ((12084 + 13753 * m : Nat) : Int) := by omega
    rw [this]; omega
  rw [e]; unfold el; rw [e2]; clear hd e e2
  have e3 : 3 * ((d : Int) + 1) % 7 = ((3 * (d + 1) % 7 : Nat) : Int) := by simp
  rw [e3]
  by_cases q : 3 * (d + 1) % 7 ≤ 2
  · rw [Nat.ble_eq_true_of_le q, if_pos (by omega)]; simp only [cond_true]; omega
  · rw [show Nat.ble (3 * (d + 1) % 7) 2 = false by rw [Bool.eq_false_iff]; exact fun k => q (Nat.le_of_ble_eq_true k), if_neg (by omega)]; simp only [cond_false]
theorem elN_eq {n : Nat} (h : 1 ≤ n) : el n = (elN n : Int) := elmN_eq _ _ (bfN_eq h)
theorem elm_mono (m k : Nat) (h : 1 ≤ k) : elmN m < elmN (m + k) := by
  show (cond (Nat.ble (3 * (29 * m + (12084 + 13753 * m) / 25920 + 1) % 7) 2) (29 * m + (12084 + 13753 * m) / 25920 + 1) (29 * m + (12084 + 13753 * m) / 25920) : Nat) < (cond (Nat.ble (3 * (29 * (m + k) + (12084 + 13753 * (m + k)) / 25920 + 1) % 7) 2) (29 * (m + k) + (12084 + 13753 * (m + k)) / 25920 + 1) (29 * (m + k) + (12084 + 13753 * (m + k)) / 25920) : Nat)
  cases Nat.ble (3 * (29 * m + (12084 + 13753 * m) / 25920 + 1) % 7) 2 <;> cases Nat.ble (3 * (29 * (m + k) + (12084 + 13753 * (m + k)) / 25920 + 1) % 7) 2 <;> simp only [cond_true, cond_false] <;> omega
theorem elN_lt {n : Nat} (h : 1 ≤ n) : elN n < elN (n + 1) := by
  have hb := bf_succ n
  have h1 := bfN_eq h; have h2 := bfN_eq (show 1 ≤ n + 1 by omega)
  have h3 : 12 ≤ mths n := by unfold mths; split <;> omega
  have e : bfN (n + 1) = bfN n + (bfN (n + 1) - bfN n) := by
    have : ((n + 1 : Nat) : Int) = n + 1 := by omega
    rw [this] at h2; omega
  have := elm_mono (bfN n) (bfN (n + 1) - bfN n) (by
    have : ((n + 1 : Nat) : Int) = n + 1 := by omega
    rw [this] at h2; omega)
  rw [← e] at this; exact this
theorem bgN_def (a b c : Nat) : bgN a b c = cond (Nat.beq (c - b) 356) (b + 2) (cond (Nat.beq (b - a) 382) (b + 1) b) := rfl
theorem bga (a b c : Nat) (y : Int) (l0 : a < b) (l1 : b < c) (h0 : el (y - 1) = a) (h1 : el y = b) (h2 : el (y + 1) = c) : bg y + 2092590 = (bgN a b c : Int) := by
  rw [bgN_def]
  unfold bg
  rw [h0, h1, h2]
  clear h0 h1 h2
  by_cases q1 : c - b = 356
  · rw [q1, if_pos (by omega), Nat.beq_refl, cond_true]; omega
  · rw [if_neg (by omega), show Nat.beq (c - b) 356 = false by rw [Bool.eq_false_iff]; exact fun e => q1 (Nat.eq_of_beq_eq_true e), cond_false]
    by_cases q2 : b - a = 382
    · rw [q2, if_pos (by omega), Nat.beq_refl, cond_true]; omega
    · rw [if_neg (by omega), show Nat.beq (b - a) 382 = false by rw [Bool.eq_false_iff]; exact fun e => q2 (Nat.eq_of_beq_eq_true e), cond_false]; omega
theorem pre1 (k : Nat) : ((k + 1 : Nat) : Int) - 1 = (k : Nat) := by omega
theorem suc1 (k : Nat) : ((k + 1 : Nat) : Int) + 1 = ((k + 1 + 1 : Nat) : Int) := rfl
theorem bgN_eq (k : Nat) (h : 1 ≤ k) : bg ((k + 1 : Nat) : Int) + 2092590 = (bgN (elN k) (elN (k + 1)) (elN (k + 1 + 1)) : Int) := by
  have h0 := elN_eq h; have h1 := elN_eq (show 1 ≤ k + 1 by omega); have h2 := elN_eq (show 1 ≤ k + 1 + 1 by omega)
  rw [← pre1 k] at h0; rw [← suc1 k] at h2
  exact bga _ _ _ _ (elN_lt h) (elN_lt (by omega)) h0 h1 h2
/-- what the kernel has seen of each year -/
structure Seen (y : Int) : Prop where
  len : if lp y then ylen y = 383 ∨ ylen y = 384 ∨ ylen y = 385 else ylen y = 353 ∨ ylen y = 354 ∨ ylen y = 355
  wk : (bg y + 2092590) % 7 ≠ 2 ∧ (bg y + 2092590) % 7 ≠ 4 ∧ (bg y + 2092590) % 7 ≠ 6
  mol : mo y ≤ bg y + 2092590 ∧ bg y + 2092590 ≤ mo y + 2
  cyc : 6938 ≤ bg (y + 19) - bg y ∧ bg (y + 19) - bg y ≤ 6942
  up : bg y ≤ -2092590 + 366 * (y - 1)
  lo : -2092990 + 365 * y ≤ bg y
theorem seen1 : Seen 1 := by
  refine ⟨?_, ?_, ?_, ?_, ?_, ?_⟩ <;> decide +kernel
theorem or3 {n a b c : Nat} (h : (Nat.beq n a || (Nat.beq n b || Nat.beq n c)) = true) : n = a ∨ n = b ∨ n = c := by
  simp only [Bool.or_eq_true] at h
  rcases h with h | h | h
  · exact Or.inl (Nat.eq_of_beq_eq_true h)
  · exact Or.inr (Or.inl (Nat.eq_of_beq_eq_true h))
  · exact Or.inr (Or.inr (Nat.eq_of_beq_eq_true h))
theorem chkN_def {k : Nat} (h : chkN (k + 1) = true) : Nat.ble (bgN (elN k) (elN (k + 1)) (elN (k + 1 + 1))) (bgN (elN (k + 1)) (elN (k + 1 + 1)) (elN (k + 1 + 1 + 1))) = true ∧ okL (Nat.ble ((7 * (k + 1) + 1) % 19) 6) (bgN (elN (k + 1)) (elN (k + 1 + 1)) (elN (k + 1 + 1 + 1)) - bgN (elN k) (elN (k + 1)) (elN (k + 1 + 1))) = true ∧
    okW (bgN (elN k) (elN (k + 1)) (elN (k + 1 + 1)) % 7) = true ∧ okM (bgN (elN k) (elN (k + 1)) (elN (k + 1 + 1))) (bfN (k + 1)) = true ∧ okC (bgN (elN k) (elN (k + 1)) (elN (k + 1 + 1))) (k + 1) = true ∧ okB (bgN (elN k) (elN (k + 1)) (elN (k + 1 + 1))) (k + 1) = true := by
  unfold chkN at h
  simp only [Bool.and_eq_true, and_assoc] at h
  exact h
theorem okC_def {p y : Nat} (h : okC p y = true) : p + 6938 ≤ bgN (elN (y + 18)) (elN (y + 18 + 1)) (elN (y + 18 + 1 + 1)) ∧ bgN (elN (y + 18)) (elN (y + 18 + 1)) (elN (y + 18 + 1 + 1)) ≤ p + 6942 := by
  unfold okC at h
  rw [Bool.and_eq_true] at h
  exact ⟨Nat.le_of_ble_eq_true h.1, Nat.le_of_ble_eq_true h.2⟩
theorem okB_def {p y : Nat} (h : okB p y = true) : p + 366 ≤ 366 * y ∧ 365 * y ≤ p + 400 := by
  unfold okB at h
  rw [Bool.and_eq_true] at h
  exact ⟨Nat.le_of_ble_eq_true h.1, Nat.le_of_ble_eq_true h.2⟩
theorem okM_def {p m : Nat} (h : okM p m = true) : (765433 * m - 876) / 25920 ≤ p ∧ p ≤ (765433 * m - 876) / 25920 + 2 := by
  unfold okM at h
  rw [Bool.and_eq_true] at h
  exact ⟨Nat.le_of_ble_eq_true h.1, Nat.le_of_ble_eq_true h.2⟩
theorem okW_def {w : Nat} (h : okW w = true) : w ≠ 2 ∧ w ≠ 4 ∧ w ≠ 6 := by
  simp only [okW, Bool.and_eq_true, Bool.not_eq_true'] at h
  exact ⟨Nat.ne_of_beq_eq_false h.1, Nat.ne_of_beq_eq_false h.2.1, Nat.ne_of_beq_eq_false h.2.2⟩
theorem okL_def {n k : Nat} (h : okL (Nat.ble k 6) n = true) : (k ≤ 6 ∧ (n = 383 ∨ n = 384 ∨ n = 385)) ∨ (¬ k ≤ 6 ∧ (n = 353 ∨ n = 354 ∨ n = 355)) := by
  by_cases q : k ≤ 6
  · rw [Nat.ble_eq_true_of_le q] at h; exact Or.inl ⟨q, or3 h⟩
  · rw [show Nat.ble k 6 = false by rw [Bool.eq_false_iff]; exact fun e => q (Nat.le_of_ble_eq_true e)] at h; exact Or.inr ⟨q, or3 h⟩
theorem bf_pos {n : Nat} (h : 2 ≤ n) : 1 ≤ bfN n := by show 1 ≤ (235 * n - 234) / 19; omega
theorem seen_num (p q r m n : Nat) (y : Int) (hy : y = n) (_hn : 2 ≤ n) (g0 : bg y + 2092590 = p) (g1 : bg (y + 1) + 2092590 = q) (g19 : bg (y + 19) + 2092590 = r) (hbf : bf y = m) (hm : 1 ≤ m) (c0 : p ≤ q)
    (c1 : ((7 * n + 1) % 19 ≤ 6 ∧ (q - p = 383 ∨ q - p = 384 ∨ q - p = 385)) ∨ (¬ (7 * n + 1) % 19 ≤ 6 ∧ (q - p = 353 ∨ q - p = 354 ∨ q - p = 355)))
    (c2 : p % 7 ≠ 2 ∧ p % 7 ≠ 4 ∧ p % 7 ≠ 6) (c3 : (765433 * m - 876) / 25920 ≤ p ∧ p ≤ (765433 * m - 876) / 25920 + 2) (c4 : p + 6938 ≤ r ∧ r ≤ p + 6942) (c5 : p + 366 ≤ 366 * n ∧ 365 * n ≤ p + 400) : Seen y := by
  have hl := lp_iff (y := y)
  have e3 : (7 * y + 1) % 19 = ((7 * n + 1) % 19 : Nat) := by rw [hy]; simp
  rw [e3] at hl
  generalize (7 * n + 1) % 19 = z at *
  refine ⟨?_, ?_, ?_, ?_, ?_, ?_⟩
  · unfold ylen
    clear c2 c3 c4 c5 e3
    rcases c1 with ⟨k, c1⟩ | ⟨k, c1⟩
    · rw [if_pos (hl.2 (by omega))]; omega
    · rw [if_neg (fun e => k (by have := hl.1 e; omega))]; omega
  · rw [g0]; clear c1 c3 c4 c5 hl e3; omega
  · unfold mo; rw [g0, hbf]; clear c1 c2 c4 c5 hl e3 g0 g1 g19
    obtain ⟨u, hu⟩ : ∃ u : Nat, u + 876 = 765433 * m := ⟨765433 * m - 876, by omega⟩
    rw [show 765433 * m - 876 = u by omega] at c3
    rw [show 765433 * (m : Int) - 876 = (u : Int) by omega]
    omega
  · clear c1 c2 c3 c5 hl e3; omega
  · clear c1 c2 c3 c4 hl e3; omega
  · clear c1 c2 c3 c4 hl e3; omega
theorem cast1 (k : Nat) : ((k : Nat) : Int) + 1 = ((k + 1 : Nat) : Int) := rfl
theorem cast19 (k : Nat) : ((k : Nat) : Int) + 19 = ((k + 18 + 1 : Nat) : Int) := by omega
theorem seen_of {k : Nat} (h1 : 1 ≤ k) (h : chkN (k + 1) = true) : Seen ((k + 1 : Nat) : Int) := by
  have g0 := bgN_eq k h1; have g1 := bgN_eq (k + 1) (by omega); have g19 := bgN_eq (k + 1 + 18) (by omega)
  obtain ⟨c0, c1, c2, c3, c4, c5⟩ := chkN_def h
  rw [← cast19] at g19
  exact seen_num _ _ _ _ _ _ rfl (by omega) g0 g1 g19 (bfN_eq (by omega)) (bf_pos (by omega)) (Nat.le_of_ble_eq_true c0) (okL_def c1) (okW_def c2) (okM_def c3) (okC_def c4) (okB_def c5)
theorem seen {y : Int} (h1 : 1 ≤ y) (h2 : y ≤ 20480) : Seen y := by
  by_cases e : y = 1
  · subst e; exact seen1
  · obtain ⟨k, rfl⟩ : ∃ k : Nat, y = ((k + 1 : Nat) : Int) := ⟨(y - 1).toNat, by omega⟩
    by_cases q : k + 1 < 16386
    · exact seen_of (by omega) (all2_of _ _ _ chk_all.1 (k + 1) (by omega) (by omega))
    · exact seen_of (by omega) (all2_of _ _ _ chk_all.2 (k + 1) (by omega) (by omega))
end Heb
