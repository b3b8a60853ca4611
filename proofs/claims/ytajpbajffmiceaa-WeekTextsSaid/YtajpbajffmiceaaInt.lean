/- Contracts of the integer functions Div, Floor and Mod: for a divisor that is positive and below 2^31 they return the quotient rounded down and the remainder. -/
import Derived.Test.YtajpbajffmiceaaRows
import Derived.WalkKit
import Derived.ProofKit
import Derived.OpenShut
import Derived.Handy
import Derived.BigQuiet
import Derived.Deep.QuietTactic
import Derived.Outline
import Derived.Lib.Hide
namespace Go.Proofs.Ytajpbajffmiceaa
open Go.ChangeShapes Go.WideShapes Go.ChangeAt Go.RowKit

theorem tdiv_pos {a b : Int} (h : 0 ≤ a) : a.tdiv b = a / b := Int.tdiv_eq_ediv_of_nonneg h
theorem tmod_pos {a b : Int} (h : 0 ≤ a) : a.tmod b = a % b := Int.tmod_eq_emod_of_nonneg h
theorem tdiv_neg_dvd {a b : Int} (h : b ∣ a) : a.tdiv b = a / b := by rw [Int.tdiv_eq_ediv, if_pos (Or.inr h)]; omega
theorem tmod_neg_dvd {a b : Int} (h : b ∣ a) : a.tmod b = 0 := Int.tmod_eq_zero_of_dvd h
theorem tdiv_neg_not {a b : Int} (ha : a < 0) (hb : 1 ≤ b) (h : ¬ b ∣ a) : a.tdiv b = a / b + 1 := by
  rw [Int.tdiv_eq_ediv, if_neg (by rintro (k | k); omega; exact h k), Int.sign_eq_one_of_pos (by omega)]
theorem tmod_neg_not {a b : Int} (ha : a < 0) (hb : 1 ≤ b) (h : ¬ b ∣ a) : a.tmod b = a % b - b := by
  rw [Int.tmod_eq_emod, if_neg (by rintro (k | k); omega; exact h k)]; omega

theorem div_le {a b : Int} (hb : 1 ≤ b) : (0 ≤ a → 0 ≤ a / b ∧ a / b ≤ a) ∧ (a < 0 → a ≤ a / b ∧ a / b < 0) := by
  refine ⟨fun h => IntWalk.tdiv_le a b h hb, fun h => ⟨?_, Int.ediv_neg_of_neg_of_pos h (by omega)⟩⟩
  have h1 := Int.mul_ediv_add_emod a b
  have h2 := Int.emod_nonneg a (b := b) (by omega)
  have h4 := Int.ediv_neg_of_neg_of_pos h (show 0 < b by omega)
  have h3 := Int.emod_lt_of_pos a (b := b) (by omega)
  refine (Int.le_ediv_iff_mul_le (by omega)).2 ?_
  have h5 := Int.mul_le_mul_of_nonpos_left (show a ≤ 0 by omega) hb
  omega

set_option maxHeartbeats 400000 in
theorem div_any (a b : Int) (w : World) (ha : -4611686018427387904 ≤ a) (ha' : a ≤ 4611686018427387904) (hb : 1 ≤ b) (hb' : b ≤ 2147483647) :
    Calls Try.prog 54 #[.int .i64 a, .int .i64 b] w fun e w' => e = .returned (.tuple #[.int .i64 (a / b), .int .i64 (a % b), .int .i64 0]) ∧ ∃ n, w' = w.drewN n := by
  have m0 := Int.emod_nonneg a (b := b) (by omega)
  have m1 := Int.emod_lt_of_pos a (b := b) (by omega)
  have hmin : (a == -9223372036854775808) = false := by simp; omega
  by_cases h : 0 ≤ a
  · have hd := (div_le (a := a) hb).1 h
    have ht := tdiv_pos (b := b) h
    have hm := tmod_pos (b := b) h
    have hl : decide (a % b < 0) = false := by simp; omega
    have hl' : decide (b < 0) = false := by simp; omega
    by_cases hz : a % b = 0
    · go_enter Try.func54, Try.ntmps54
      go_wp2_with fail
      go_quiet (fail)
      go_wp2
      go_ret3
      rw [hz]
      exact ⟨rfl, _, rfl⟩
    · have hn : (a % b != 0) = true := by simpa using hz
      go_enter Try.func54, Try.ntmps54
      go_wp2_with fail
      go_quiet (fail)
      go_wp2
      go_ret3
      exact ⟨rfl, _, rfl⟩
  · have hd := (div_le (a := a) hb).2 (by omega)
    by_cases k : b ∣ a
    · have hq := tdiv_neg_dvd k
      have hr := tmod_neg_dvd k
      have hz : a % b = 0 := Int.emod_eq_zero_of_dvd k
      go_enter Try.func54, Try.ntmps54
      go_wp2_with fail
      go_quiet (fail)
      go_wp2
      go_ret3
      rw [hz]
      exact ⟨rfl, _, rfl⟩
    · have hq := tdiv_neg_not (by omega) hb k
      have hr := tmod_neg_not (by omega) hb k
      have hl : decide (a % b - b < 0) = true := by simp; omega
      have hl' : decide (b < 0) = false := by simp; omega
      go_enter Try.func54, Try.ntmps54
      go_wp2_with fail
      go_quiet (fail)
      go_wp2
      go_ret3
      exact ⟨rfl, _, rfl⟩
theorem mod_any (a b : Int) (w : World) (ha : -4611686018427387904 ≤ a) (ha' : a ≤ 4611686018427387904) (hb : 1 ≤ b) (hb' : b ≤ 2147483647) :
    Calls Try.prog 47 #[.int .i64 a, .int .i64 b] w fun e w' => e = .returned (.int .i64 (a % b)) ∧ ∃ n, w' = w.drewN n := by
  go_enter Try.func47, Try.ntmps47
  go_wp2_with (go_at_call 54; refine (div_any _ _ _ ha ha' hb hb').mono ?_; rintro e w' ⟨rfl, n, rfl⟩)
  go_ret
  exact ⟨rfl, _, rfl⟩
end Go.Proofs.Ytajpbajffmiceaa
