/- Contracts of the functions of package civil: lengths of months, the day of a date, the date of a day, the weekday. No conditions. -/
import Derived.Test.YtpoehjnhinapoaaCal
import Derived.Test.YtpoehjnhinapoaaInt
import Derived.Test.YtpoehjnhinapoaaBase
namespace Go.Proofs.Ytpoehjnhinapoaa
open Go.ChangeShapes Go.WideShapes Go.ChangeAt Go.RowKit








theorem cinside_any (n : Int) (w : World) :
    Calls Try.prog 51 #[.int .i64 n] w fun e w' => e = .returned (.bool (Cal.inB n)) ∧ w = w' := by
  have hl : Cal.inB n = (decide (-719162 ≤ n) && decide (n < 2932897)) := by rw [Bool.eq_iff_iff]; simp [Cal.inB]
  rw [hl]; clear hl
  by_cases h1 : -719162 ≤ n
  · go_enter Try.func51, Try.ntmps51
    go_wp2
    go_ret
    exact ⟨by simp [h1], rfl⟩
  · go_enter Try.func51, Try.ntmps51
    go_wp2
    go_ret
    exact ⟨by simp; omega, rfl⟩

/-- what the two searches end with: a date whose day is n -/
def okEnd (n y m : Int) : Prop := Cal.okG y m (n - Cal.dayG y m 1 + 1) ∧ Cal.dayG y m (n - Cal.dayG y m 1 + 1) = n
theorem okEnd_of {n y m : Int} (h1 : 1 ≤ y) (h2 : y ≤ 9999) (k1 : 1 ≤ m) (k2 : m ≤ 12) (k3 : Cal.dayG y m 1 ≤ n) (hy : Cal.dayG (y + 1) 1 1 = Cal.ysG (y + 1)) (hz : n < Cal.dayG (y + 1) 1 1) (hc : ¬ m < 12 ∨ n < Cal.dayG y (m + 1) 1) : okEnd n y m := by
  refine ⟨⟨h1, h2, k1, k2, by omega, ?_⟩, by unfold Cal.dayG; omega⟩
  rw [hy, Cal.ysG_succ] at hz
  by_cases hm : m < 12
  · have := Cal.cumG_succ y k1 (by omega)
    unfold Cal.dayG at *; omega
  · obtain rfl : m = 12 := by omega
    have e1 : Cal.cumG y 12 = 334 + Cal.lg y := by simp [Cal.cumG]
    have e2 : Cal.lenG y 12 = 31 := by simp [Cal.lenG, Cal.lenB]
    unfold Cal.dayG at *; omega
theorem okEnd_bd {n y m : Int} (h : okEnd n y m) (h1 : 1 ≤ y) (h2 : y ≤ 9999) : -719162 ≤ Cal.dayG y m 1 ∧ Cal.dayG y m 1 ≤ 2932896 := by
  have hg := Cal.dayG_in h.1
  have hl := Cal.lenG_bd y m
  obtain ⟨⟨_, _, k1, k2, k3, k4⟩, _⟩ := h
  have := Cal.cumG_bd y k1 k2
  have := Cal.ysG_bd h1 (by omega)
  unfold Cal.dayG at *; omega


def wdG (n : Int) : Int := if Cal.inB n then (n + 3) % 7 + 1 else 0
theorem cweekday_any (n : Int) (w : World) :
    Calls Try.prog 29 #[.int .i64 n] w fun e w' => e = .returned (.int .i64 (wdG n)) ∧ ∃ k, w' = w.drewN k := by
  by_cases hi : Cal.inB n = true
  · have hE : wdG n = (n + 3) % 7 + 1 := by simp [wdG, hi]
    obtain ⟨i1, i2⟩ := Cal.inB_iff.1 hi
    rw [hE]; clear hE
    go_enter Try.func29, Try.ntmps29
    go_wp2_with (first | (go_at_call 51; refine (cinside_any _ _).mono ?_; rintro e w' ⟨rfl, rfl⟩) | (go_at_call 52; refine (mod_any _ _ _ (by omega) (by omega) (by omega) (by omega)).mono ?_; rintro e w' ⟨rfl, k, rfl⟩))
    go_ret
    exact ⟨rfl, _, rfl⟩
  · have hE : wdG n = 0 := by simp [wdG, hi]
    have hi' : Cal.inB n = false := by simpa using hi
    rw [hE]; clear hE hi
    go_enter Try.func29, Try.ntmps29
    go_wp2_with (go_at_call 51; refine (cinside_any _ _).mono ?_; rintro e w' ⟨rfl, rfl⟩)
    go_ret
    exact ⟨rfl, 0, rfl⟩
end Go.Proofs.Ytpoehjnhinapoaa
