/- Texts of dates of weeks: what they are; which dates have one. No conditions. -/
import Derived.Test.YtajpbajffmiceaaWkO
import Derived.Laws.IdiomStrings
import Derived.Laws.Concat
import Derived.Deep.LoopGhost
namespace Wk
def dig (n : Int) : UInt8 := UInt8.ofNat (48 + n).toNat
theorem dig_nat {n : Int} (h : 0 ≤ n) (h2 : n ≤ 9) : ((dig n).toNat : Int) = 48 + n := by
  unfold dig
  rw [UInt8.toNat_ofNat']
  omega
/-- whether a date has a text -/
def shB (y k d : Int) : Bool := decide (1 ≤ y ∧ y ≤ 9999 ∧ 1 ≤ k ∧ k ≤ 54 ∧ 1 ≤ d ∧ d ≤ 7)
theorem shB_iff {y k d : Int} : shB y k d = true ↔ 1 ≤ y ∧ y ≤ 9999 ∧ 1 ≤ k ∧ k ≤ 54 ∧ 1 ≤ d ∧ d ≤ 7 := by unfold shB; exact decide_eq_true_iff
def tl (y k d : Int) : List UInt8 := [dig (y / 1000), dig (y / 100 % 10), dig (y / 10 % 10), dig (y % 10), 45, 87, dig (k / 10), dig (k % 10), 45, dig d]
def tx (y k d : Int) : ByteArray := if shB y k d then ⟨(tl y k d).toArray⟩ else ⟨#[]⟩
theorem sh_ways (y k d : Int) : (shB y k d = true ∧ 1 ≤ y ∧ y ≤ 9999 ∧ 1 ≤ k ∧ k ≤ 54 ∧ 1 ≤ d ∧ d ≤ 7) ∨ (shB y k d = false ∧ (y < 1 ∨ (1 ≤ y ∧ 9999 < y) ∨ (1 ≤ y ∧ y ≤ 9999 ∧ k < 1) ∨ (1 ≤ y ∧ y ≤ 9999 ∧ 1 ≤ k ∧ 54 < k) ∨ (1 ≤ y ∧ y ≤ 9999 ∧ 1 ≤ k ∧ k ≤ 54 ∧ d < 1) ∨ (1 ≤ y ∧ y ≤ 9999 ∧ 1 ≤ k ∧ k ≤ 54 ∧ 1 ≤ d ∧ 7 < d))) := by
  by_cases h : 1 ≤ y ∧ y ≤ 9999 ∧ 1 ≤ k ∧ k ≤ 54 ∧ 1 ≤ d ∧ d ≤ 7
  · exact Or.inl ⟨shB_iff.2 h, h⟩
  · exact Or.inr ⟨by unfold shB; exact decide_eq_false h, by omega⟩
end Wk
namespace Go.Proofs.Ytajpbajffmiceaa
open Go.ChangeShapes Go.WideShapes Go.ChangeAt Go.RowKit

set_option maxHeartbeats 2000000 in
theorem kshown_any (y k d : Int) (w : World) :
    Calls Try.prog 49 #[.agg #[.int .i64 y, .int .i64 k, .int .i64 d]] w fun e w' => e = .returned (.bool (Wk.shB y k d)) ∧ Below w.heap.size w w' := by
  have hB : ∀ y, Wk.yB y = (decide (1 ≤ y) && decide (y ≤ 9999)) := fun y => by rw [Bool.eq_iff_iff]; simp [Wk.yB]
  rcases Wk.sh_ways y k d with ⟨e, y1, y2, k1, k2, d1, d2⟩ | ⟨e, q⟩
  · have hy : Wk.yB y = true := by rw [hB]; simp [y1, y2]
    rw [e]; clear e hB
    go_enter Try.func49, Try.ntmps49
    go_wp2_with (first | (go_at_call 37; refine (kiny_any _ _).mono ?_; rintro e w' ⟨rfl, rfl⟩))
    go_ret
    exact ⟨by simp; try omega, by (repeat (first | exact Below.refl _ _ | assumption | refine below_drewN ?_ _ | refine below_alloc1 ?_ _ | refine below_then ?_ (by assumption)))⟩
  · rw [e]; clear e
    rcases q with q | ⟨q, q1⟩ | ⟨q, q1, q2⟩ | ⟨q, q1, q2, q3⟩ | ⟨q, q1, q2, q3, q4⟩ | ⟨q, q1, q2, q3, q4, q5⟩
    all_goals
      first
        | (have hy : Wk.yB y = false := by rw [hB]; simp; omega)
        | (have hy : Wk.yB y = true := by rw [hB]; simp; omega)
      clear hB
      go_enter Try.func49, Try.ntmps49
      go_wp2_with (first | (go_at_call 37; refine (kiny_any _ _).mono ?_; rintro e w' ⟨rfl, rfl⟩))
      go_ret
      exact ⟨by simp; try omega, by (repeat (first | exact Below.refl _ _ | assumption | refine below_drewN ?_ _ | refine below_alloc1 ?_ _ | refine below_then ?_ (by assumption)))⟩
set_option maxHeartbeats 2000000 in
theorem rknown_any (y k d : Int) (w : World) :
    Calls Try.prog 50 #[.agg #[.int .i64 y, .int .i64 k, .int .i64 d]] w fun e w' => e = .returned (.bool (Wk.shB y k d)) ∧ Below w.heap.size w w' := by
  rcases Wk.sh_ways y k d with ⟨e, y1, y2, k1, k2, d1, d2⟩ | ⟨e, q⟩
  · rw [e]; clear e
    go_enter Try.func50, Try.ntmps50
    go_wp2_with fail
    go_ret
    exact ⟨by simp; try omega, by (repeat (first | exact Below.refl _ _ | assumption | refine below_drewN ?_ _ | refine below_alloc1 ?_ _ | refine below_then ?_ (by assumption)))⟩
  · rw [e]; clear e
    rcases q with q | ⟨q, q1⟩ | ⟨q, q1, q2⟩ | ⟨q, q1, q2, q3⟩ | ⟨q, q1, q2, q3, q4⟩ | ⟨q, q1, q2, q3, q4, q5⟩
    all_goals
      go_enter Try.func50, Try.ntmps50
      go_wp2_with fail
      go_ret
      exact ⟨by simp; try omega, by (repeat (first | exact Below.refl _ _ | assumption | refine below_drewN ?_ _ | refine below_alloc1 ?_ _ | refine below_then ?_ (by assumption)))⟩
end Go.Proofs.Ytajpbajffmiceaa
