/- The contract of the reference's Moved where it has no answer. No conditions. -/
import Derived.Test.YtbfdmpjgdpglgaaIslO
namespace Go.Proofs.Ytbfdmpjgdpglgaa
open Go.ChangeShapes Go.WideShapes Go.ChangeAt Go.RowKit

set_option maxHeartbeats 4000000 in
theorem rmoved_bad (k y m d g E : Int) (w : World) (h : Isl.MoBad k m d g E) :
    Calls Try.prog 31 #[.int .i64 k, .agg #[.int .i64 y, .int .i64 m, .int .i64 d], .int .i64 g] w fun e w' => e = .returned (.tuple #[.slice none 0 0, .int .i64 E]) ∧ Below w.heap.size w w' := by
  rcases h with ⟨hk, rfl⟩ | ⟨hk, rfl, h⟩ | ⟨hk, rfl, m1, m2, d1, d2, h, hg⟩
  · go_enter Try.func31, Try.ntmps31
    go_wp2_with (first | (go_at_call 21; refine (rvalidk_any _ _).mono ?_; rintro e w' ⟨rfl, rfl⟩))
    go_ret2
    exact ⟨rfl, by (repeat (first | exact Below.refl _ _ | assumption | refine below_drewN ?_ _ | refine below_alloc1 ?_ _ | refine below_then ?_ (by assumption)))⟩
  · rcases h with h | ⟨h1, h2⟩ | ⟨h1, h2, h3⟩ | ⟨h1, h2, h3, h4⟩ | ⟨h1, h2, rfl, h4, h5⟩
    all_goals
      try have h5b : (m != 12) = true := by simpa using (by assumption : m ≠ 12)
      go_enter Try.func31, Try.ntmps31
      go_wp2_with (first | (go_at_call 21; refine (rvalidk_any _ _).mono ?_; rintro e w' ⟨rfl, rfl⟩))
      go_ret2
      exact ⟨rfl, by (repeat (first | exact Below.refl _ _ | assumption | refine below_drewN ?_ _ | refine below_alloc1 ?_ _ | refine below_then ?_ (by assumption)))⟩
  · rcases h with h | ⟨rfl, h⟩ | ⟨rfl, rfl⟩
    all_goals
      rcases hg with hg | ⟨hg, hg2⟩
      all_goals
        go_enter Try.func31, Try.ntmps31
        go_wp2_with (first | (go_at_call 21; refine (rvalidk_any _ _).mono ?_; rintro e w' ⟨rfl, rfl⟩))
        go_ret2
        exact ⟨rfl, by (repeat (first | exact Below.refl _ _ | assumption | refine below_drewN ?_ _ | refine below_alloc1 ?_ _ | refine below_then ?_ (by assumption)))⟩
end Go.Proofs.Ytbfdmpjgdpglgaa
