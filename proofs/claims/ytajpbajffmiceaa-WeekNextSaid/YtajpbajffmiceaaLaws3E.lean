/- The walk of WeekNext, joined. No conditions. -/
import Derived.Test.YtajpbajffmiceaaLaws3D
namespace Go.Proofs.Ytajpbajffmiceaa
open Go.ChangeShapes Go.WideShapes Go.ChangeAt Go.RowKit

set_option maxHeartbeats 400000 in
theorem wWeekNext (f mi n : Int) (w : World) (_hf : -9223372036854775808 ≤ f ∧ f ≤ 9223372036854775807) (_hm : -9223372036854775808 ≤ mi ∧ mi ≤ 9223372036854775807) (_hn : -9223372036854775808 ≤ n ∧ n ≤ 9223372036854775807) :
    Calls Try.prog 5 #[.agg #[.int .i64 f, .int .i64 mi], .int .i64 n] w fun e w' => e = .returned (.bool true) ∧ Below w.heap.size w w' := by
  by_cases h1 : n < -719171
  · go_enter Try.func5, Try.ntmps5
    go_wp2_with fail
    refine (awake_any _).mono ?_; rintro e w1 ⟨rfl, hb1⟩
    have hb := below_box hb1
    clear hb1
    go_wp2
    go_ret
    exact ⟨by simp, hb⟩
  · by_cases h2 : n > 2932906
    · go_enter Try.func5, Try.ntmps5
      go_wp2_with fail
      refine (awake_any _).mono ?_; rintro e w1 ⟨rfl, hb1⟩
      have hb := below_box hb1
      clear hb1
      go_wp2
      go_ret
      exact ⟨by simp, hb⟩
    · have q1 : decide (n < -719171) = false := by simpa using h1
      have q2 : decide (n > 2932906) = false := by simpa using h2
      rcases Wk.ofE_ways f mi n with hE | ⟨hE, ho⟩
      · exact knext_bad f mi n w q1 q2 (Or.inl hE)
      · rcases Wk.ofE_ways f mi (n + 1) with hE' | ⟨hE', ho'⟩
        · exact knext_bad f mi n w q1 q2 (Or.inr ⟨hE, hE'⟩)
        · obtain ⟨hR, t3⟩ := Wk.next_good ho ho'
          exact knext_good f mi n w q1 q2 (by omega) _ _ _ _ _ _ _ _ rfl rfl rfl hE rfl rfl rfl hE' rfl rfl t3 hR
end Go.Proofs.Ytajpbajffmiceaa
