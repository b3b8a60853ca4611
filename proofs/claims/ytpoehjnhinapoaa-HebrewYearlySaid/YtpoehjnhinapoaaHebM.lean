/- The walk of HebrewBack. No conditions. -/
import Derived.Test.YtpoehjnhinapoaaHebL
namespace Go.Proofs.Ytpoehjnhinapoaa
open Go.ChangeShapes Go.WideShapes Go.ChangeAt Go.RowKit

set_option maxHeartbeats 2000000 in
theorem hback_in (n y m a : Int) (w : World) (i1 : -719162 ≤ n) (i2 : n < 2932897) (hi : Cal.inB n = true) :
    Calls Try.prog 10 #[.int .i64 n, .agg #[.int .i64 y, .int .i64 m, .int .i64 a]] w fun e w' => e = .returned (.bool true) ∧ Below w.heap.size w w' := by
  have hB := Lib.hid (Heb.back_day hi)
  have hE := Lib.hid (Heb.dE_in hi)
  clear hi
  go_enter Try.func10, Try.ntmps10
  go_wp2_with fail
  refine (awake_any _).mono ?_; rintro e w1 ⟨rfl, hb1⟩
  have hD := Lib.hid (Box3.born hb1)
  have hb := below_box hb1
  clear hb1
  go_wp2_with fail
  refine (hDate_any _ _).mono ?_; rintro e w2 ⟨rfl, hb2⟩
  rw [hE.out]
  have hD2 := Lib.hid ((hD.out.later hb2).alloc (Obj.cells #[.int .i64 (Heb.dY n), .int .i64 (Heb.dM n), .int .i64 (Heb.dA n)] 23))
  have hb := below_alloc1 (below_then hb hb2) (Obj.cells #[.int .i64 (Heb.dY n), .int .i64 (Heb.dM n), .int .i64 (Heb.dA n)] 23)
  clear hb2 hD
  go_wp2_with fail
  refine (hday_any _ _ _ _).mono ?_; rintro e w3 ⟨rfl, hb3⟩
  rw [hB.out.1, hB.out.2]
  have hD3 := Lib.hid (hD2.out.later hb3)
  have hb := below_then hb hb3
  clear hb3 hD2 hB hE
  obtain ⟨_, c0, c1, c2, _, _, _⟩ := hD3.out
  go_wp2_with fail
  refine (hday_any _ _ _ _).mono ?_; rintro e w4 ⟨rfl, hb4⟩
  have hD4 := Lib.hid (hD3.out.later hb4)
  have hb := below_then hb hb4
  clear hb4 hD3 c0 c1 c2
  rcases Heb.day_e y m a with q | q
  · obtain ⟨g1, g2, g3, g4⟩ := Heb.back_date q
    have gH := Lib.hid (And.intro g1 (And.intro g2 (And.intro g3 g4)))
    rw [q]
    clear q g1 g2 g3 g4
    go_wp2_with fail
    refine (hDate_any _ _).mono ?_; rintro e w5 ⟨rfl, hb5⟩
    rw [gH.out.1, gH.out.2.1, gH.out.2.2.1, gH.out.2.2.2]
    obtain ⟨_, c0, c1, c2, _, _, _⟩ := (hD4.out.later hb5).alloc (Obj.cells #[.int .i64 y, .int .i64 m, .int .i64 a] 23)
    have hb := below_alloc1 (below_then hb hb5) (Obj.cells #[.int .i64 y, .int .i64 m, .int .i64 a] 23)
    clear hb5 hD4
    go_wp2
    go_ret
    exact ⟨by simp, by (repeat (first | exact Below.refl _ _ | assumption | refine below_drewN ?_ _ | refine below_alloc1 ?_ _ | refine below_then ?_ (by assumption)))⟩
  · rw [q]
    clear q hD4
    go_wp2
    go_ret
    exact ⟨by simp, by (repeat (first | exact Below.refl _ _ | assumption | refine below_drewN ?_ _ | refine below_alloc1 ?_ _ | refine below_then ?_ (by assumption)))⟩
set_option maxHeartbeats 2000000 in
theorem hback_out (n y m a : Int) (w : World) (i1 : n < -719162 ∨ (-719162 ≤ n ∧ 2932897 ≤ n)) (hi : Cal.inB n = false) :
    Calls Try.prog 10 #[.int .i64 n, .agg #[.int .i64 y, .int .i64 m, .int .i64 a]] w fun e w' => e = .returned (.bool true) ∧ Below w.heap.size w w' := by
  have hE := Lib.hid (Heb.dE_out hi)
  clear hi
  rcases i1 with i1 | ⟨i1, i2⟩
  all_goals
    go_enter Try.func10, Try.ntmps10
    go_wp2_with fail
    refine (awake_any _).mono ?_; rintro e w1 ⟨rfl, hb1⟩
    have hD := Lib.hid (Box3.born hb1)
    have hb := below_box hb1
    clear hb1
    go_wp2_with fail
    refine (hDate_any _ _).mono ?_; rintro e w2 ⟨rfl, hb2⟩
    rw [hE.out]
    have hD3 := Lib.hid ((hD.out.later hb2).alloc (Obj.cells #[.int .i64 (Heb.dY n), .int .i64 (Heb.dM n), .int .i64 (Heb.dA n)] 23))
    have hb := below_alloc1 (below_then hb hb2) (Obj.cells #[.int .i64 (Heb.dY n), .int .i64 (Heb.dM n), .int .i64 (Heb.dA n)] 23)
    clear hb2 hD hE
    obtain ⟨_, c0, c1, c2, _, _, _⟩ := hD3.out
    go_wp2_with fail
    refine (hday_any _ _ _ _).mono ?_; rintro e w4 ⟨rfl, hb4⟩
    have hD4 := Lib.hid (hD3.out.later hb4)
    have hb := below_then hb hb4
    clear hb4 hD3 c0 c1 c2
    rcases Heb.day_e y m a with q | q
    · obtain ⟨g1, g2, g3, g4⟩ := Heb.back_date q
      have gH := Lib.hid (And.intro g1 (And.intro g2 (And.intro g3 g4)))
      rw [q]
      clear q g1 g2 g3 g4
      go_wp2_with fail
      refine (hDate_any _ _).mono ?_; rintro e w5 ⟨rfl, hb5⟩
      rw [gH.out.1, gH.out.2.1, gH.out.2.2.1, gH.out.2.2.2]
      obtain ⟨_, c0, c1, c2, _, _, _⟩ := (hD4.out.later hb5).alloc (Obj.cells #[.int .i64 y, .int .i64 m, .int .i64 a] 23)
      have hb := below_alloc1 (below_then hb hb5) (Obj.cells #[.int .i64 y, .int .i64 m, .int .i64 a] 23)
      clear hb5 hD4
      go_wp2
      go_ret
      exact ⟨by simp, by (repeat (first | exact Below.refl _ _ | assumption | refine below_drewN ?_ _ | refine below_alloc1 ?_ _ | refine below_then ?_ (by assumption)))⟩
    · rw [q]
      clear q hD4
      go_wp2
      go_ret
      exact ⟨by simp, by (repeat (first | exact Below.refl _ _ | assumption | refine below_drewN ?_ _ | refine below_alloc1 ?_ _ | refine below_then ?_ (by assumption)))⟩
theorem wHebrewBack (n y m a : Int) (w : World) (_h : -9223372036854775808 ≤ n ∧ n ≤ 9223372036854775807) (_h1 : -9223372036854775808 ≤ y ∧ y ≤ 9223372036854775807) (_h2 : -9223372036854775808 ≤ m ∧ m ≤ 9223372036854775807) (_h3 : -9223372036854775808 ≤ a ∧ a ≤ 9223372036854775807) :
    Calls Try.prog 10 #[.int .i64 n, .agg #[.int .i64 y, .int .i64 m, .int .i64 a]] w fun e w' => e = .returned (.bool true) ∧ Below w.heap.size w w' := by
  by_cases hi : Cal.inB n = true
  · have := Cal.inB_iff.1 hi
    exact hback_in n y m a w (by omega) (by omega) hi
  · exact hback_out n y m a w (by rw [Cal.inB_iff] at hi; omega) (by simpa using hi)
end Go.Proofs.Ytpoehjnhinapoaa
