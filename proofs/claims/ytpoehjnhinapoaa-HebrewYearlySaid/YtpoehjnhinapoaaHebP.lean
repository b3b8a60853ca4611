/- The walks of HebrewAnniversaries and HebrewYearly. No conditions. -/
import Derived.Test.YtpoehjnhinapoaaHebO
namespace Heb
theorem an_own {y m d : Int} (h : okb y m d = true) : anY y m d y = y ∧ anM y m d y = m ∧ anA y m d y = d ∧ anE y m d y = 0 := by
  have hk := okb_iff.1 h
  have hy := hk.1
  have hb : anB y m d y = true := by simp [anB, h, hy]
  have e : an y m y = m := by unfold an; split <;> simp_all
  have ex : anX y m d y = day y m d := by unfold anX; rw [e]; rfl
  obtain ⟨a, b, c⟩ := dt_day hk
  simp only [anY, anM, anA, anE, hb, if_true, ex]
  exact ⟨a, b, c, trivial⟩
theorem an_other {y m d y2 : Int} (h : okb y m d = true) : (anE y m d y2 = 2 ∧ (y2 < 1 ∨ (¬ y2 < 1 ∧ 20000 < y2))) ∨
    (anE y m d y2 = 0 ∧ ((anY y m d y2 = y2 ∧ anA y m d y2 = d ∧ (anM y m d y2 = m ∨ (12 ≤ m ∧ 12 ≤ anM y m d y2 ∧ anM y m d y2 ≠ m))) ∨ (d = 30 ∧ anA y m d y2 = 1))) := by
  by_cases h2 : yB y2 = true
  · have hb : anB y m d y2 = true := by simp [anB, h, h2]
    obtain ⟨_, _, _, _, w1, w2⟩ := an_ways (okb_iff.1 h) h2
    refine Or.inr ⟨by simp [anE, hb], ?_⟩
    simp only [anY, anM, anA, hb, if_true]
    rcases w1 with ⟨a, b, c⟩ | ⟨a, b⟩
    · refine Or.inl ⟨a, c, ?_⟩
      rw [b]
      by_cases q : an y m y2 = m
      · exact Or.inl q
      · exact Or.inr (by omega)
    · exact Or.inr ⟨a, b⟩
  · have hb : anB y m d y2 = false := by simp [anB, h2]
    refine Or.inl ⟨by simp [anE, hb], ?_⟩
    rw [yB_iff] at h2; omega
end Heb
namespace Go.Proofs.Ytpoehjnhinapoaa
open Go.ChangeShapes Go.WideShapes Go.ChangeAt Go.RowKit

set_option maxHeartbeats 2000000 in
theorem wHebrewAnniversaries (y m d y2 : Int) (w : World) (_h : -9223372036854775808 ≤ y ∧ y ≤ 9223372036854775807) (_h1 : -9223372036854775808 ≤ m ∧ m ≤ 9223372036854775807) (_h2 : -9223372036854775808 ≤ d ∧ d ≤ 9223372036854775807) (_h3 : -9223372036854775808 ≤ y2 ∧ y2 ≤ 9223372036854775807) :
    Calls Try.prog 12 #[.agg #[.int .i64 y, .int .i64 m, .int .i64 d], .int .i64 y2] w fun e w' => e = .returned (.bool true) ∧ Below w.heap.size w w' := by
  go_enter Try.func12, Try.ntmps12
  go_wp2_with fail
  refine (awake_any _).mono ?_; rintro e w1 ⟨rfl, hb1⟩
  have hD := Lib.hid (Box3.born hb1)
  have hb := below_box hb1
  clear hb1
  obtain ⟨_, c0, c1, c2, _, _, _⟩ := hD.out
  go_wp2_with fail
  refine (hanniv_any _ _ _ _ _).mono ?_; rintro e w2 ⟨rfl, hb2⟩
  have hD2 := Lib.hid ((hD.out.later hb2).alloc (Obj.cells #[.int .i64 (Heb.anY y m d y2), .int .i64 (Heb.anM y m d y2), .int .i64 (Heb.anA y m d y2)] 23))
  have hb := below_then hb hb2
  clear hb2 hD c0 c1 c2
  obtain ⟨_, c0, c1, c2, _, _, _⟩ := hD2.out
  go_wp2_with fail
  refine (rhanniv_any _ _ _ _ _).mono ?_; rintro e w3 ⟨rfl, hb3⟩
  have hE := Box3.born hb3
  have hb := below_then hb (below_box hb3)
  clear hb3 hD2 c0 c1 c2
  obtain ⟨_, c0, c1, c2, _, _, _⟩ := hE.alloc (Obj.cells #[.int .i64 (Heb.anY y m d y2), .int .i64 (Heb.anM y m d y2), .int .i64 (Heb.anA y m d y2)] 23)
  go_wp2
  go_ret
  exact ⟨by simp, by (repeat (first | exact Below.refl _ _ | assumption | refine below_drewN ?_ _ | refine below_alloc1 ?_ _ | refine below_then ?_ (by assumption)))⟩
theorem hyearly_bad (y m d y2 : Int) (w : World) (ho : Heb.okb y m d = false) :
    Calls Try.prog 13 #[.agg #[.int .i64 y, .int .i64 m, .int .i64 d], .int .i64 y2] w fun e w' => e = .returned (.bool true) ∧ Below w.heap.size w w' := by
  have hE : Heb.anE y m d y2 = 2 := by simp [Heb.anE, Heb.anB, ho]
  go_enter Try.func13, Try.ntmps13
  go_wp2_with fail
  refine (awake_any _).mono ?_; rintro e w1 ⟨rfl, hb1⟩
  have hD := Lib.hid (Box3.born hb1)
  have hb := below_box hb1
  clear hb1
  obtain ⟨_, c0, c1, c2, _, _, _⟩ := hD.out
  go_wp2_with fail
  refine (rhvalid_any _ _ _ _).mono ?_; rintro e w2 ⟨rfl, hb2⟩
  have hD2 := Lib.hid (hD.out.later hb2)
  have hb := below_then hb hb2
  clear hb2 hD c0 c1 c2
  obtain ⟨_, c0, c1, c2, _, _, _⟩ := hD2.out
  go_wp2_with fail
  refine (hanniv_any _ _ _ _ _).mono ?_; rintro e w3 ⟨rfl, hb3⟩
  have hb := below_then hb hb3
  clear hb3 hD2 c0 c1 c2
  go_wp2
  go_ret
  exact ⟨by simp, by (repeat (first | exact Below.refl _ _ | assumption | refine below_drewN ?_ _ | refine below_alloc1 ?_ _ | refine below_then ?_ (by assumption)))⟩
set_option maxHeartbeats 4000000 in
theorem hyearly_good (y m d y2 : Int) (w : World) (ho : Heb.okb y m d = true) :
    Calls Try.prog 13 #[.agg #[.int .i64 y, .int .i64 m, .int .i64 d], .int .i64 y2] w fun e w' => e = .returned (.bool true) ∧ Below w.heap.size w w' := by
  have hOwn := Lib.hid (Heb.an_own ho)
  have hOth := Lib.hid (Heb.an_other (y2 := y2) ho)
  go_enter Try.func13, Try.ntmps13
  go_wp2_with fail
  refine (awake_any _).mono ?_; rintro e w1 ⟨rfl, hb1⟩
  have hD := Lib.hid (Box3.born hb1)
  have hb := below_box hb1
  clear hb1
  obtain ⟨_, c0, c1, c2, _, _, _⟩ := hD.out
  go_wp2_with fail
  refine (rhvalid_any _ _ _ _).mono ?_; rintro e w2 ⟨rfl, hb2⟩
  have hD2 := Lib.hid (hD.out.later hb2)
  have hb := below_then hb hb2
  clear hb2 hD c0 c1 c2
  obtain ⟨_, c0, c1, c2, _, _, _⟩ := hD2.out
  go_wp2_with fail
  refine (hanniv_any _ _ _ _ _).mono ?_; rintro e w3 ⟨rfl, hb3⟩
  rw [hOwn.out.1, hOwn.out.2.1, hOwn.out.2.2.1, hOwn.out.2.2.2]
  have hD3 := Lib.hid ((hD2.out.later hb3).alloc (Obj.cells #[.int .i64 y, .int .i64 m, .int .i64 d] 23))
  have hb := below_then hb hb3
  clear hb3 hD2 c0 c1 c2 hOwn
  obtain ⟨_, c0, c1, c2, _, _, _⟩ := hD3.out
  go_wp2_with fail
  refine (hanniv_any _ _ _ _ _).mono ?_; rintro e w4 ⟨rfl, hb4⟩
  have hD4 := Lib.hid (hD3.out.later hb4)
  have hb := below_then hb (below_box hb4)
  clear hb4 hD3 c0 c1 c2
  rcases hOth.out with ⟨q, k⟩ | ⟨q, k⟩
  · rw [q]
    clear hOth q
    rcases k with k | ⟨k, k2⟩
    all_goals
      go_wp2
      go_ret
      exact ⟨by simp; try omega, by (repeat (first | exact Below.refl _ _ | assumption | refine below_drewN ?_ _ | refine below_alloc1 ?_ _ | refine below_then ?_ (by assumption)))⟩
  · rw [q]
    clear hOth q
    rcases k with ⟨k1, k2, k3⟩ | ⟨k1, k2⟩
    · rw [k1, k2]
      clear k1 k2
      obtain ⟨_, c0, c1, c2, _, _, _⟩ := hD4.out.alloc (Obj.cells #[.int .i64 y2, .int .i64 (Heb.anM y m d y2), .int .i64 d] 23)
      rcases k3 with k3 | ⟨k3, k4, k5⟩
      · have k3' : (Heb.anM y m d y2 == m) = true := by simpa using k3
        clear k3
        go_wp2
        go_ret
        exact ⟨by simp; try omega, by (repeat (first | exact Below.refl _ _ | assumption | refine below_drewN ?_ _ | refine below_alloc1 ?_ _ | refine below_then ?_ (by assumption)))⟩
      · have k3' : (Heb.anM y m d y2 == m) = false := by simpa using k5
        clear k5
        go_wp2
        go_ret
        exact ⟨by simp; try omega, by (repeat (first | exact Below.refl _ _ | assumption | refine below_drewN ?_ _ | refine below_alloc1 ?_ _ | refine below_then ?_ (by assumption)))⟩
    · subst k1
      rw [k2]
      obtain ⟨_, c0, c1, c2, _, _, _⟩ := hD4.out.alloc (Obj.cells #[.int .i64 (Heb.anY y m 30 y2), .int .i64 (Heb.anM y m 30 y2), .int .i64 1] 23)
      clear k2
      go_wp2
      go_ret
      exact ⟨by simp; try omega, by (repeat (first | exact Below.refl _ _ | assumption | refine below_drewN ?_ _ | refine below_alloc1 ?_ _ | refine below_then ?_ (by assumption)))⟩
theorem wHebrewYearly (y m d y2 : Int) (w : World) (_h : -9223372036854775808 ≤ y ∧ y ≤ 9223372036854775807) (_h1 : -9223372036854775808 ≤ m ∧ m ≤ 9223372036854775807) (_h2 : -9223372036854775808 ≤ d ∧ d ≤ 9223372036854775807) (_h3 : -9223372036854775808 ≤ y2 ∧ y2 ≤ 9223372036854775807) :
    Calls Try.prog 13 #[.agg #[.int .i64 y, .int .i64 m, .int .i64 d], .int .i64 y2] w fun e w' => e = .returned (.bool true) ∧ Below w.heap.size w w' := by
  by_cases ho : Heb.okb y m d = true
  · exact hyearly_good y m d y2 w ho
  · exact hyearly_bad y m d y2 w (by simpa using ho)
end Go.Proofs.Ytpoehjnhinapoaa
