/- Contracts of the functions of package week: rules, first days of week-years, the week of a day. No conditions. -/
import Derived.Deep.LoopGhost
import Derived.Deep.RegionHeld3
import Derived.Test.YtehjjinlpilelaaGreatDoorMa
import Derived.Test.YtehjjinlpilelaaGreatDoorMb
import Derived.Test.YtehjjinlpilelaaGreatDoorSCivil
namespace Go.Proofs.YtehjjinlpilelaaGreatDoor
open Go.ChangeShapes Go.WideShapes Go.ChangeAt Go.RowKit

/-- block b holds the two values -/
structure Box2 (w : World) (b : Nat) (x y : Value) : Prop where
  lt : b < w.heap.size
  c0 : w.cell? ⟨b, 0, none⟩ = some x
  c1 : w.cell? ⟨b, 1, none⟩ = some y
theorem Box2.later {w w' : World} {b : Nat} {x y : Value} (h : Box2 w b x y) (hb : Below w.heap.size w w') : Box2 w' b x y :=
  ⟨Nat.lt_of_lt_of_le h.lt hb.size, keep1 hb h.lt h.c0, keep1 hb h.lt h.c1⟩
theorem Box2.new (w : World) (x y : Value) (t : TypeId) : Box2 (w.alloc (.cells #[x, y] t)) w.heap.size x y := by
  refine ⟨by simp, ?_, ?_⟩ <;> simp
theorem Box2.born {w w1 : World} {x y : Value} {t : TypeId} (hb : Below (w.alloc (.cells #[x, y] t)).heap.size (w.alloc (.cells #[x, y] t)) w1) : Box2 w1 w.heap.size x y := (Box2.new w x y t).later hb
theorem below_undrew {w w' : World} (h : Below w.drew.heap.size w.drew w') : Below w.heap.size w w' := ⟨h.os, h.tape, h.output, h.size, h.block⟩
theorem below_undrewN {w w' : World} {n : Nat} (h : Below (w.drewN n).heap.size (w.drewN n) w') : Below w.heap.size w w' := ⟨h.os, h.tape, h.output, h.size, h.block⟩

theorem kiny_any (y : Int) (w : World) :
    Calls Tryz.prog 58 #[.int .i64 y] w fun e w' => e = .returned (.bool (Wk.yB y)) ∧ w = w' := by
  have hl : Wk.yB y = (decide (1 ≤ y) && decide (y ≤ 9999)) := by rw [Bool.eq_iff_iff]; simp [Wk.yB]
  rw [hl]; clear hl
  by_cases h1 : 1 ≤ y
  · go_enter Tryz.func58, Tryz.ntmps58
    go_wp2
    go_ret
    exact ⟨by simp [h1], rfl⟩
  · go_enter Tryz.func58, Tryz.ntmps58
    go_wp2
    go_ret
    exact ⟨by simp; omega, rfl⟩
theorem kvalid_any (f mi : Int) (w : World) :
    Calls Tryz.prog 59 #[.agg #[.int .i64 f, .int .i64 mi]] w fun e w' => e = .returned (.bool (Wk.rB f mi)) ∧ Below w.heap.size w w' := by
  have hl : Wk.rB f mi = (decide (1 ≤ f) && (decide (f ≤ 7) && (decide (1 ≤ mi) && decide (mi ≤ 7)))) := by rw [Bool.eq_iff_iff]; simp [Wk.rB]
  rw [hl]; clear hl
  by_cases h1 : 1 ≤ f
  · by_cases h2 : f ≤ 7
    · by_cases h3 : 1 ≤ mi
      all_goals
        go_enter Tryz.func59, Tryz.ntmps59
        go_wp2
        go_ret
        exact ⟨by simp [h1, h2]; try omega, by go_grown⟩
    · go_enter Tryz.func59, Tryz.ntmps59
      go_wp2
      go_ret
      exact ⟨by simp; try omega, by go_grown⟩
  · go_enter Tryz.func59, Tryz.ntmps59
    go_wp2
    go_ret
    exact ⟨by simp; try omega, by go_grown⟩
theorem knewyear_any (y : Int) (w : World) (h1 : 1 ≤ y) (h2 : y ≤ 10000) :
    Calls Tryz.prog 57 #[.int .i64 y] w fun e w' => e = .returned (.int .i64 (Cal.ysG y)) ∧ Below w.heap.size w w' := by
  by_cases h3 : y ≤ 9999
  · have ho : Cal.okGb y 1 1 = true := Cal.okGb_iff.2 ⟨h1, h3, by omega, by omega, by omega, by have := Cal.lenG_bd y 1; omega⟩
    have hd : Cal.dayGn y 1 1 = Cal.ysG y := by simp [Cal.dayGn, ho, Cal.dayG, Cal.cumG]
    clear ho
    go_enter Tryz.func57, Tryz.ntmps57
    go_wp2_with (go_at_call 8; refine (cday_any _ _ _ _).mono ?_; rintro e w1 ⟨rfl, hb⟩)
    go_ret
    exact ⟨rfl, hb⟩
  · obtain rfl : y = 10000 := by omega
    have hd : Cal.ysG 10000 = 2932897 := by decide
    rw [hd]; clear hd
    go_enter Tryz.func57, Tryz.ntmps57
    go_wp2
    go_ret
    exact ⟨rfl, Below.refl _ _⟩
theorem kweekday_any (n : Int) (w : World) (h1 : -100000000 ≤ n) (h2 : n ≤ 100000000) :
    Calls Tryz.prog 61 #[.int .i64 n] w fun e w' => e = .returned (.int .i64 (Wk.wd n)) ∧ ∃ k, w' = w.drewN k := by
  have hw : Wk.wd n = (n + 3) % 7 + 1 := rfl
  rw [hw]; clear hw
  go_enter Tryz.func61, Tryz.ntmps61
  go_wp2_with (go_at_call 42; refine (mod_any _ _ _ (by omega) (by omega) (by omega) (by omega)).mono ?_; rintro e w' ⟨rfl, k, rfl⟩)
  go_ret
  exact ⟨rfl, _, rfl⟩

set_option maxHeartbeats 400000 in
theorem kbegin_any (f mi y : Int) (w : World) (hr : Wk.rB f mi = true) (h1 : 1 ≤ y) (h2 : y ≤ 10000) :
    Calls Tryz.prog 60 #[.agg #[.int .i64 f, .int .i64 mi], .int .i64 y] w fun e w' => e = .returned (.int .i64 (Wk.bg f mi y)) ∧ Below w.heap.size w w' := by
  obtain ⟨r1, r2, r3, r4⟩ := Wk.rB_iff.1 hr
  have hys := Cal.ysG_bd h1 h2
  have hwd : 1 ≤ Wk.wd (Cal.ysG y) ∧ Wk.wd (Cal.ysG y) ≤ 7 := by unfold Wk.wd; omega
  have hbg : Wk.bg f mi y = (if mi ≤ 7 - (Wk.wd (Cal.ysG y) - f) % 7 then Cal.ysG y - (Wk.wd (Cal.ysG y) - f) % 7 else Cal.ysG y - (Wk.wd (Cal.ysG y) - f) % 7 + 7) := rfl
  clear hr
  by_cases hc : mi ≤ 7 - (Wk.wd (Cal.ysG y) - f) % 7
  all_goals
    first | rw [if_pos hc] at hbg | rw [if_neg hc] at hbg
    rw [hbg]; clear hbg
    go_enter Tryz.func60, Tryz.ntmps60
    go_wp2_with fail
    refine (knewyear_any _ _ h1 h2).mono ?_; rintro e w1 ⟨rfl, hb1⟩
    obtain ⟨_, c0, c1⟩ := Box2.born hb1
    have hb := below_box hb1
    clear hb1
    go_wp2_with fail
    go_quiet ((first | (go_at_call 61; exact Calls.quiet_of (kweekday_any _ _ (by omega) (by omega))) | (go_at_call 42; refine Calls.quiet_of (mod_any _ _ _ ?_ ?_ ?_ ?_) <;> omega)))
    go_wp2
    go_ret
    exact ⟨rfl, below_drewN hb _⟩
end Go.Proofs.YtehjjinlpilelaaGreatDoor
