/- The walks of WeekDates, WeekYears and WeekNext. No conditions. -/
import Derived.Test.YtajpbajffmiceaaWkS
namespace Wk
open Cal
theorem of_2026 : ofY 1 4 20454 = 2026 ∧ ofW 1 4 20454 = 1 ∧ ofD 1 4 20454 = 4 ∧ ofE 1 4 20454 = 0 := by
  have hr : rB 1 4 = true := by decide +kernel
  have hi : inB 20454 = true := by decide +kernel
  have hb : bg 1 4 2026 = 20451 := by decide +kernel
  have hw : wy 1 4 20454 = 2026 := (wy_eq hr hi (by rw [hb]; omega) (by decide +kernel)).symm
  have hk : okOf 1 4 20454 = true := by unfold okOf; rw [hr, hi, hw]; decide +kernel
  have hy : yB 2026 = true := by decide +kernel
  unfold ofY ofW ofD ofE
  rw [hk, hw, hb, hr, hi, hy]
  exact ⟨rfl, rfl, rfl, rfl⟩
theorem st_2026 : stN 1 4 2026 = 20451 ∧ stE 1 4 2026 = 0 ∧ stN 7 1 2026 = 20450 ∧ stE 7 1 2026 = 0 := by decide +kernel
end Wk
namespace Go.Proofs.Ytajpbajffmiceaa
open Go.ChangeShapes Go.WideShapes Go.ChangeAt Go.RowKit

set_option maxHeartbeats 400000 in
theorem awake_any (w : World) :
    Calls Try.prog 12 #[] w fun e w' => e = .returned (.bool true) ∧ Below w.heap.size w w' := by
  obtain ⟨e1, e2, e3, e4⟩ := Wk.of_2026
  obtain ⟨s1, s2, s3, s4⟩ := Wk.st_2026
  go_enter Try.func12, Try.ntmps12
  go_wp2_with fail
  refine (kiso_any _).mono ?_; rintro e w1 ⟨rfl, hb1⟩
  go_wp2_with fail
  refine (kof_any _ _ _ _).mono ?_; rintro e w2 ⟨rfl, hb2⟩
  rw [e1, e2, e3, e4]
  have hb := below_then hb1 hb2
  clear hb1 hb2
  go_wp2_with fail
  refine (kiso_any _).mono ?_; rintro e w3 ⟨rfl, hb3⟩
  have hD := Lib.hid (Box3.born hb3)
  have hb := below_then hb (below_box hb3)
  clear hb3
  go_wp2_with fail
  refine (kstart_any _ _ _ _).mono ?_; rintro e w4 ⟨rfl, hb4⟩
  rw [s1, s2]
  have hD2 := Lib.hid (hD.out.later hb4)
  have hb := below_then hb hb4
  clear hb4 hD
  go_wp2_with fail
  refine (kstart_any _ _ _ _).mono ?_; rintro e w5 ⟨rfl, hb5⟩
  rw [s3, s4]
  have hD3 := Lib.hid (hD2.out.later hb5)
  have hb := below_then hb hb5
  clear hb5 hD2
  obtain ⟨_, c0, c1, c2, _, _, _⟩ := hD3.out
  go_wp2
  go_ret
  exact ⟨by simp, hb⟩

set_option maxHeartbeats 1000000 in
theorem wWeekDates (f mi n : Int) (w : World) (_hf : -9223372036854775808 ≤ f ∧ f ≤ 9223372036854775807) (_hm : -9223372036854775808 ≤ mi ∧ mi ≤ 9223372036854775807) (_hn : -9223372036854775808 ≤ n ∧ n ≤ 9223372036854775807) :
    Calls Try.prog 3 #[.agg #[.int .i64 f, .int .i64 mi], .int .i64 n] w fun e w' => e = .returned (.bool true) ∧ Below w.heap.size w w' := by
  go_enter Try.func3, Try.ntmps3
  go_wp2_with fail
  refine (awake_any _).mono ?_; rintro e w1 ⟨rfl, hb1⟩
  have hD := Lib.hid (Box2.born hb1)
  have hb := below_box hb1
  obtain ⟨_, c0, c1⟩ := hD.out
  clear hb1
  go_wp2_with fail
  refine (kof_any _ _ _ _).mono ?_; rintro e w2 ⟨rfl, hb2⟩
  have hD2 := Lib.hid (hD.out.later hb2)
  have hb := below_then hb hb2
  clear hb2 hD c0 c1
  obtain ⟨_, c0, c1⟩ := hD2.out
  go_wp2_with fail
  refine (rwof_any _ _ _ _).mono ?_; rintro e w3 ⟨rfl, hb3⟩
  go_wp2_with fail
  have hE := Box3.new w3 (.int .i64 (Wk.ofY f mi n)) (.int .i64 (Wk.ofW f mi n)) (.int .i64 (Wk.ofD f mi n)) 26
  have hF := (Box3.born hb3).alloc (Obj.cells #[.int .i64 (Wk.ofY f mi n), .int .i64 (Wk.ofW f mi n), .int .i64 (Wk.ofD f mi n)] 26)
  have hG := (hD2.out.later (below_box hb3)).later ((Below.refl _ _).alloc (Nat.le_refl _) (Obj.cells #[.int .i64 (Wk.ofY f mi n), .int .i64 (Wk.ofW f mi n), .int .i64 (Wk.ofD f mi n)] 26))
  have hb := below_then hb (below_box hb3)
  have hb := hb.alloc hb.size (Obj.cells #[.int .i64 (Wk.ofY f mi n), .int .i64 (Wk.ofW f mi n), .int .i64 (Wk.ofD f mi n)] 26)
  clear hb3 hD2 c0 c1
  generalize w3.alloc (Obj.cells #[.int .i64 (Wk.ofY f mi n), .int .i64 (Wk.ofW f mi n), .int .i64 (Wk.ofD f mi n)] 26) = W at *
  obtain ⟨le, e0, e1, e2, _, _, _⟩ := hE
  obtain ⟨lf, f0, f1, f2, _, _, _⟩ := hF
  obtain ⟨lg, g0, g1⟩ := hG
  go_region_held3 (fun w' => (w'.cell? ⟨w.heap.size, 0, none⟩ = some (.int .i64 f) ∧ w'.cell? ⟨w.heap.size, 1, none⟩ = some (.int .i64 mi)) ∧ (w'.cell? ⟨w2.heap.size, 0, none⟩ = some (.int .i64 (Wk.ofY f mi n)) ∧ w'.cell? ⟨w2.heap.size, 1, none⟩ = some (.int .i64 (Wk.ofW f mi n)) ∧ w'.cell? ⟨w2.heap.size, 2, none⟩ = some (.int .i64 (Wk.ofD f mi n))) ∧ (w'.cell? ⟨w3.heap.size, 0, none⟩ = some (.int .i64 (Wk.ofY f mi n)) ∧ w'.cell? ⟨w3.heap.size, 1, none⟩ = some (.int .i64 (Wk.ofW f mi n)) ∧ w'.cell? ⟨w3.heap.size, 2, none⟩ = some (.int .i64 (Wk.ofD f mi n))))
    (first | go_keep | (go_split_ands; exact ⟨⟨keep1 hb9 (by assumption) (by assumption), keep1 hb9 (by assumption) (by assumption)⟩, ⟨keep1 hb9 (by assumption) (by assumption), keep1 hb9 (by assumption) (by assumption), keep1 hb9 (by assumption) (by assumption)⟩, ⟨keep1 hb9 (by assumption) (by assumption), keep1 hb9 (by assumption) (by assumption), keep1 hb9 (by assumption) (by assumption)⟩⟩))
    (first | ((first | (go_at_call 15; refine (kvalid_any _ _ _).mono ?_) | (go_at_call 16; refine (rwvalid_any _ _ _).mono ?_) | (go_at_call 17; refine (kiso_any _).mono ?_)); rintro e w9 ⟨rfl, hb9⟩; (first | replace hb9 := below_undrew hb9 | skip); have hb := below_then hb hb9; have lg := Nat.lt_of_lt_of_le lg hb9.size; have lf := Nat.lt_of_lt_of_le lf hb9.size; have le := Nat.lt_of_lt_of_le le hb9.size))
  go_wp2
  go_ret
  exact ⟨by simp, hb⟩
end Go.Proofs.Ytajpbajffmiceaa
