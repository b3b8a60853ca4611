/- The walk of FeastYears. Condition: the table of lengths. -/
import Derived.Test.YtaclggocacafaaaDoorFeaH
namespace Go.Proofs.YtaclggocacafaaaDoor
open Go.ChangeShapes Go.WideShapes Go.ChangeAt Go.RowKit

set_option maxHeartbeats 2000000 in
theorem fyears_early (o m d fr to : Int) (w : World) (ht : Tab w) (ways : (fr < 1 ∧ to ≤ 9999 ∧ 60 < to - 1) ∨ (fr < 1 ∧ to ≤ 9999 ∧ to - 1 < -9223372036854775808 ∧ 60 < wrap64 (to - 1)) ∨ (1 ≤ fr ∧ to ≤ 9999 ∧ -9223372036854775808 ≤ to - fr ∧ 60 < to - fr) ∨ (1 ≤ fr ∧ to ≤ 9999 ∧ to - fr < -9223372036854775808 ∧ 60 < wrap64 (to - fr)) ∨ (1 ≤ fr ∧ fr ≤ 9223372036854775807 ∧ 9999 < to ∧ 60 < 9999 - fr) ∨ (fr < 1 ∧ 9999 < to)) :
    Calls Tryd.prog 9 #[.int .i64 o, .int .i64 m, .int .i64 d, .int .i64 fr, .int .i64 to] w fun e w' => e = .returned (.bool true) ∧ Below w.heap.size w w' := by
  rcases ways with ⟨a1, b1, c1⟩ | ⟨a1, b1, r1, c1⟩ | ⟨a1, b1, r1, c1⟩ | ⟨a1, b1, r1, c1⟩ | ⟨a1, r1, b1, c1⟩ | ⟨a1, b1⟩
  all_goals
    go_enter Tryd.func9, Tryd.ntmps9
    go_wp2_with fail
    refine (awake_any _ ht).mono ?_; rintro e w1 ⟨rfl, hb1⟩
    go_wp2_with fail
    go_ret
    exact ⟨rfl, hb1⟩
set_option maxHeartbeats 4000000 in
theorem fyears_zero (o m d fr to lo hi : Int) (w : World) (ht : Tab w) (h0 : hi < lo) (ways : (fr < 1 ∧ to ≤ 9999 ∧ lo = 1 ∧ hi = to ∧ -9223372036854775808 ≤ to - 1 ∧ ¬ 60 < to - 1) ∨ (fr < 1 ∧ to ≤ 9999 ∧ lo = 1 ∧ hi = to ∧ to - 1 < -9223372036854775808 ∧ ¬ 60 < wrap64 (to - 1)) ∨ (1 ≤ fr ∧ to ≤ 9999 ∧ lo = fr ∧ hi = to ∧ -9223372036854775808 ≤ to - fr ∧ ¬ 60 < to - fr) ∨ (1 ≤ fr ∧ to ≤ 9999 ∧ lo = fr ∧ hi = to ∧ to - fr < -9223372036854775808 ∧ ¬ 60 < wrap64 (to - fr)) ∨ (1 ≤ fr ∧ 9999 < to ∧ lo = fr ∧ hi = 9999 ∧ fr ≤ 9223372036854775807 ∧ ¬ 60 < 9999 - fr)) :
    Calls Tryd.prog 9 #[.int .i64 o, .int .i64 m, .int .i64 d, .int .i64 fr, .int .i64 to] w fun e w' => e = .returned (.bool true) ∧ Below w.heap.size w w' := by
  have hY := Lib.hid (fun w => fyears_none o m d fr to lo hi w (by omega) (by omega) h0)
  rcases ways with ⟨a1, b1, a2, b2, r1, c1⟩ | ⟨a1, b1, a2, b2, r1, c1⟩ | ⟨a1, b1, a2, b2, r1, c1⟩ | ⟨a1, b1, a2, b2, r1, c1⟩ | ⟨a1, b1, a2, b2, r1, c1⟩
  all_goals
    have aH := Lib.hid (And.intro a2 b2)
    clear a2 b2
    go_enter Tryd.func9, Tryd.ntmps9
    go_wp2_with fail
    refine (awake_any _ ht).mono ?_; rintro e w1 ⟨rfl, hb1⟩
    go_wp2_with fail
    refine (hY.out _).mono ?_; rintro e w2 ⟨rfl, hb2⟩
    have hb := below_then hb1 hb2
    clear hb1 hb2
    go_wp2_with fail
    go_loopg [14, 15] 1 (fun g t14 t15 wr => t15 = .int .i64 lo ∧ t14 = .int .i64 0 ∧ Below w.heap.size w wr)
    case atStart => exact ⟨val_int (by have := aH.out; omega), rfl, hb⟩
    case round =>
      clear hb
      obtain ⟨rfl, rfl, hb⟩ := hrel
      first | (have hc1 : ¬ lo ≤ to := by have := aH.out; omega) | (have hc1 : ¬ lo ≤ 9999 := by have := aH.out; omega)
      go_wp2_with fail
      go_ret
      exact ⟨by simp, hb⟩
theorem wFeastYears (o m d fr to : Int) (w : World) (_h1 : -9223372036854775808 ≤ o ∧ o ≤ 9223372036854775807) (_h2 : -9223372036854775808 ≤ m ∧ m ≤ 9223372036854775807) (_h3 : -9223372036854775808 ≤ d ∧ d ≤ 9223372036854775807) (_h4 : -9223372036854775808 ≤ fr ∧ fr ≤ 9223372036854775807) (_h5 : -9223372036854775808 ≤ to ∧ to ≤ 9223372036854775807) (ht : Tab w) :
    Calls Tryd.prog 9 #[.int .i64 o, .int .i64 m, .int .i64 d, .int .i64 fr, .int .i64 to] w fun e w' => e = .returned (.bool true) ∧ Below w.heap.size w w' := by
  by_cases a : fr < 1
  · by_cases b : to ≤ 9999
    · by_cases h0 : 1 ≤ to
      · by_cases h6 : to - 1 ≤ 60
        · exact fyears_law o m d fr to 1 to w ht (by omega) h0 h6
        · exact fyears_early o m d fr to w ht (Or.inl ⟨a, b, by omega⟩)
      · by_cases r : -9223372036854775808 ≤ to - 1
        · exact fyears_zero o m d fr to 1 to w ht (by omega) (Or.inl ⟨a, b, rfl, rfl, r, by omega⟩)
        · by_cases q : 60 < wrap64 (to - 1)
          · exact fyears_early o m d fr to w ht (Or.inr (Or.inl ⟨a, b, by omega, q⟩))
          · exact fyears_zero o m d fr to 1 to w ht (by omega) (Or.inr (Or.inl ⟨a, b, rfl, rfl, by omega, q⟩))
    · exact fyears_early o m d fr to w ht (Or.inr (Or.inr (Or.inr (Or.inr (Or.inr ⟨a, by omega⟩)))))
  · by_cases b : to ≤ 9999
    · by_cases h0 : fr ≤ to
      · by_cases h6 : to - fr ≤ 60
        · exact fyears_law o m d fr to fr to w ht (by omega) h0 h6
        · exact fyears_early o m d fr to w ht (Or.inr (Or.inr (Or.inl ⟨by omega, b, by omega, by omega⟩)))
      · by_cases r : -9223372036854775808 ≤ to - fr
        · exact fyears_zero o m d fr to fr to w ht (by omega) (Or.inr (Or.inr (Or.inl ⟨by omega, b, rfl, rfl, r, by omega⟩)))
        · by_cases q : 60 < wrap64 (to - fr)
          · exact fyears_early o m d fr to w ht (Or.inr (Or.inr (Or.inr (Or.inl ⟨by omega, b, by omega, q⟩))))
          · exact fyears_zero o m d fr to fr to w ht (by omega) (Or.inr (Or.inr (Or.inr (Or.inl ⟨by omega, b, rfl, rfl, by omega, q⟩))))
    · by_cases h0 : fr ≤ 9999
      · by_cases h6 : 9999 - fr ≤ 60
        · exact fyears_law o m d fr to fr 9999 w ht (by omega) h0 h6
        · exact fyears_early o m d fr to w ht (Or.inr (Or.inr (Or.inr (Or.inr (Or.inl ⟨by omega, by omega, by omega, by omega⟩)))))
      · exact fyears_zero o m d fr to fr 9999 w ht (by omega) (Or.inr (Or.inr (Or.inr (Or.inr ⟨by omega, by omega, rfl, rfl, by omega, by omega⟩))))
end Go.Proofs.YtaclggocacafaaaDoor
