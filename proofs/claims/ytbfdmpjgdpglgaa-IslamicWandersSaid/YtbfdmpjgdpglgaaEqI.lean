/- slices.Equal of two lists of integers that are the same. No conditions. -/
import Derived.Test.YtbfdmpjgdpglgaaAppB
namespace Go.Proofs.Ytbfdmpjgdpglgaa
open Go.ChangeShapes Go.WideShapes Go.ChangeAt Go.RowKit

set_option maxHeartbeats 2000000 in
theorem equal_ints (v1 v2 : Value) (xs : List Int) (w : World) (h1 : Seq w v1 xs) (h2 : Seq w v2 xs) (hl : xs.length ≤ 100000) :
    Calls Try.prog 32 #[v1, v2] w fun e w' => e = .returned (.bool true) ∧ Below w.heap.size w w' := by
  rcases h1 with ⟨rfl, rfl⟩ | ⟨h1, b1, cap1, rfl, hI1⟩
  · rcases h2 with ⟨_, rfl⟩ | ⟨h2, _⟩
    · go_enter Try.func32, Try.ntmps32
      go_wp2_with fail
      go_loopg [13] 1 (fun g t wr => t = .int .i64 0 ∧ w = wr)
      case atStart => exact ⟨rfl, rfl⟩
      case round =>
        obtain ⟨rfl, rfl⟩ := hrel
        go_wp2_with fail
        go_ret
        exact ⟨rfl, Below.refl _ _⟩
    · simp at h2
  · rcases h2 with ⟨rfl, _⟩ | ⟨_, b2, cap2, rfl, hI2⟩
    · simp at h1
    · generalize hn : xs.length = n at *
      have hnH := Lib.hid hn
      have hI1H := Lib.hid hI1
      have hI2H := Lib.hid hI2
      clear hn hI1 hI2
      have hn0 : ((n : Int) == 0) = false := by simp; omega
      go_enter Try.func32, Try.ntmps32
      go_wp2_with fail
      go_loopg [13] 100002 (fun g t wr => ∃ j : Nat, j ≤ n ∧ t = .int .i64 j ∧ Below w.heap.size w wr ∧ n - j ≤ g)
      case atStart => exact ⟨0, by omega, rfl, Below.refl _ _, by omega⟩
      case round =>
        obtain ⟨j, hj, rfl, hb, hg⟩ := hrel
        by_cases hlt : j < n
        · have c1 := (hI1H.out.later hb).2 j (by rw [hnH.out]; exact hlt)
          have c2 := (hI2H.out.later hb).2 j (by rw [hnH.out]; exact hlt)
          generalize xs.getD j 0 = z at c1 c2
          go_wp2_with fail
          go_region
          all_goals (try go_wp2_with fail)
          go_roundg (gk - 1)
          case measure => omega
          case rel => exact ⟨j + 1, by omega, by go_num, below_drewN hb 1, by omega⟩
        · have e : j = n := by omega
          subst e
          go_wp2_with fail
          go_ret
          exact ⟨rfl, hb⟩
end Go.Proofs.Ytbfdmpjgdpglgaa
