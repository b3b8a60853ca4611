/- Lists of years, and the walk of FeastYears. Condition: the table of lengths. -/
import Derived.Test.YtaclggocacafaaaDoorFeaF
import Derived.Test.YtaclggocacafaaaDoorFeaE
namespace Fea
open Cal
theorem fl_yes {o m d lo : Int} {n : Nat} (h : fits o m d (lo + n) = true) : fl o m d lo (n + 1) = fl o m d lo n ++ [lo + n] := by simp [fl, h]
theorem fl_no {o m d lo : Int} {n : Nat} (h : fits o m d (lo + n) = false) : fl o m d lo (n + 1) = fl o m d lo n := by simp [fl, h]
theorem getD_left {l : List Int} {x : Int} {i : Nat} (h : i < l.length) : (l ++ [x]).getD i 0 = l.getD i 0 := by simp [List.getD, List.getElem?_append_left h]
theorem getD_last {l : List Int} {x : Int} : (l ++ [x]).getD l.length 0 = x := by simp [List.getD]
theorem fl_get (o m d lo : Int) : ∀ (n i : Nat), i < (fl o m d lo n).length → ∃ j : Nat, j < n ∧ (fl o m d lo n).getD i 0 = lo + j ∧ fits o m d (lo + j) = true
  | 0, i, h => by simp [fl] at h
  | n + 1, i, h => by
    cases q : fits o m d (lo + n)
    · rw [fl_no q] at h ⊢
      obtain ⟨j, a, b, c⟩ := fl_get o m d lo n i h
      exact ⟨j, by omega, b, c⟩
    · rw [fl_yes q] at h ⊢
      by_cases k : i < (fl o m d lo n).length
      · rw [getD_left k]
        obtain ⟨j, a, b, c⟩ := fl_get o m d lo n i k
        exact ⟨j, by omega, b, c⟩
      · have e : i = (fl o m d lo n).length := by simp at h; omega
        rw [e, getD_last]
        exact ⟨n, by omega, rfl, q⟩
theorem fl_up (o m d lo : Int) : ∀ (n i : Nat), i + 1 < (fl o m d lo n).length → (fl o m d lo n).getD i 0 < (fl o m d lo n).getD (i + 1) 0
  | 0, i, h => by simp [fl] at h
  | n + 1, i, h => by
    cases q : fits o m d (lo + n)
    · rw [fl_no q] at h ⊢
      exact fl_up o m d lo n i h
    · rw [fl_yes q] at h ⊢
      by_cases k : i + 1 < (fl o m d lo n).length
      · rw [getD_left k, getD_left (by omega)]
        exact fl_up o m d lo n i k
      · have e : i + 1 = (fl o m d lo n).length := by simp at h; omega
        obtain ⟨j, a, b, _⟩ := fl_get o m d lo n i (by omega)
        rw [e, getD_last, getD_left (by omega), b]; omega
theorem fl_at (o m d lo : Int) : ∀ (n j : Nat), j < n → fits o m d (lo + j) = true → (fl o m d lo j).length < (fl o m d lo n).length ∧ (fl o m d lo n).getD (fl o m d lo j).length 0 = lo + j
  | 0, j, h, _ => by omega
  | n + 1, j, h, hf => by
    by_cases e : j = n
    · subst e
      rw [fl_yes hf, getD_last]; simp
    · obtain ⟨a, b⟩ := fl_at o m d lo n j (by omega) hf
      cases q : fits o m d (lo + n)
      · rw [fl_no q]; exact ⟨a, b⟩
      · rw [fl_yes q, getD_left a]; exact ⟨by simp; omega, b⟩
theorem fits_ways (o m d y : Int) : (fits o m d y = false ∧ mvB y o = false) ∨ (fits o m d y = false ∧ mvB y o = true ∧ inE (mvN y o) = 0 ∧ ((mG (mvN y o) != m) = true ∨ ((mG (mvN y o) != m) = false ∧ (aG (mvN y o) != d) = true))) ∨
    (fits o m d y = true ∧ mvB y o = true ∧ inE (mvN y o) = 0 ∧ (mG (mvN y o) != m) = false ∧ (aG (mvN y o) != d) = false) := by
  cases h : mvB y o
  · exact Or.inl ⟨by simp [fits, h], rfl⟩
  · have hE : inE (mvN y o) = 0 := by simp [inE, (mv_in h).1]
    refine Or.inr ?_
    by_cases a : mG (mvN y o) = m
    · by_cases b : aG (mvN y o) = d
      · exact Or.inr ⟨by simp [fits, h, a, b], rfl, hE, by simp [a], by simp [b]⟩
      · exact Or.inl ⟨by simp [fits, h, b], rfl, hE, Or.inr ⟨by simp [a], by simp [b]⟩⟩
    · exact Or.inl ⟨by simp [fits, h, a], rfl, hE, Or.inl (by simp [a])⟩
end Fea
namespace Go.Proofs.YtaclggocacafaaaDoor
open Go.ChangeShapes Go.WideShapes Go.ChangeAt Go.RowKit

set_option maxHeartbeats 1000000 in
theorem fyears_none (o m d fr to lo hi : Int) (w : World) (hlo : (fr < 1 ∧ lo = 1) ∨ (1 ≤ fr ∧ lo = fr)) (hhi : (to ≤ 9999 ∧ hi = to) ∨ (9999 < to ∧ hi = 9999)) (h0 : hi < lo) :
    Calls Tryd.prog 28 #[.int .i64 o, .int .i64 m, .int .i64 d, .int .i64 fr, .int .i64 to] w fun e w' => e = .returned (.slice none 0 0) ∧ Below w.heap.size w w' := by
  rcases hlo with ⟨a1, a2⟩ | ⟨a1, a2⟩
  all_goals
    rcases hhi with ⟨b1, b2⟩ | ⟨b1, b2⟩
    all_goals
      have aH := Lib.hid (And.intro a2 b2)
      clear a2 b2
      go_enter Tryd.func28, Tryd.ntmps28
      go_wp2_with fail
      go_loopg [12, 13] 1 (fun g v t wr => t = .int .i64 lo ∧ v = .slice none 0 0 ∧ Below w.heap.size w wr)
      case atStart => exact ⟨val_int (by have := aH.out; omega), rfl, by (repeat (first | exact Below.refl _ _ | assumption | refine below_drewN ?_ _ | refine below_alloc1 ?_ _ | refine below_then ?_ (by assumption)))⟩
      case round =>
        obtain ⟨rfl, rfl, hb⟩ := hrel
        have hc1 : ¬ lo ≤ to ∨ ¬ lo ≤ 9999 := by have := aH.out; omega
        have hc2 : to ≤ 9999 → ¬ lo ≤ to := by have := aH.out; omega
        have hc3 : 9999 < to → ¬ lo ≤ 9999 := by have := aH.out; omega
        first | (have hc := hc2 (by assumption)) | (have hc := hc3 (by assumption))
        clear hc1 hc2 hc3
        go_wp2_with fail
        go_ret
        exact ⟨rfl, hb⟩
def FyRel (w : World) (L : List Int) (v : Value) (wr : World) (p : Prop) : Prop := Below w.heap.size w wr ∧ OwnN wr 0 v L ∧ p
end Go.Proofs.YtaclggocacafaaaDoor
