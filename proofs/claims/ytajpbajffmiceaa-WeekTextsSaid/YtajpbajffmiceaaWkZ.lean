/- The walks of WeekTexts and WeekParses. No conditions. -/
import Derived.Test.YtajpbajffmiceaaWkX
import Derived.Test.YtajpbajffmiceaaWkY
namespace Go.Proofs.Ytajpbajffmiceaa
open Go.ChangeShapes Go.WideShapes Go.ChangeAt Go.RowKit

set_option maxHeartbeats 8000000 in
theorem wWeekTexts (y k d : Int) (s : ByteArray) (w : World) (_h1 : -9223372036854775808 ≤ y ∧ y ≤ 9223372036854775807) (_h2 : -9223372036854775808 ≤ k ∧ k ≤ 9223372036854775807) (_h3 : -9223372036854775808 ≤ d ∧ d ≤ 9223372036854775807) (_hs : s.size ≤ maxLen) :
    Calls Try.prog 9 #[.agg #[.int .i64 y, .int .i64 k, .int .i64 d], .string s] w fun e w' => e = .returned (.bool true) ∧ Below w.heap.size w w' := by
  by_cases hl : 100 < s.size
  · have hl2 : (100 : Int) < (s.size : Int) := by omega
    clear hl
    go_enter Try.func9, Try.ntmps9
    go_wp2_with fail
    refine (awake_any _).mono ?_; rintro e w1 ⟨rfl, hb1⟩
    go_wp2_with fail
    go_ret
    exact ⟨by simp, below_box hb1⟩
  · have hl2 : ¬ (100 : Int) < (s.size : Int) := by omega
    have hsz : s.size ≤ 100 := by omega
    clear hl
    have eH := Lib.hid (And.intro (rfl : Wk.pY s = Wk.pY s) hsz)
    go_enter Try.func9, Try.ntmps9
    go_wp2_with fail
    refine (awake_any _).mono ?_; rintro e w1 ⟨rfl, hb1⟩
    have hD := Lib.hid (Box3.born hb1)
    have hb := below_box hb1
    clear hb1
    go_wp2_with fail
    refine (kparse_any s _ eH.out.2).mono ?_; rintro e w2 ⟨rfl, hb2⟩
    have hD2 := Lib.hid (hD.out.later hb2)
    have hb := below_then hb hb2
    clear hb2 hD
    go_wp2_with fail
    refine (rparse_any s _).mono ?_; rintro e w3 ⟨rfl, hb3⟩
    have hP := Lib.hid (Box3.born hb3)
    have hD3 := Lib.hid (hD2.out.later (below_box hb3))
    have hb := below_then hb (below_box hb3)
    clear hb3 hD2
    obtain ⟨PY, hPY⟩ : ∃ x, Wk.pY s = x := ⟨_, rfl⟩
    obtain ⟨PK, hPK⟩ : ∃ x, Wk.pK s = x := ⟨_, rfl⟩
    obtain ⟨PD, hPD⟩ : ∃ x, Wk.pD s = x := ⟨_, rfl⟩
    obtain ⟨PE, hPE⟩ : ∃ x, Wk.pE s = x := ⟨_, rfl⟩
    obtain ⟨T, hT⟩ : ∃ x, Wk.tx y k d = x := ⟨_, rfl⟩
    rw [hPY, hPK, hPD] at hP ⊢
    rw [hPE]
    have TH := Lib.hid hT
    clear hPY hPK hPD hPE hT
    obtain ⟨lgd, _, _, _, _, _, _⟩ := hD3.out
    obtain ⟨lgp, _, _, _, _, _, _⟩ := hP.out
    have hDw := hD3.out.alloc (Obj.cells #[.int .i64 PY, .int .i64 PK, .int .i64 PD] 26)
    have hPw := hP.out.alloc (Obj.cells #[.int .i64 PY, .int .i64 PK, .int .i64 PD] 26)
    have hWw := Box3.new w3 (.int .i64 PY) (.int .i64 PK) (.int .i64 PD) 26
    have hbw := below_alloc1 hb (Obj.cells #[.int .i64 PY, .int .i64 PK, .int .i64 PD] 26)
    clear hb hD3 hP
    obtain ⟨lg1, d0, d1, d2, _, _, _⟩ := hDw
    obtain ⟨lg2, p0, p1, p2, _, _, _⟩ := hPw
    obtain ⟨lg3, q0, q1, q2, _, _, _⟩ := hWw
    clear lgd lgp
    go_wp2_with fail
    go_region_held3 (fun w' => (w'.cell? ⟨w.heap.size, 0, none⟩ = some (.int .i64 y) ∧ w'.cell? ⟨w.heap.size, 1, none⟩ = some (.int .i64 k) ∧ w'.cell? ⟨w.heap.size, 2, none⟩ = some (.int .i64 d)) ∧ (w'.cell? ⟨w2.heap.size, 0, none⟩ = some (.int .i64 PY) ∧ w'.cell? ⟨w2.heap.size, 1, none⟩ = some (.int .i64 PK) ∧ w'.cell? ⟨w2.heap.size, 2, none⟩ = some (.int .i64 PD)) ∧ (w'.cell? ⟨w3.heap.size, 0, none⟩ = some (.int .i64 PY) ∧ w'.cell? ⟨w3.heap.size, 1, none⟩ = some (.int .i64 PK) ∧ w'.cell? ⟨w3.heap.size, 2, none⟩ = some (.int .i64 PD)))
      (first | go_keep | (go_split_ands; exact ⟨⟨keep1 hb9 (by assumption) (by assumption), keep1 hb9 (by assumption) (by assumption), keep1 hb9 (by assumption) (by assumption)⟩, ⟨keep1 hb9 (by assumption) (by assumption), keep1 hb9 (by assumption) (by assumption), keep1 hb9 (by assumption) (by assumption)⟩, ⟨keep1 hb9 (by assumption) (by assumption), keep1 hb9 (by assumption) (by assumption), keep1 hb9 (by assumption) (by assumption)⟩⟩))
      (first | ((first | (go_at_call 32; refine (ktext_any _ _ _ _).mono ?_) | (go_at_call 33; refine (rtext_any _ _ _ _).mono ?_)); rintro e w9 ⟨rfl, hb9⟩; rw [TH.out]; (first | replace hb9 := below_undrew hb9 | skip); have hbw := below_then hbw hb9; have lg1 := Nat.lt_of_lt_of_le lg1 hb9.size; have lg2 := Nat.lt_of_lt_of_le lg2 hb9.size; have lg3 := Nat.lt_of_lt_of_le lg3 hb9.size))
    go_wp2_with fail
    go_ret
    exact ⟨by simp, hbw⟩
end Go.Proofs.Ytajpbajffmiceaa
