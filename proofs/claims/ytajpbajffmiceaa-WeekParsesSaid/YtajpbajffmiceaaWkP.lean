/- The walk of WeekParses. No conditions. -/
import Derived.Test.YtajpbajffmiceaaWkX
import Derived.Test.YtajpbajffmiceaaWkY
namespace Go.Proofs.Ytajpbajffmiceaa
open Go.ChangeShapes Go.WideShapes Go.ChangeAt Go.RowKit

/-- the ways of the string -/
theorem str_ways (s : ByteArray) : (100 : Int) < (s.size : Int) ∨ (¬ (100 : Int) < (s.size : Int) ∧ s.size ≤ 100 ∧ (Wk.pE s != 0) = true ∧ (Wk.pE s == 0) = false ∧ Wk.pY s = 0 ∧ Wk.pK s = 0 ∧ Wk.pD s = 0) ∨ (¬ (100 : Int) < (s.size : Int) ∧ s.size ≤ 100 ∧ Wk.pE s = 0 ∧ Wk.tx (Wk.pY s) (Wk.pK s) (Wk.pD s) = s) := by
  by_cases h : 100 < s.size
  · exact Or.inl (by omega)
  · by_cases e : Wk.pE s = 0
    · exact Or.inr (Or.inr ⟨by omega, by omega, e, Wk.parse_tx e⟩)
    · exact Or.inr (Or.inl ⟨by omega, by omega, by simpa using e, by simpa using e, Wk.p_zero e⟩)
set_option maxHeartbeats 8000000 in
theorem kparses_none (y k d : Int) (s : ByteArray) (w : World) (h : Wk.shB y k d = false) :
    Calls Try.prog 10 #[.agg #[.int .i64 y, .int .i64 k, .int .i64 d], .string s] w fun e w' => e = .returned (.bool true) ∧ Below w.heap.size w w' := by
  have TH := Lib.hid (show Wk.tx y k d = ⟨#[]⟩ by simp [Wk.tx, h])
  clear h
  rcases str_ways s with hl | ⟨hl, hsz, e1, e2, e3, e4, e5⟩ | ⟨hl, hsz, e1, e2⟩
  · go_enter Try.func10, Try.ntmps10
    go_wp2_with fail
    refine (awake_any _).mono ?_; rintro e w1 ⟨rfl, hb1⟩
    have hD := Lib.hid (Box3.born hb1)
    have hb := below_box hb1
    clear hb1
    obtain ⟨_, c0, c1, c2, _, _, _⟩ := hD.out
    go_wp2_with fail
    refine (ktext_any _ _ _ _).mono ?_; rintro e w2 ⟨rfl, hb2⟩
    rw [TH.out]
    have hD2 := Lib.hid (hD.out.later hb2)
    have hb := below_then hb hb2
    clear hb2 hD c0 c1 c2
    go_wp2_with fail
    go_ret
    exact ⟨by simp, hb⟩
  · have eH := Lib.hid (And.intro hsz (And.intro e3 (And.intro e4 e5)))
    obtain ⟨PE, hPE⟩ : ∃ x, Wk.pE s = x := ⟨_, rfl⟩
    rw [hPE] at e1 e2
    have pH := Lib.hid hPE
    clear hsz e3 e4 e5 hPE
    go_enter Try.func10, Try.ntmps10
    go_wp2_with fail
    refine (awake_any _).mono ?_; rintro e w1 ⟨rfl, hb1⟩
    have hD := Lib.hid (Box3.born hb1)
    have hb := below_box hb1
    clear hb1
    obtain ⟨_, c0, c1, c2, _, _, _⟩ := hD.out
    go_wp2_with fail
    refine (ktext_any _ _ _ _).mono ?_; rintro e w2 ⟨rfl, hb2⟩
    rw [TH.out]
    have hD2 := Lib.hid (hD.out.later hb2)
    have hb := below_then hb hb2
    clear hb2 hD c0 c1 c2
    go_wp2_with fail
    refine (kparse_any s _ eH.out.1).mono ?_; rintro e w8 ⟨rfl, hb8⟩
    rw [eH.out.2.1, eH.out.2.2.1, eH.out.2.2.2, pH.out]
    have hb := below_then hb hb8
    clear hb8
    go_wp2_with fail
    go_ret
    exact ⟨by simp, below_alloc1 hb _⟩
  · have eH := Lib.hid (And.intro hsz (And.intro e1 e2))
    clear hsz e1 e2
    go_enter Try.func10, Try.ntmps10
    go_wp2_with fail
    refine (awake_any _).mono ?_; rintro e w1 ⟨rfl, hb1⟩
    have hD := Lib.hid (Box3.born hb1)
    have hb := below_box hb1
    clear hb1
    obtain ⟨_, c0, c1, c2, _, _, _⟩ := hD.out
    go_wp2_with fail
    refine (ktext_any _ _ _ _).mono ?_; rintro e w2 ⟨rfl, hb2⟩
    rw [TH.out]
    have hD2 := Lib.hid (hD.out.later hb2)
    have hb := below_then hb hb2
    clear hb2 hD c0 c1 c2
    go_wp2_with fail
    refine (kparse_any s _ eH.out.1).mono ?_; rintro e w8 ⟨rfl, hb8⟩
    rw [eH.out.2.1]
    have hb := below_then hb hb8
    clear hb8
    go_wp2_with (go_at_call 32; refine (ktext_any _ _ _ _).mono ?_; rintro e w9 ⟨rfl, hb9⟩; rw [eH.out.2.2])
    go_ret
    exact ⟨by simp, below_then hb (below_box hb9)⟩
set_option maxHeartbeats 8000000 in
theorem kparses_text (y k d : Int) (s : ByteArray) (w : World) (h : Wk.shB y k d = true) :
    Calls Try.prog 10 #[.agg #[.int .i64 y, .int .i64 k, .int .i64 d], .string s] w fun e w' => e = .returned (.bool true) ∧ Below w.heap.size w w' := by
  obtain ⟨f1, f2, f3, f4, f5⟩ := Wk.tx_parse h
  obtain ⟨T, hT⟩ : ∃ T, Wk.tx y k d = T := ⟨_, rfl⟩
  rw [hT] at f1 f2 f3 f4 f5
  have TH := Lib.hid hT
  have FH := Lib.hid (And.intro f1 (And.intro f3 (And.intro f4 (And.intro f5 f2))))
  have t1 : (T.toList == ([] : List UInt8)) = false := by
    have e : T.toList.length = 10 := by rw [Go.ByteArray.toList_eq]; simpa using f1
    cases q : T.toList
    · rw [q] at e; simp at e
    · rfl
  have t2 : (T.size : Int) = 10 := by omega
  clear h hT f1 f2 f3 f4 f5
  rcases str_ways s with hl | ⟨hl, hsz, e1, e2, e3, e4, e5⟩ | ⟨hl, hsz, e1, e2⟩
  · go_enter Try.func10, Try.ntmps10
    go_wp2_with fail
    refine (awake_any _).mono ?_; rintro e w1 ⟨rfl, hb1⟩
    have hD := Lib.hid (Box3.born hb1)
    have hb := below_box hb1
    clear hb1
    obtain ⟨_, c0, c1, c2, _, _, _⟩ := hD.out
    go_wp2_with fail
    refine (ktext_any _ _ _ _).mono ?_; rintro e w2 ⟨rfl, hb2⟩
    rw [TH.out]
    have hD2 := Lib.hid (hD.out.later hb2)
    have hb := below_then hb hb2
    clear hb2 hD c0 c1 c2
    go_wp2_with fail
    refine (kparse_any T _ (by rw [FH.out.1]; omega)).mono ?_; rintro e w3 ⟨rfl, hb3⟩
    rw [FH.out.2.1, FH.out.2.2.1, FH.out.2.2.2.1, FH.out.2.2.2.2]
    have hD3 := Lib.hid (hD2.out.later hb3)
    have hb := below_then hb hb3
    clear hb3 hD2
    have a0 := fun o => (hD3.out.alloc o).c0
    have a1 := fun o => (hD3.out.alloc o).c1
    have a2 := fun o => (hD3.out.alloc o).c2
    have hb := below_alloc1 hb (Obj.cells #[.int .i64 y, .int .i64 k, .int .i64 d] 26)
    go_wp2_with fail
    go_ret
    exact ⟨by simp, hb⟩
  · have eH := Lib.hid (And.intro hsz (And.intro e3 (And.intro e4 e5)))
    obtain ⟨PE, hPE⟩ : ∃ x, Wk.pE s = x := ⟨_, rfl⟩
    rw [hPE] at e1 e2
    have pH := Lib.hid hPE
    clear hsz e3 e4 e5 hPE
    go_enter Try.func10, Try.ntmps10
    go_wp2_with fail
    refine (awake_any _).mono ?_; rintro e w1 ⟨rfl, hb1⟩
    have hD := Lib.hid (Box3.born hb1)
    have hb := below_box hb1
    clear hb1
    obtain ⟨_, c0, c1, c2, _, _, _⟩ := hD.out
    go_wp2_with fail
    refine (ktext_any _ _ _ _).mono ?_; rintro e w2 ⟨rfl, hb2⟩
    rw [TH.out]
    have hD2 := Lib.hid (hD.out.later hb2)
    have hb := below_then hb hb2
    clear hb2 hD c0 c1 c2
    go_wp2_with fail
    refine (kparse_any T _ (by rw [FH.out.1]; omega)).mono ?_; rintro e w3 ⟨rfl, hb3⟩
    rw [FH.out.2.1, FH.out.2.2.1, FH.out.2.2.2.1, FH.out.2.2.2.2]
    have hD3 := Lib.hid (hD2.out.later hb3)
    have hb := below_then hb hb3
    clear hb3 hD2
    have a0 := fun o => (hD3.out.alloc o).c0
    have a1 := fun o => (hD3.out.alloc o).c1
    have a2 := fun o => (hD3.out.alloc o).c2
    have hb := below_alloc1 hb (Obj.cells #[.int .i64 y, .int .i64 k, .int .i64 d] 26)
    go_wp2_with fail
    refine (kparse_any s _ eH.out.1).mono ?_; rintro e w8 ⟨rfl, hb8⟩
    rw [eH.out.2.1, eH.out.2.2.1, eH.out.2.2.2, pH.out]
    have hb := below_then hb hb8
    clear hb8
    go_wp2_with fail
    go_ret
    exact ⟨by simp, below_alloc1 hb _⟩
  · have eH := Lib.hid (And.intro hsz (And.intro e1 e2))
    clear hsz e1 e2
    go_enter Try.func10, Try.ntmps10
    go_wp2_with fail
    refine (awake_any _).mono ?_; rintro e w1 ⟨rfl, hb1⟩
    have hD := Lib.hid (Box3.born hb1)
    have hb := below_box hb1
    clear hb1
    obtain ⟨_, c0, c1, c2, _, _, _⟩ := hD.out
    go_wp2_with fail
    refine (ktext_any _ _ _ _).mono ?_; rintro e w2 ⟨rfl, hb2⟩
    rw [TH.out]
    have hD2 := Lib.hid (hD.out.later hb2)
    have hb := below_then hb hb2
    clear hb2 hD c0 c1 c2
    go_wp2_with fail
    refine (kparse_any T _ (by rw [FH.out.1]; omega)).mono ?_; rintro e w3 ⟨rfl, hb3⟩
    rw [FH.out.2.1, FH.out.2.2.1, FH.out.2.2.2.1, FH.out.2.2.2.2]
    have hD3 := Lib.hid (hD2.out.later hb3)
    have hb := below_then hb hb3
    clear hb3 hD2
    have a0 := fun o => (hD3.out.alloc o).c0
    have a1 := fun o => (hD3.out.alloc o).c1
    have a2 := fun o => (hD3.out.alloc o).c2
    have hb := below_alloc1 hb (Obj.cells #[.int .i64 y, .int .i64 k, .int .i64 d] 26)
    go_wp2_with fail
    refine (kparse_any s _ eH.out.1).mono ?_; rintro e w8 ⟨rfl, hb8⟩
    rw [eH.out.2.1]
    have hb := below_then hb hb8
    clear hb8
    go_wp2_with (go_at_call 32; refine (ktext_any _ _ _ _).mono ?_; rintro e w9 ⟨rfl, hb9⟩; rw [eH.out.2.2])
    go_ret
    exact ⟨by simp, below_then hb (below_box hb9)⟩
theorem wWeekParses (y k d : Int) (s : ByteArray) (w : World) (_h1 : -9223372036854775808 ≤ y ∧ y ≤ 9223372036854775807) (_h2 : -9223372036854775808 ≤ k ∧ k ≤ 9223372036854775807) (_h3 : -9223372036854775808 ≤ d ∧ d ≤ 9223372036854775807) (_hs : s.size ≤ maxLen) :
    Calls Try.prog 10 #[.agg #[.int .i64 y, .int .i64 k, .int .i64 d], .string s] w fun e w' => e = .returned (.bool true) ∧ Below w.heap.size w w' := by
  cases h : Wk.shB y k d
  · exact kparses_none y k d s w h
  · exact kparses_text y k d s w h
end Go.Proofs.Ytajpbajffmiceaa
