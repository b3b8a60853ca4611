/- Contracts of week.ISO, Start, Weeks and Of. No conditions. -/
import Derived.Test.YtehjjinlpilelaaGreatDoorSWkA
namespace Go.Proofs.YtehjjinlpilelaaGreatDoor
open Go.ChangeShapes Go.WideShapes Go.ChangeAt Go.RowKit

theorem kiso_any (w : World) :
    Calls Tryz.prog 22 #[] w fun e w' => e = .returned (.agg #[.int .i64 1, .int .i64 4]) ∧ Below w.heap.size w w' := by
  go_enter Tryz.func22, Tryz.ntmps22
  go_wp2
  exact bodyPost_ret (v := .agg #[.int .i64 1, .int .i64 4]) (by simp [results, Tryz.results22, go_sem]) rfl ⟨rfl, by go_grown⟩

set_option maxHeartbeats 400000 in
theorem kstart_any (f mi y : Int) (w : World) :
    Calls Tryz.prog 94 #[.agg #[.int .i64 f, .int .i64 mi], .int .i64 y] w fun e w' => e = .returned (.tuple #[.int .i64 (Wk.stN f mi y), .int .i64 (Wk.stE f mi y)]) ∧ Below w.heap.size w w' := by
  by_cases hr : Wk.rB f mi = true
  · by_cases hy : Wk.yB y = true
    · have hN : Wk.stN f mi y = Wk.bg f mi y := by simp [Wk.stN, hr, hy]
      have hE : Wk.stE f mi y = 0 := by simp [Wk.stE, hr, hy]
      obtain ⟨y1, y2⟩ := Wk.yB_iff.1 hy
      have hrH := Lib.hid hr
      rw [hN, hE]; clear hN hE
      go_enter Tryz.func94, Tryz.ntmps94
      go_wp2_with fail
      refine (kvalid_any _ _ _).mono ?_; rintro e w1 ⟨rfl, hb1⟩
      obtain ⟨_, c0, c1⟩ := Box2.born hb1
      have hb := below_box hb1
      clear hb1
      go_wp2_with (first | (go_at_call 58; refine (kiny_any _ _).mono ?_; rintro e w' ⟨rfl, rfl⟩) | (go_at_call 60; refine (kbegin_any _ _ _ _ hrH.out y1 (by omega)).mono ?_; rintro e w2 ⟨rfl, hb2⟩))
      go_ret2
      exact ⟨rfl, below_then hb hb2⟩
    · have hN : Wk.stN f mi y = 0 := by simp [Wk.stN, hy]
      have hE : Wk.stE f mi y = 2 := by simp [Wk.stE, hr, hy]
      have hy' : Wk.yB y = false := by simpa using hy
      rw [hN, hE]; clear hN hE hy
      go_enter Tryz.func94, Tryz.ntmps94
      go_wp2_with fail
      refine (kvalid_any _ _ _).mono ?_; rintro e w1 ⟨rfl, hb1⟩
      go_wp2_with (first | (go_at_call 58; refine (kiny_any _ _).mono ?_; rintro e w' ⟨rfl, rfl⟩))
      go_ret2
      exact ⟨rfl, below_box hb1⟩
  · have hN : Wk.stN f mi y = 0 := by simp [Wk.stN, hr]
    have hE : Wk.stE f mi y = 1 := by simp [Wk.stE, hr]
    have hr' : Wk.rB f mi = false := by simpa using hr
    rw [hN, hE]; clear hN hE hr
    go_enter Tryz.func94, Tryz.ntmps94
    go_wp2_with fail
    refine (kvalid_any _ _ _).mono ?_; rintro e w1 ⟨rfl, hb1⟩
    go_wp2
    go_ret2
    exact ⟨rfl, below_box hb1⟩

set_option maxHeartbeats 400000 in
theorem kweeks_any (f mi y : Int) (w : World) :
    Calls Tryz.prog 62 #[.agg #[.int .i64 f, .int .i64 mi], .int .i64 y] w fun e w' => e = .returned (.tuple #[.int .i64 (Wk.wkN f mi y), .int .i64 (Wk.stE f mi y)]) ∧ Below w.heap.size w w' := by
  by_cases ho : Wk.rB f mi = true ∧ Wk.yB y = true
  · obtain ⟨hr, hy⟩ := ho
    have hN : Wk.wkN f mi y = (Wk.bg f mi (y + 1) - Wk.bg f mi y) / 7 := by simp [Wk.wkN, hr, hy, Wk.wks]
    have hS : Wk.stN f mi y = Wk.bg f mi y := by simp [Wk.stN, hr, hy]
    have hE : Wk.stE f mi y = 0 := by simp [Wk.stE, hr, hy]
    obtain ⟨y1, y2⟩ := Wk.yB_iff.1 hy
    have hs := Wk.bg_succ hr y
    have n1 := Wk.bg_near hr y
    have n2 := Cal.ysG_bd y1 (by omega)
    have hgap : 0 ≤ Wk.bg f mi (y + 1) - Wk.bg f mi y ∧ Wk.bg f mi (y + 1) - Wk.bg f mi y ≤ 371 := by omega
    have hrH := Lib.hid hr
    rw [hN, hE]; clear hN hs
    go_enter Tryz.func62, Tryz.ntmps62
    go_wp2_with fail
    refine (kstart_any _ _ _ _).mono ?_; rintro e w1 ⟨rfl, hb1⟩
    obtain ⟨_, c0, c1⟩ := Box2.born hb1
    have hb := below_box hb1
    clear hb1
    go_wp2_with (first | (go_at_call 60; refine (kbegin_any _ _ _ _ hrH.out (by omega) (by omega)).mono ?_; rintro e w2 ⟨rfl, hb2⟩))
    go_ret2
    exact ⟨rfl, below_then hb hb2⟩
  · have hN : Wk.wkN f mi y = 0 := by unfold Wk.wkN; rw [if_neg (by simpa using ho)]
    have hE : Wk.stE f mi y = 1 ∨ Wk.stE f mi y = 2 := by
      unfold Wk.stE
      by_cases a : Wk.rB f mi = true
      · have b : ¬ Wk.yB y = true := fun b => ho ⟨a, b⟩
        rw [if_pos a, if_neg b]; exact Or.inr rfl
      · rw [if_neg a]; exact Or.inl rfl
    rw [hN]; clear hN ho
    rcases hE with hE | hE
    all_goals
      rw [hE]
      go_enter Tryz.func62, Tryz.ntmps62
      go_wp2_with fail
      refine (kstart_any _ _ _ _).mono ?_; rintro e w1 ⟨rfl, hb1⟩
      go_wp2
      go_ret2
      exact ⟨rfl, below_box hb1⟩

set_option maxHeartbeats 1000000 in
theorem kof_bad (f mi n : Int) (w : World) (ho : Wk.okOf f mi n = false) (hw : Wk.rB f mi = false ∨ (Wk.rB f mi = true ∧ Cal.inB n = false)) :
    Calls Tryz.prog 21 #[.agg #[.int .i64 f, .int .i64 mi], .int .i64 n] w fun e w' => e = .returned (.tuple #[.agg #[.int .i64 (Wk.ofY f mi n), .int .i64 (Wk.ofW f mi n), .int .i64 (Wk.ofD f mi n)], .int .i64 (Wk.ofE f mi n)]) ∧ Below w.heap.size w w' := by
  have v1 : Wk.ofY f mi n = 0 := by simp [Wk.ofY, ho]
  have v2 : Wk.ofW f mi n = 0 := by simp [Wk.ofW, ho]
  have v3 : Wk.ofD f mi n = 0 := by simp [Wk.ofD, ho]
  rw [v1, v2, v3]; clear v1 v2 v3 ho
  rcases hw with hr | ⟨hr, hi⟩
  · have hE : Wk.ofE f mi n = 1 := by simp [Wk.ofE, hr]
    rw [hE]; clear hE
    go_enter Tryz.func21, Tryz.ntmps21
    go_wp2_with fail
    refine (kvalid_any _ _ _).mono ?_; rintro e w1 ⟨rfl, hb1⟩
    obtain ⟨_, r0, r1, r2, g0, g1, g2⟩ := (show Box3 w1 (w.heap.size + 1) (.int .i64 0) (.int .i64 0) (.int .i64 0) by have := Box3.born hb1; simpa using this)
    have hb := below_box (below_box hb1)
    clear hb1
    go_wp2_with fail
    exact bodyPost_ret (v := .tuple #[.agg #[.int .i64 0, .int .i64 0, .int .i64 0], .int .i64 1]) (by simp [results, Tryz.results21, go_sem, r0, r1, r2]) rfl ⟨rfl, hb.trans (by go_grown)⟩
  · have hE : Wk.ofE f mi n = 2 := by simp [Wk.ofE, hr, hi]
    have hiE : Cal.inE n = 2 := by simp [Cal.inE, hi]
    rw [hE]; clear hE
    go_enter Tryz.func21, Tryz.ntmps21
    go_wp2_with fail
    refine (kvalid_any _ _ _).mono ?_; rintro e w1 ⟨rfl, hb1⟩
    have hR := Lib.hid (show Box3 w1 (w.heap.size + 1) (.int .i64 0) (.int .i64 0) (.int .i64 0) by have := Box3.born hb1; simpa using this)
    have hb := below_box (below_box hb1)
    clear hb1
    go_wp2_with fail
    refine (cdate_any _ _).mono ?_; rintro e w2 ⟨rfl, hb2⟩
    obtain ⟨lr, r0, r1, r2, g0, g1, g2⟩ := hR.out.later hb2
    have hb := below_then hb hb2
    go_wp2_with fail
    exact bodyPost_ret (v := .tuple #[.agg #[.int .i64 0, .int .i64 0, .int .i64 0], .int .i64 2]) (by simp [results, Tryz.results21, go_sem, r0, r1, r2, lr]) rfl ⟨rfl, hb.trans (by go_grown)⟩

set_option maxHeartbeats 2000000 in
theorem kof_good (f mi n : Int) (w : World) (hr : Wk.rB f mi = true) (hi : Cal.inB n = true) :
    Calls Tryz.prog 21 #[.agg #[.int .i64 f, .int .i64 mi], .int .i64 n] w fun e w' => e = .returned (.tuple #[.agg #[.int .i64 (Wk.ofY f mi n), .int .i64 (Wk.ofW f mi n), .int .i64 (Wk.ofD f mi n)], .int .i64 (Wk.ofE f mi n)]) ∧ Below w.heap.size w w' := by
  obtain ⟨⟨y1, y2, _⟩, _⟩ := Cal.dtG_spec hi
  obtain ⟨i1, i2⟩ := Cal.inB_iff.1 hi
  have hiE : Cal.inE n = 0 := by simp [Cal.inE, hi]
  obtain ⟨s1, s2, s3, s4⟩ := Wk.wy_spec hr hi
  have hok : Wk.okOf f mi n = Wk.yB (Wk.wy f mi n) := by simp [Wk.okOf, hr, hi]
  have hof : Wk.ofE f mi n = (if Wk.yB (Wk.wy f mi n) then 0 else 2) := by simp [Wk.ofE, hr, hi]
  have hrH := Lib.hid hr
  -- the three ways to the year
  have ways : (n < Wk.bg f mi (Cal.yG n) ∧ Wk.wy f mi n = Cal.yG n - 1) ∨ (decide (n < Wk.bg f mi (Cal.yG n)) = false ∧ Wk.bg f mi (Cal.yG n + 1) ≤ n ∧ Wk.wy f mi n = Cal.yG n + 1) ∨ (decide (n < Wk.bg f mi (Cal.yG n)) = false ∧ n < Wk.bg f mi (Cal.yG n + 1) ∧ Wk.wy f mi n = Cal.yG n) := by
    unfold Wk.wy
    by_cases a : n < Wk.bg f mi (Cal.yG n)
    · exact Or.inl ⟨a, by rw [if_pos a]⟩
    · by_cases b : Wk.bg f mi (Cal.yG n + 1) ≤ n
      · exact Or.inr (Or.inl ⟨by simpa using a, b, by rw [if_neg a, if_pos b]⟩)
      · exact Or.inr (Or.inr ⟨by simpa using a, by omega, by rw [if_neg a, if_neg b]⟩)
  have hwd : 1 ≤ Wk.wd n ∧ Wk.wd n ≤ 7 := by unfold Wk.wd; omega
  generalize hY : Wk.wy f mi n = Y at *
  have hsucc := Wk.bg_succ hr Y
  have hq : 0 ≤ n - Wk.bg f mi Y ∧ n - Wk.bg f mi Y ≤ 371 := by omega
  have hYH := Lib.hid hY
  have hokH := Lib.hid hok
  have hofH := Lib.hid hof
  clear hr hi hok hof s1 s2 hsucc hY
  rcases ways with ⟨a, e⟩ | ⟨a, b, e⟩ | ⟨a, b, e⟩
  all_goals
    subst e
    by_cases hV : Wk.yB (Wk.wy f mi n) = true
    · rw [hYH.out] at hV
      have hVH := Lib.hid hV
      obtain ⟨z1, z2⟩ := Wk.yB_iff.1 hV
      have hv := Lib.hid (show Wk.ofY f mi n = _ ∧ Wk.ofW f mi n = _ ∧ Wk.ofD f mi n = _ ∧ Wk.ofE f mi n = _ from ⟨(by unfold Wk.ofY; rw [hokH.out, hV, hYH.out]), (by unfold Wk.ofW; rw [hokH.out, hV, hYH.out]), (by unfold Wk.ofD; rw [hokH.out, hV]), (by rw [hofH.out, hV])⟩)
      clear hV
      go_enter Tryz.func21, Tryz.ntmps21
      go_wp2_with fail
      refine (kvalid_any _ _ _).mono ?_; rintro e w1 ⟨rfl, hb1⟩
      rw [hrH.out]
      have hR := Lib.hid (show Box3 w1 (w.heap.size + 1) (.int .i64 0) (.int .i64 0) (.int .i64 0) by have := Box3.born hb1; simpa using this)
      have hB := Lib.hid (show Box2 w1 w.heap.size (.int .i64 f) (.int .i64 mi) from (Box2.new w _ _ _).later (below_box hb1))
      have hb := below_box (below_box hb1)
      clear hb1
      go_wp2_with fail
      refine (cdate_any _ _).mono ?_; rintro e w2 ⟨rfl, hb2⟩
      have hR2 := Lib.hid (hR.out.later hb2)
      have hB2 := Lib.hid (hB.out.later hb2)
      have hb := below_then hb hb2
      obtain ⟨lb, c0, c1⟩ := hB2.out
      clear hb2 hR hB
      go_wp2_with fail
      refine (kbegin_any _ _ _ _ hrH.out (by omega) (by omega)).mono ?_; rintro e w3 ⟨rfl, hb3⟩
      have hRx := Lib.hid (hR2.out.later (below_box hb3))
      have hBx := Lib.hid (hB2.out.later (below_box hb3))
      have hb := below_then hb (below_box hb3)
      clear hb3 hR2 hB2 c0 c1 lb
      obtain ⟨lb, c0, c1⟩ := hBx.out
      obtain ⟨lr, r0, r1, r2, g0, g1, g2⟩ := hRx.out
      go_wp2_with (first | (go_at_call 60; refine (kbegin_any _ _ _ _ hrH.out (by omega) (by omega)).mono ?_; rintro e wk ⟨rfl, hbk⟩; have hRx := Lib.hid (hRx.out.later hbk); have hBx := Lib.hid (hBx.out.later hbk); have hb := below_then hb hbk; obtain ⟨lb, c0, c1⟩ := hBx.out; obtain ⟨lr, r0, r1, r2, g0, g1, g2⟩ := hRx.out) | (go_at_call 58; refine (kiny_any _ _).mono ?_; rintro e w' ⟨rfl, rfl⟩; rw [hVH.out]) | (go_at_call 61; refine (kweekday_any _ _ (by omega) (by omega)).mono ?_; rintro e w' ⟨rfl, q1, rfl⟩))
      obtain ⟨v1, v2, v3, v4⟩ := hv.out
      rw [v1, v2, v3, v4]
      go_wp2_with fail
      refine bodyPost_ret (by simp [results, Tryz.results21, go_sem, r0, r1, r2]) rfl ⟨rfl, ?_⟩
      exact (below_drewN hb _).trans (by go_grown)
    · rw [hYH.out] at hV
      rw [Bool.not_eq_true] at hV
      have hVH := Lib.hid hV
      have hv := Lib.hid (show Wk.ofY f mi n = 0 ∧ Wk.ofW f mi n = 0 ∧ Wk.ofD f mi n = 0 ∧ Wk.ofE f mi n = 2 from ⟨(by unfold Wk.ofY; rw [hokH.out, hV]; rfl), (by unfold Wk.ofW; rw [hokH.out, hV]; rfl), (by unfold Wk.ofD; rw [hokH.out, hV]; rfl), (by rw [hofH.out, hV]; rfl)⟩)
      clear hV
      go_enter Tryz.func21, Tryz.ntmps21
      go_wp2_with fail
      refine (kvalid_any _ _ _).mono ?_; rintro e w1 ⟨rfl, hb1⟩
      rw [hrH.out]
      have hR := Lib.hid (show Box3 w1 (w.heap.size + 1) (.int .i64 0) (.int .i64 0) (.int .i64 0) by have := Box3.born hb1; simpa using this)
      have hB := Lib.hid (show Box2 w1 w.heap.size (.int .i64 f) (.int .i64 mi) from (Box2.new w _ _ _).later (below_box hb1))
      have hb := below_box (below_box hb1)
      clear hb1
      go_wp2_with fail
      refine (cdate_any _ _).mono ?_; rintro e w2 ⟨rfl, hb2⟩
      have hR2 := Lib.hid (hR.out.later hb2)
      have hB2 := Lib.hid (hB.out.later hb2)
      have hb := below_then hb hb2
      obtain ⟨lb, c0, c1⟩ := hB2.out
      clear hb2 hR hB
      go_wp2_with fail
      refine (kbegin_any _ _ _ _ hrH.out (by omega) (by omega)).mono ?_; rintro e w3 ⟨rfl, hb3⟩
      have hRx := Lib.hid (hR2.out.later (below_box hb3))
      have hBx := Lib.hid (hB2.out.later (below_box hb3))
      have hb := below_then hb (below_box hb3)
      clear hb3 hR2 hB2 c0 c1 lb
      obtain ⟨lb, c0, c1⟩ := hBx.out
      obtain ⟨lr, r0, r1, r2, g0, g1, g2⟩ := hRx.out
      go_wp2_with (first | (go_at_call 60; refine (kbegin_any _ _ _ _ hrH.out (by omega) (by omega)).mono ?_; rintro e wk ⟨rfl, hbk⟩; have hRx := Lib.hid (hRx.out.later hbk); have hBx := Lib.hid (hBx.out.later hbk); have hb := below_then hb hbk; obtain ⟨lb, c0, c1⟩ := hBx.out; obtain ⟨lr, r0, r1, r2, g0, g1, g2⟩ := hRx.out) | (go_at_call 58; refine (kiny_any _ _).mono ?_; rintro e w' ⟨rfl, rfl⟩; rw [hVH.out]) | (go_at_call 61; refine (kweekday_any _ _ (by omega) (by omega)).mono ?_; rintro e w' ⟨rfl, q1, rfl⟩))
      obtain ⟨v1, v2, v3, v4⟩ := hv.out
      rw [v1, v2, v3, v4]
      go_wp2_with fail
      refine bodyPost_ret (v := .tuple #[.agg #[.int .i64 0, .int .i64 0, .int .i64 0], .int .i64 2]) (by simp [results, Tryz.results21, go_sem, r0, r1, r2]) rfl ⟨rfl, hb.trans (by go_grown)⟩
theorem kof_any (f mi n : Int) (w : World) :
    Calls Tryz.prog 21 #[.agg #[.int .i64 f, .int .i64 mi], .int .i64 n] w fun e w' => e = .returned (.tuple #[.agg #[.int .i64 (Wk.ofY f mi n), .int .i64 (Wk.ofW f mi n), .int .i64 (Wk.ofD f mi n)], .int .i64 (Wk.ofE f mi n)]) ∧ Below w.heap.size w w' := by
  by_cases hr : Wk.rB f mi = true
  · by_cases hi : Cal.inB n = true
    · exact kof_good f mi n w hr hi
    · exact kof_bad f mi n w (by simp [Wk.okOf, hi]) (Or.inr ⟨hr, by simpa using hi⟩)
  · exact kof_bad f mi n w (by simp [Wk.okOf, hr]) (Or.inl (by simpa using hr))
end Go.Proofs.YtehjjinlpilelaaGreatDoor
