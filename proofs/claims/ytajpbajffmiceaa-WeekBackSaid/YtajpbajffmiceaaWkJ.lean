/- The walk of WeekBack. No conditions. -/
import Derived.Test.YtajpbajffmiceaaWkD
namespace Wk
open Cal
def ydG (y m d : Int) : Int := if okGb y m d then dayG y m d - dayG y 1 1 + 1 else 0
theorem wk_mod {B n f : Int} (h1 : wd B = f) (_h2 : B ≤ n) : B + 7 * ((n - B) / 7 + 1 - 1) + (wd n - f) % 7 = n := by
  subst h1; unfold wd; omega
theorem wd_at {B f k d : Int} (h : wd B = f) (d1 : 1 ≤ d) (d2 : d ≤ 7) : wd (B + 7 * (k - 1) + (d - f) % 7) = d := by
  subst h; unfold wd; omega
theorem wd_le (n : Int) : 1 ≤ wd n ∧ wd n ≤ 7 := by unfold wd; omega
theorem wk_le {B n K : Int} (h2 : B ≤ n) (h3 : n < B + 7 * K) : 1 ≤ (n - B) / 7 + 1 ∧ (n - B) / 7 + 1 ≤ K := by omega
theorem back_of {f mi n : Int} (h : ofE f mi n = 0) : inB n = true ∧ dyN f mi (ofY f mi n) (ofW f mi n) (ofD f mi n) = n ∧ dyE f mi (ofY f mi n) (ofW f mi n) (ofD f mi n) = 0 ∧ ofD f mi n = (n + 3) % 7 + 1 := by
  unfold ofE at h
  split at h
  · rename_i hr
    split at h
    · rename_i hq
      simp only [Bool.and_eq_true] at hq
      obtain ⟨hi, hy⟩ := hq
      have hok : okOf f mi n = true := by simp [okOf, hr, hi, hy]
      obtain ⟨s1, s2, _, _⟩ := wy_spec hr hi
      obtain ⟨b1, _, _⟩ := bg_spec hr (wy f mi n)
      obtain ⟨k1, k2⟩ := wks_52 hr (wy f mi n)
      obtain ⟨r1, r2, r3, r4⟩ := rB_iff.1 hr
      have hn := wk_mod b1 s1
      have hd := wd_le n
      have hk := wk_le s1 (by rw [← k2]; exact s2)
      have hd : okDay f mi (wy f mi n) ((n - bg f mi (wy f mi n)) / 7 + 1) (wd n) = true := by
        unfold okDay; rw [hr, hy, hn, hi]; simp [hd, hk]
      simp only [ofY, ofW, ofD, hok, if_true]
      refine ⟨hi, ?_, ?_, rfl⟩
      · unfold dyN; rw [if_pos hd, hn]
      · simp [dyE, hr, hd]
    · cases h
  · cases h
theorem back_dy {f mi y k d : Int} (h : dyE f mi y k d = 0) : ofE f mi (dyN f mi y k d) = 0 ∧ ofY f mi (dyN f mi y k d) = y ∧ ofW f mi (dyN f mi y k d) = k ∧ ofD f mi (dyN f mi y k d) = d := by
  unfold dyE at h
  split at h
  · rename_i hr
    split at h
    · rename_i hd
      have hN : dyN f mi y k d = bg f mi y + 7 * (k - 1) + (d - f) % 7 := by simp [dyN, hd]
      simp only [okDay, hr, Bool.true_and, Bool.and_eq_true, decide_eq_true_eq] at hd
      obtain ⟨⟨hy, k1, k2, d1, d2⟩, hi⟩ := hd
      obtain ⟨b1, _, _⟩ := bg_spec hr y
      obtain ⟨_, w2⟩ := wks_52 hr y
      obtain ⟨r1, r2, r3, r4⟩ := rB_iff.1 hr
      rw [← hN] at hi
      have hw := wy_eq (y := y) hr hi (by rw [hN]; omega) (by rw [hN]; omega)
      have hy' := hy
      rw [hw] at hy'
      have hok : okOf f mi (dyN f mi y k d) = true := by simp [okOf, hr, hi, hy']
      refine ⟨by unfold ofE; simp [hr, hi, hy'], by unfold ofY; rw [if_pos hok, ← hw], ?_, ?_⟩
      · unfold ofW; rw [if_pos hok, ← hw, hN]; omega
      · unfold ofD; rw [if_pos hok, hN]; exact wd_at b1 d1 d2
    · cases h
  · cases h
theorem back_or {n : Int} (h : inB n = true) : foN (yG n) (orN n) = n ∧ foE (yG n) (orN n) = 0 ∧ ydG (yG n) (mG n) (aG n) = orN n := by
  obtain ⟨ho, hd⟩ := dtG_spec h
  have hb := dayG_bd ho
  rw [hd] at hb
  have hN : orN n = n - ysG (yG n) + 1 := by simp [orN, h]
  have hf : foB (yG n) (orN n) = true := by
    simp only [foB, Bool.and_eq_true, decide_eq_true_eq, yB_iff, hN]
    have := ho.1; have := ho.2.1; omega
  refine ⟨by unfold foN; rw [if_pos hf, hN]; omega, by simp [foE, hf], ?_⟩
  unfold ydG
  rw [if_pos (okGb_iff.2 ho), hd, hN]
  have : dayG (yG n) 1 1 = ysG (yG n) := by unfold dayG cumG; simp
  omega
theorem ydG_eq {y m d : Int} (h : okGb y m d = true) : ydG y m d = dayG y m d - dayG y 1 1 + 1 := by simp [ydG, h]
end Wk
namespace Go.Proofs.Ytajpbajffmiceaa
open Go.ChangeShapes Go.WideShapes Go.ChangeAt Go.RowKit

theorem cyearday_any (y m d : Int) (w : World) :
    Calls Try.prog 35 #[.agg #[.int .i64 y, .int .i64 m, .int .i64 d]] w fun e w' => e = .returned (.int .i64 (Wk.ydG y m d)) ∧ Below w.heap.size w w' := by
  by_cases hv : Cal.okGb y m d = true
  · obtain ⟨h1, h2, h3, h4, h5, h6⟩ := Cal.okGb_iff.1 hv
    have hl := Cal.lenG_bd y m
    have hi := Cal.dayG_in (Cal.okGb_iff.1 hv)
    have hi1 : -719162 ≤ Cal.dayG y 1 1 ∧ Cal.dayG y 1 1 < 2932897 := Cal.dayG_in ⟨h1, h2, by omega, by omega, by omega, by have := Cal.lenG_bd y 1; omega⟩
    rw [Wk.ydG_eq hv]
    go_enter Try.func35, Try.ntmps35
    go_wp2_with (go_at_call 44; refine (cvalid_any _ _ _ _).mono ?_; rintro e w1 ⟨rfl, hb⟩; obtain ⟨c0, c1, c2⟩ := box3 hb)
    go_quiet ((go_at_call 45; exact quiet_same (ccount_any _ _ _ _ h1 (by omega) (by omega) (by omega) (by omega) (by omega))))
    go_wp2
    go_ret
    exact ⟨rfl, below_drewN (below_box (by assumption)) _⟩
  · have hn : Wk.ydG y m d = 0 := by simp [Wk.ydG, hv]
    rw [hn]; clear hn
    go_enter Try.func35, Try.ntmps35
    go_wp2_with (go_at_call 44; refine (cvalid_any _ _ _ _).mono ?_; rintro e w1 ⟨rfl, hb⟩)
    go_ret
    exact ⟨rfl, below_box hb⟩
theorem TwoB.alloc {w wr : World} {f mi y k d : Int} (h : TwoB w wr f mi y k d) (o : Obj) : TwoB w (wr.alloc o) f mi y k d := ⟨h.1.alloc o, h.2.alloc o⟩
theorem TwoB.cells {w wr : World} {f mi y k d : Int} (h : TwoB w wr f mi y k d) : (wr.cell? ⟨w.heap.size, 0, none⟩ = some (.int .i64 f) ∧ wr.cell? ⟨w.heap.size, 1, none⟩ = some (.int .i64 mi)) ∧ wr.cell? ⟨w.heap.size + 1, 0, none⟩ = some (.int .i64 y) ∧ wr.cell? ⟨w.heap.size + 1, 1, none⟩ = some (.int .i64 k) ∧ wr.cell? ⟨w.heap.size + 1, 2, none⟩ = some (.int .i64 d) := by
  obtain ⟨⟨_, c0, c1⟩, ⟨_, e0, e1, e2, _, _, _⟩⟩ := h
  exact ⟨⟨c0, c1⟩, e0, e1, e2⟩
set_option maxHeartbeats 8000000 in
theorem kback_1nn (f mi n y k d : Int) (w : World) (Y K D N E E2 : Int) (q1 : Wk.ofY f mi n = Y) (q2 : Wk.ofW f mi n = K) (q3 : Wk.ofD f mi n = D) (q4 : Wk.ofE f mi n = E) (q5 : Wk.dyN f mi y k d = N) (q6 : Wk.dyE f mi y k d = E2)
    (z1 : (E == 0) = false)
    (z2 : (E2 == 0) = false)
    (hi : Cal.inB n = true) :
    Calls Try.prog 11 #[.agg #[.int .i64 f, .int .i64 mi], .int .i64 n, .agg #[.int .i64 y, .int .i64 k, .int .i64 d]] w fun e w' => e = .returned (.bool true) ∧ Below w.heap.size w w' := by
  have qH := Lib.hid (And.intro q1 (And.intro q2 (And.intro q3 (And.intro q4 (And.intro q5 q6)))))
  clear q1 q2 q3 q4 q5 q6
  obtain ⟨o1, o2, o3⟩ := Wk.back_or hi
  have hE : Cal.inE n = 0 := by simp [Cal.inE, hi]
  have oH := Lib.hid (And.intro o1 (And.intro o2 (And.intro o3 hE)))
  clear o1 o2 o3 hE hi
  go_enter Try.func11, Try.ntmps11
  go_wp2_with fail
  refine (awake_any _).mono ?_; rintro e w1 ⟨rfl, hb1⟩
  have hT := Lib.hid (TwoB.start hb1)
  have hb := below_box (below_box hb1)
  clear hb1
  obtain ⟨⟨c0, c1⟩, e0, e1, e2⟩ := hT.out.cells
  go_wp2_with fail
  refine (kof_any _ _ _ _).mono ?_; rintro e w2 ⟨rfl, hb2⟩
  rw [qH.out.1, qH.out.2.1, qH.out.2.2.1, qH.out.2.2.2.1]
  have hT2 := Lib.hid (hT.out.later hb2)
  have hb := below_then hb hb2
  clear hb2 hT c0 c1 e0 e1 e2
  have hc := fun o => (hT2.out.alloc o).cells
  go_wp2_with fail
  refine (kday_any _ _ _ _ _ _).mono ?_; rintro e w4 ⟨rfl, hb4⟩
  rw [qH.out.2.2.2.2.1, qH.out.2.2.2.2.2]
  have hT4 := Lib.hid (hT2.out.later (below_box hb4))
  have hb := below_then hb (below_box hb4)
  clear hb4 hT2 hc
  clear hT4
  go_wp2_with fail
  refine (kordinal_any _ _).mono ?_; rintro e w6 ⟨rfl, hb6⟩
  have hb := below_then hb hb6
  clear hb6
  rw [oH.out.2.2.2]
  go_wp2_with fail
  refine (cdate_any _ _).mono ?_; rintro e w7 ⟨rfl, hb7⟩
  rw [oH.out.2.2.2]
  have hb := below_then hb hb7
  clear hb7
  go_wp2_with fail
  refine (kfrom_any _ _ _).mono ?_; rintro e w8 ⟨rfl, hb8⟩
  rw [oH.out.1, oH.out.2.1]
  have hD := Lib.hid (Box3.born hb8)
  have hb := below_then hb (below_box hb8)
  clear hb8
  obtain ⟨lt, d0, d1, d2, _, _, _⟩ := hD.out
  go_wp2_with fail
  go_wp2_with (go_at_call 35; refine (cyearday_any _ _ _ _).mono ?_; rintro e w9 ⟨rfl, hb9⟩; rw [oH.out.2.2.1])
  have hb := below_then hb hb9
  go_ret
  exact ⟨by simp, by (repeat (first | exact Below.refl _ _ | assumption | refine below_drewN ?_ _ | refine below_alloc1 ?_ _ | refine below_then ?_ (by assumption)))⟩
set_option maxHeartbeats 8000000 in
theorem kback_1nb (f mi n y k d : Int) (w : World) (Y K D N E : Int) (q1 : Wk.ofY f mi n = Y) (q2 : Wk.ofW f mi n = K) (q3 : Wk.ofD f mi n = D) (q4 : Wk.ofE f mi n = E) (q5 : Wk.dyN f mi y k d = N) (q6 : Wk.dyE f mi y k d = 0)
    (z1 : (E == 0) = false)
    (b1 : Wk.ofE f mi N = 0) (b2 : Wk.ofY f mi N = y) (b3 : Wk.ofW f mi N = k) (b4 : Wk.ofD f mi N = d)
    (hi : Cal.inB n = true) :
    Calls Try.prog 11 #[.agg #[.int .i64 f, .int .i64 mi], .int .i64 n, .agg #[.int .i64 y, .int .i64 k, .int .i64 d]] w fun e w' => e = .returned (.bool true) ∧ Below w.heap.size w w' := by
  have qH := Lib.hid (And.intro q1 (And.intro q2 (And.intro q3 (And.intro q4 (And.intro q5 q6)))))
  clear q1 q2 q3 q4 q5 q6
  have bH := Lib.hid (And.intro b1 (And.intro b2 (And.intro b3 b4)))
  clear b1 b2 b3 b4
  obtain ⟨o1, o2, o3⟩ := Wk.back_or hi
  have hE : Cal.inE n = 0 := by simp [Cal.inE, hi]
  have oH := Lib.hid (And.intro o1 (And.intro o2 (And.intro o3 hE)))
  clear o1 o2 o3 hE hi
  go_enter Try.func11, Try.ntmps11
  go_wp2_with fail
  refine (awake_any _).mono ?_; rintro e w1 ⟨rfl, hb1⟩
  have hT := Lib.hid (TwoB.start hb1)
  have hb := below_box (below_box hb1)
  clear hb1
  obtain ⟨⟨c0, c1⟩, e0, e1, e2⟩ := hT.out.cells
  go_wp2_with fail
  refine (kof_any _ _ _ _).mono ?_; rintro e w2 ⟨rfl, hb2⟩
  rw [qH.out.1, qH.out.2.1, qH.out.2.2.1, qH.out.2.2.2.1]
  have hT2 := Lib.hid (hT.out.later hb2)
  have hb := below_then hb hb2
  clear hb2 hT c0 c1 e0 e1 e2
  have hc := fun o => (hT2.out.alloc o).cells
  go_wp2_with fail
  refine (kday_any _ _ _ _ _ _).mono ?_; rintro e w4 ⟨rfl, hb4⟩
  rw [qH.out.2.2.2.2.1, qH.out.2.2.2.2.2]
  have hT4 := Lib.hid (hT2.out.later (below_box hb4))
  have hb := below_then hb (below_box hb4)
  clear hb4 hT2 hc
  obtain ⟨⟨c0, c1⟩, e0, e1, e2⟩ := hT4.out.cells
  go_wp2_with fail
  refine (kof_any _ _ _ _).mono ?_; rintro e w5 ⟨rfl, hb5⟩
  rw [bH.out.1, bH.out.2.1, bH.out.2.2.1, bH.out.2.2.2]
  have hT5 := Lib.hid (hT4.out.later hb5)
  have hb := below_then hb hb5
  clear hb5 hT4 c0 c1 e0 e1 e2
  have hc := fun o => (hT5.out.alloc o).cells
  go_wp2_with fail
  refine (kordinal_any _ _).mono ?_; rintro e w6 ⟨rfl, hb6⟩
  have hb := below_then hb (below_box hb6)
  clear hb6 hT5 hc
  rw [oH.out.2.2.2]
  go_wp2_with fail
  refine (cdate_any _ _).mono ?_; rintro e w7 ⟨rfl, hb7⟩
  rw [oH.out.2.2.2]
  have hb := below_then hb hb7
  clear hb7
  go_wp2_with fail
  refine (kfrom_any _ _ _).mono ?_; rintro e w8 ⟨rfl, hb8⟩
  rw [oH.out.1, oH.out.2.1]
  have hD := Lib.hid (Box3.born hb8)
  have hb := below_then hb (below_box hb8)
  clear hb8
  obtain ⟨lt, d0, d1, d2, _, _, _⟩ := hD.out
  go_wp2_with fail
  go_wp2_with (go_at_call 35; refine (cyearday_any _ _ _ _).mono ?_; rintro e w9 ⟨rfl, hb9⟩; rw [oH.out.2.2.1])
  have hb := below_then hb hb9
  go_ret
  exact ⟨by simp, by (repeat (first | exact Below.refl _ _ | assumption | refine below_drewN ?_ _ | refine below_alloc1 ?_ _ | refine below_then ?_ (by assumption)))⟩
set_option maxHeartbeats 8000000 in
theorem kback_1an (f mi n y k d : Int) (w : World) (Y K D N E2 : Int) (q1 : Wk.ofY f mi n = Y) (q2 : Wk.ofW f mi n = K) (q3 : Wk.ofD f mi n = D) (q4 : Wk.ofE f mi n = 0) (q5 : Wk.dyN f mi y k d = N) (q6 : Wk.dyE f mi y k d = E2)
    (a1 : Wk.dyN f mi Y K D = n) (a2 : Wk.dyE f mi Y K D = 0) (a3 : D = wdG n)
    (z2 : (E2 == 0) = false)
    (hi : Cal.inB n = true) :
    Calls Try.prog 11 #[.agg #[.int .i64 f, .int .i64 mi], .int .i64 n, .agg #[.int .i64 y, .int .i64 k, .int .i64 d]] w fun e w' => e = .returned (.bool true) ∧ Below w.heap.size w w' := by
  have qH := Lib.hid (And.intro q1 (And.intro q2 (And.intro q3 (And.intro q4 (And.intro q5 q6)))))
  clear q1 q2 q3 q4 q5 q6
  have aH := Lib.hid (And.intro a1 a2)
  have a4 : (D != wdG n) = false := by rw [a3]; simp
  have a4H := Lib.hid a4
  clear a1 a2 a3 a4
  obtain ⟨o1, o2, o3⟩ := Wk.back_or hi
  have hE : Cal.inE n = 0 := by simp [Cal.inE, hi]
  have oH := Lib.hid (And.intro o1 (And.intro o2 (And.intro o3 hE)))
  clear o1 o2 o3 hE hi
  go_enter Try.func11, Try.ntmps11
  go_wp2_with fail
  refine (awake_any _).mono ?_; rintro e w1 ⟨rfl, hb1⟩
  have hT := Lib.hid (TwoB.start hb1)
  have hb := below_box (below_box hb1)
  clear hb1
  obtain ⟨⟨c0, c1⟩, e0, e1, e2⟩ := hT.out.cells
  go_wp2_with fail
  refine (kof_any _ _ _ _).mono ?_; rintro e w2 ⟨rfl, hb2⟩
  rw [qH.out.1, qH.out.2.1, qH.out.2.2.1, qH.out.2.2.2.1]
  have hT2 := Lib.hid (hT.out.later hb2)
  have hb := below_then hb hb2
  clear hb2 hT c0 c1 e0 e1 e2
  have hc := fun o => (hT2.out.alloc o).cells
  go_wp2_with fail
  refine (kday_any _ _ _ _ _ _).mono ?_; rintro e w3 ⟨rfl, hb3⟩
  rw [aH.out.1, aH.out.2]
  have hX := Lib.hid (Box3.born hb3)
  have hT3 := Lib.hid (hT2.out.later (below_box hb3))
  have hb := below_then hb (below_box hb3)
  clear hb3 hT2 hc
  obtain ⟨_, x0, x1, x2, _, _, _⟩ := hX.out
  obtain ⟨⟨c0, c1⟩, e0, e1, e2⟩ := hT3.out.cells
  go_wp2_with fail
  go_quiet ((first | (go_at_call 27; exact Calls.quiet_of (cweekday_any _ _))))
  have a4 := a4H.out
  go_wp2_with fail
  refine (kday_any _ _ _ _ _ _).mono ?_; rintro e w4 ⟨rfl, hb4⟩
  rw [qH.out.2.2.2.2.1, qH.out.2.2.2.2.2]
  replace hb4 := below_then (below_drewN (Below.refl _ _) _) hb4
  have hT4 := Lib.hid (hT3.out.later hb4)
  have hb := below_then hb hb4
  clear hb4 hT3 c0 c1 e0 e1 e2 x0 x1 x2 a4 hX
  clear hT4
  go_wp2_with fail
  refine (kordinal_any _ _).mono ?_; rintro e w6 ⟨rfl, hb6⟩
  have hb := below_then hb hb6
  clear hb6
  rw [oH.out.2.2.2]
  go_wp2_with fail
  refine (cdate_any _ _).mono ?_; rintro e w7 ⟨rfl, hb7⟩
  rw [oH.out.2.2.2]
  have hb := below_then hb hb7
  clear hb7
  go_wp2_with fail
  refine (kfrom_any _ _ _).mono ?_; rintro e w8 ⟨rfl, hb8⟩
  rw [oH.out.1, oH.out.2.1]
  have hD := Lib.hid (Box3.born hb8)
  have hb := below_then hb (below_box hb8)
  clear hb8
  obtain ⟨lt, d0, d1, d2, _, _, _⟩ := hD.out
  go_wp2_with fail
  go_wp2_with (go_at_call 35; refine (cyearday_any _ _ _ _).mono ?_; rintro e w9 ⟨rfl, hb9⟩; rw [oH.out.2.2.1])
  have hb := below_then hb hb9
  go_ret
  exact ⟨by simp, by (repeat (first | exact Below.refl _ _ | assumption | refine below_drewN ?_ _ | refine below_alloc1 ?_ _ | refine below_then ?_ (by assumption)))⟩
set_option maxHeartbeats 8000000 in
theorem kback_1ab (f mi n y k d : Int) (w : World) (Y K D N : Int) (q1 : Wk.ofY f mi n = Y) (q2 : Wk.ofW f mi n = K) (q3 : Wk.ofD f mi n = D) (q4 : Wk.ofE f mi n = 0) (q5 : Wk.dyN f mi y k d = N) (q6 : Wk.dyE f mi y k d = 0)
    (a1 : Wk.dyN f mi Y K D = n) (a2 : Wk.dyE f mi Y K D = 0) (a3 : D = wdG n)
    (b1 : Wk.ofE f mi N = 0) (b2 : Wk.ofY f mi N = y) (b3 : Wk.ofW f mi N = k) (b4 : Wk.ofD f mi N = d)
    (hi : Cal.inB n = true) :
    Calls Try.prog 11 #[.agg #[.int .i64 f, .int .i64 mi], .int .i64 n, .agg #[.int .i64 y, .int .i64 k, .int .i64 d]] w fun e w' => e = .returned (.bool true) ∧ Below w.heap.size w w' := by
  have qH := Lib.hid (And.intro q1 (And.intro q2 (And.intro q3 (And.intro q4 (And.intro q5 q6)))))
  clear q1 q2 q3 q4 q5 q6
  have aH := Lib.hid (And.intro a1 a2)
  have a4 : (D != wdG n) = false := by rw [a3]; simp
  have a4H := Lib.hid a4
  clear a1 a2 a3 a4
  have bH := Lib.hid (And.intro b1 (And.intro b2 (And.intro b3 b4)))
  clear b1 b2 b3 b4
  obtain ⟨o1, o2, o3⟩ := Wk.back_or hi
  have hE : Cal.inE n = 0 := by simp [Cal.inE, hi]
  have oH := Lib.hid (And.intro o1 (And.intro o2 (And.intro o3 hE)))
  clear o1 o2 o3 hE hi
  go_enter Try.func11, Try.ntmps11
  go_wp2_with fail
  refine (awake_any _).mono ?_; rintro e w1 ⟨rfl, hb1⟩
  have hT := Lib.hid (TwoB.start hb1)
  have hb := below_box (below_box hb1)
  clear hb1
  obtain ⟨⟨c0, c1⟩, e0, e1, e2⟩ := hT.out.cells
  go_wp2_with fail
  refine (kof_any _ _ _ _).mono ?_; rintro e w2 ⟨rfl, hb2⟩
  rw [qH.out.1, qH.out.2.1, qH.out.2.2.1, qH.out.2.2.2.1]
  have hT2 := Lib.hid (hT.out.later hb2)
  have hb := below_then hb hb2
  clear hb2 hT c0 c1 e0 e1 e2
  have hc := fun o => (hT2.out.alloc o).cells
  go_wp2_with fail
  refine (kday_any _ _ _ _ _ _).mono ?_; rintro e w3 ⟨rfl, hb3⟩
  rw [aH.out.1, aH.out.2]
  have hX := Lib.hid (Box3.born hb3)
  have hT3 := Lib.hid (hT2.out.later (below_box hb3))
  have hb := below_then hb (below_box hb3)
  clear hb3 hT2 hc
  obtain ⟨_, x0, x1, x2, _, _, _⟩ := hX.out
  obtain ⟨⟨c0, c1⟩, e0, e1, e2⟩ := hT3.out.cells
  go_wp2_with fail
  go_quiet ((first | (go_at_call 27; exact Calls.quiet_of (cweekday_any _ _))))
  have a4 := a4H.out
  go_wp2_with fail
  refine (kday_any _ _ _ _ _ _).mono ?_; rintro e w4 ⟨rfl, hb4⟩
  rw [qH.out.2.2.2.2.1, qH.out.2.2.2.2.2]
  replace hb4 := below_then (below_drewN (Below.refl _ _) _) hb4
  have hT4 := Lib.hid (hT3.out.later hb4)
  have hb := below_then hb hb4
  clear hb4 hT3 c0 c1 e0 e1 e2 x0 x1 x2 a4 hX
  obtain ⟨⟨c0, c1⟩, e0, e1, e2⟩ := hT4.out.cells
  go_wp2_with fail
  refine (kof_any _ _ _ _).mono ?_; rintro e w5 ⟨rfl, hb5⟩
  rw [bH.out.1, bH.out.2.1, bH.out.2.2.1, bH.out.2.2.2]
  have hT5 := Lib.hid (hT4.out.later hb5)
  have hb := below_then hb hb5
  clear hb5 hT4 c0 c1 e0 e1 e2
  have hc := fun o => (hT5.out.alloc o).cells
  go_wp2_with fail
  refine (kordinal_any _ _).mono ?_; rintro e w6 ⟨rfl, hb6⟩
  have hb := below_then hb (below_box hb6)
  clear hb6 hT5 hc
  rw [oH.out.2.2.2]
  go_wp2_with fail
  refine (cdate_any _ _).mono ?_; rintro e w7 ⟨rfl, hb7⟩
  rw [oH.out.2.2.2]
  have hb := below_then hb hb7
  clear hb7
  go_wp2_with fail
  refine (kfrom_any _ _ _).mono ?_; rintro e w8 ⟨rfl, hb8⟩
  rw [oH.out.1, oH.out.2.1]
  have hD := Lib.hid (Box3.born hb8)
  have hb := below_then hb (below_box hb8)
  clear hb8
  obtain ⟨lt, d0, d1, d2, _, _, _⟩ := hD.out
  go_wp2_with fail
  go_wp2_with (go_at_call 35; refine (cyearday_any _ _ _ _).mono ?_; rintro e w9 ⟨rfl, hb9⟩; rw [oH.out.2.2.1])
  have hb := below_then hb hb9
  go_ret
  exact ⟨by simp, by (repeat (first | exact Below.refl _ _ | assumption | refine below_drewN ?_ _ | refine below_alloc1 ?_ _ | refine below_then ?_ (by assumption)))⟩
set_option maxHeartbeats 8000000 in
theorem kback_0nn (f mi n y k d : Int) (w : World) (Y K D N E E2 : Int) (q1 : Wk.ofY f mi n = Y) (q2 : Wk.ofW f mi n = K) (q3 : Wk.ofD f mi n = D) (q4 : Wk.ofE f mi n = E) (q5 : Wk.dyN f mi y k d = N) (q6 : Wk.dyE f mi y k d = E2)
    (z1 : (E == 0) = false)
    (z2 : (E2 == 0) = false)
    (hi : n < -719162 ∨ (-719162 ≤ n ∧ 2932897 ≤ n)) (hE : Cal.inE n = 2) :
    Calls Try.prog 11 #[.agg #[.int .i64 f, .int .i64 mi], .int .i64 n, .agg #[.int .i64 y, .int .i64 k, .int .i64 d]] w fun e w' => e = .returned (.bool true) ∧ Below w.heap.size w w' := by
  have qH := Lib.hid (And.intro q1 (And.intro q2 (And.intro q3 (And.intro q4 (And.intro q5 q6)))))
  clear q1 q2 q3 q4 q5 q6
  have oH := Lib.hid hE
  clear hE
  rcases hi with hi | ⟨hi, hi2⟩
  all_goals
    go_enter Try.func11, Try.ntmps11
    go_wp2_with fail
    refine (awake_any _).mono ?_; rintro e w1 ⟨rfl, hb1⟩
    have hT := Lib.hid (TwoB.start hb1)
    have hb := below_box (below_box hb1)
    clear hb1
    obtain ⟨⟨c0, c1⟩, e0, e1, e2⟩ := hT.out.cells
    go_wp2_with fail
    refine (kof_any _ _ _ _).mono ?_; rintro e w2 ⟨rfl, hb2⟩
    rw [qH.out.1, qH.out.2.1, qH.out.2.2.1, qH.out.2.2.2.1]
    have hT2 := Lib.hid (hT.out.later hb2)
    have hb := below_then hb hb2
    clear hb2 hT c0 c1 e0 e1 e2
    have hc := fun o => (hT2.out.alloc o).cells
    go_wp2_with fail
    refine (kday_any _ _ _ _ _ _).mono ?_; rintro e w4 ⟨rfl, hb4⟩
    rw [qH.out.2.2.2.2.1, qH.out.2.2.2.2.2]
    have hT4 := Lib.hid (hT2.out.later (below_box hb4))
    have hb := below_then hb (below_box hb4)
    clear hb4 hT2 hc
    clear hT4
    go_wp2_with fail
    refine (kordinal_any _ _).mono ?_; rintro e w6 ⟨rfl, hb6⟩
    have hb := below_then hb hb6
    clear hb6
    rw [oH.out]
    go_wp2_with fail
    go_ret
    exact ⟨by simp, hb⟩
set_option maxHeartbeats 8000000 in
theorem kback_0nb (f mi n y k d : Int) (w : World) (Y K D N E : Int) (q1 : Wk.ofY f mi n = Y) (q2 : Wk.ofW f mi n = K) (q3 : Wk.ofD f mi n = D) (q4 : Wk.ofE f mi n = E) (q5 : Wk.dyN f mi y k d = N) (q6 : Wk.dyE f mi y k d = 0)
    (z1 : (E == 0) = false)
    (b1 : Wk.ofE f mi N = 0) (b2 : Wk.ofY f mi N = y) (b3 : Wk.ofW f mi N = k) (b4 : Wk.ofD f mi N = d)
    (hi : n < -719162 ∨ (-719162 ≤ n ∧ 2932897 ≤ n)) (hE : Cal.inE n = 2) :
    Calls Try.prog 11 #[.agg #[.int .i64 f, .int .i64 mi], .int .i64 n, .agg #[.int .i64 y, .int .i64 k, .int .i64 d]] w fun e w' => e = .returned (.bool true) ∧ Below w.heap.size w w' := by
  have qH := Lib.hid (And.intro q1 (And.intro q2 (And.intro q3 (And.intro q4 (And.intro q5 q6)))))
  clear q1 q2 q3 q4 q5 q6
  have bH := Lib.hid (And.intro b1 (And.intro b2 (And.intro b3 b4)))
  clear b1 b2 b3 b4
  have oH := Lib.hid hE
  clear hE
  rcases hi with hi | ⟨hi, hi2⟩
  all_goals
    go_enter Try.func11, Try.ntmps11
    go_wp2_with fail
    refine (awake_any _).mono ?_; rintro e w1 ⟨rfl, hb1⟩
    have hT := Lib.hid (TwoB.start hb1)
    have hb := below_box (below_box hb1)
    clear hb1
    obtain ⟨⟨c0, c1⟩, e0, e1, e2⟩ := hT.out.cells
    go_wp2_with fail
    refine (kof_any _ _ _ _).mono ?_; rintro e w2 ⟨rfl, hb2⟩
    rw [qH.out.1, qH.out.2.1, qH.out.2.2.1, qH.out.2.2.2.1]
    have hT2 := Lib.hid (hT.out.later hb2)
    have hb := below_then hb hb2
    clear hb2 hT c0 c1 e0 e1 e2
    have hc := fun o => (hT2.out.alloc o).cells
    go_wp2_with fail
    refine (kday_any _ _ _ _ _ _).mono ?_; rintro e w4 ⟨rfl, hb4⟩
    rw [qH.out.2.2.2.2.1, qH.out.2.2.2.2.2]
    have hT4 := Lib.hid (hT2.out.later (below_box hb4))
    have hb := below_then hb (below_box hb4)
    clear hb4 hT2 hc
    obtain ⟨⟨c0, c1⟩, e0, e1, e2⟩ := hT4.out.cells
    go_wp2_with fail
    refine (kof_any _ _ _ _).mono ?_; rintro e w5 ⟨rfl, hb5⟩
    rw [bH.out.1, bH.out.2.1, bH.out.2.2.1, bH.out.2.2.2]
    have hT5 := Lib.hid (hT4.out.later hb5)
    have hb := below_then hb hb5
    clear hb5 hT4 c0 c1 e0 e1 e2
    have hc := fun o => (hT5.out.alloc o).cells
    go_wp2_with fail
    refine (kordinal_any _ _).mono ?_; rintro e w6 ⟨rfl, hb6⟩
    have hb := below_then hb (below_box hb6)
    clear hb6 hT5 hc
    rw [oH.out]
    go_wp2_with fail
    go_ret
    exact ⟨by simp, hb⟩
theorem nz {x : Int} (h : ¬ x = 0) : (x == 0) = false := by simpa using h
theorem wWeekBack (f mi n y k d : Int) (w : World) (_hf : -9223372036854775808 ≤ f ∧ f ≤ 9223372036854775807) (_hm : -9223372036854775808 ≤ mi ∧ mi ≤ 9223372036854775807) (_hn : -9223372036854775808 ≤ n ∧ n ≤ 9223372036854775807) (_h1 : -9223372036854775808 ≤ y ∧ y ≤ 9223372036854775807) (_h2 : -9223372036854775808 ≤ k ∧ k ≤ 9223372036854775807) (_h3 : -9223372036854775808 ≤ d ∧ d ≤ 9223372036854775807) :
    Calls Try.prog 11 #[.agg #[.int .i64 f, .int .i64 mi], .int .i64 n, .agg #[.int .i64 y, .int .i64 k, .int .i64 d]] w fun e w' => e = .returned (.bool true) ∧ Below w.heap.size w w' := by
  have hwd : Cal.inB n = true → (n + 3) % 7 + 1 = wdG n := fun h => by simp [wdG, h]
  by_cases hi : Cal.inB n = true
  · by_cases h : Wk.ofE f mi n = 0
    · obtain ⟨_, a1, a2, a3⟩ := Wk.back_of h
      rw [hwd hi] at a3
      by_cases g : Wk.dyE f mi y k d = 0
      · obtain ⟨b1, b2, b3, b4⟩ := Wk.back_dy g
        exact kback_1ab f mi n y k d w _ _ _ _ rfl rfl rfl h rfl g a1 a2 a3 b1 b2 b3 b4 hi
      · exact kback_1an f mi n y k d w _ _ _ _ _ rfl rfl rfl h rfl rfl a1 a2 a3 (nz g) hi
    · by_cases g : Wk.dyE f mi y k d = 0
      · obtain ⟨b1, b2, b3, b4⟩ := Wk.back_dy g
        exact kback_1nb f mi n y k d w _ _ _ _ _ rfl rfl rfl rfl rfl g (nz h) b1 b2 b3 b4 hi
      · exact kback_1nn f mi n y k d w _ _ _ _ _ _ rfl rfl rfl rfl rfl rfl (nz h) (nz g) hi
  · have hi' : Cal.inB n = false := by simpa using hi
    have hE : Cal.inE n = 2 := by simp [Cal.inE, hi']
    have hq := Cal.inB_no.1 hi'
    have hq : n < -719162 ∨ (-719162 ≤ n ∧ 2932897 ≤ n) := by omega
    have h : ¬ Wk.ofE f mi n = 0 := fun h => hi (Wk.back_of h).1
    by_cases g : Wk.dyE f mi y k d = 0
    · obtain ⟨b1, b2, b3, b4⟩ := Wk.back_dy g
      exact kback_0nb f mi n y k d w _ _ _ _ _ rfl rfl rfl rfl rfl g (nz h) b1 b2 b3 b4 hq hE
    · exact kback_0nn f mi n y k d w _ _ _ _ _ _ rfl rfl rfl rfl rfl rfl (nz h) (nz g) hq hE
end Go.Proofs.Ytajpbajffmiceaa
