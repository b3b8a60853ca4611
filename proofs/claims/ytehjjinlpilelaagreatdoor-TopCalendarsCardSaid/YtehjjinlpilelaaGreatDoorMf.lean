/- Contracts of week.Day and civil.YearDay, and plain facts on weeks that lead back. No conditions. -/
import Derived.Test.YtehjjinlpilelaaGreatDoorMe
namespace Wk
open Cal
theorem dy_bd {f mi y : Int} (hr : rB f mi = true) (h1 : 1 ≤ y) (h2 : y ≤ 9999) : -719170 ≤ bg f mi y ∧ bg f mi y ≤ 2932910 := by
  have := bg_near hr y; have := ysG_bd h1 (show y ≤ 10000 by omega); omega
/-- the ways of Day -/
theorem dy_ways (f mi y k d : Int) :
    (rB f mi = false ∧ dyN f mi y k d = 0 ∧ dyE f mi y k d = 1) ∨
    (rB f mi = true ∧ yB y = false ∧ dyN f mi y k d = 0 ∧ dyE f mi y k d = 2) ∨
    (rB f mi = true ∧ yB y = true ∧ dyN f mi y k d = 0 ∧ dyE f mi y k d = 2 ∧ (k < 1 ∨ (1 ≤ k ∧ wks f mi y < k) ∨ (1 ≤ k ∧ k ≤ wks f mi y ∧ d < 1) ∨ (1 ≤ k ∧ k ≤ wks f mi y ∧ 1 ≤ d ∧ 7 < d))) ∨
    (rB f mi = true ∧ yB y = true ∧ 1 ≤ k ∧ k ≤ wks f mi y ∧ 1 ≤ d ∧ d ≤ 7 ∧
      ((inB (bg f mi y + 7 * (k - 1) + (d - f) % 7) = true ∧ dyN f mi y k d = bg f mi y + 7 * (k - 1) + (d - f) % 7 ∧ dyE f mi y k d = 0) ∨
       (inB (bg f mi y + 7 * (k - 1) + (d - f) % 7) = false ∧ dyN f mi y k d = 0 ∧ dyE f mi y k d = 2))) := by
  cases hr : rB f mi
  · exact Or.inl ⟨rfl, by simp [dyN, okDay, hr], by simp [dyE, hr]⟩
  · refine Or.inr ?_
    cases hy : yB y
    · exact Or.inl ⟨rfl, rfl, by simp [dyN, okDay, hy], by simp [dyE, hr, okDay, hy]⟩
    · refine Or.inr ?_
      by_cases hk : 1 ≤ k ∧ k ≤ wks f mi y ∧ 1 ≤ d ∧ d ≤ 7
      · refine Or.inr ⟨rfl, rfl, hk.1, hk.2.1, hk.2.2.1, hk.2.2.2, ?_⟩
        cases hi : inB (bg f mi y + 7 * (k - 1) + (d - f) % 7)
        · have ho : okDay f mi y k d = false := by simp [okDay, hi]
          exact Or.inr ⟨rfl, by simp [dyN, ho], by simp [dyE, hr, ho]⟩
        · have ho : okDay f mi y k d = true := by simp [okDay, hr, hy, hk, hi]
          exact Or.inl ⟨rfl, by simp [dyN, ho], by simp [dyE, hr, ho]⟩
      · have ho : okDay f mi y k d = false := by
          unfold okDay; rw [show decide (1 ≤ k ∧ k ≤ wks f mi y ∧ 1 ≤ d ∧ d ≤ 7) = false from decide_eq_false hk]; simp
        exact Or.inl ⟨rfl, rfl, by simp [dyN, ho], by simp [dyE, hr, ho], by omega⟩
end Wk
namespace Go.Proofs.YtehjjinlpilelaaGreatDoor
open Go.ChangeShapes Go.WideShapes Go.ChangeAt Go.RowKit

theorem kind_any (n : Int) (w : World) :
    Calls Tryz.prog 63 #[.int .i64 n] w fun e w' => e = .returned (.bool (Cal.inB n)) ∧ w = w' := by
  have hl : Cal.inB n = (decide (-719162 ≤ n) && decide (n < 2932897)) := by rw [Bool.eq_iff_iff]; simp [Cal.inB]
  rw [hl]; clear hl
  by_cases h1 : -719162 ≤ n
  · go_enter Tryz.func63, Tryz.ntmps63
    go_wp2
    go_ret
    exact ⟨by simp [h1], rfl⟩
  · go_enter Tryz.func63, Tryz.ntmps63
    go_wp2
    go_ret
    exact ⟨by simp; omega, rfl⟩
/-- the two boxes that Day lays -/
def TwoB (w wr : World) (f mi y k d : Int) : Prop := Box2 wr w.heap.size (.int .i64 f) (.int .i64 mi) ∧ Box3 wr (w.heap.size + 1) (.int .i64 y) (.int .i64 k) (.int .i64 d)
theorem Box2.alloc {w : World} {b : Nat} {x y : Value} (h : Box2 w b x y) (o : Obj) : Box2 (w.alloc o) b x y := h.later ((Below.refl _ _).alloc (Nat.le_refl _) o)
theorem TwoB.start {w w1 : World} {f mi y k d : Int} {t u : TypeId} (hb : Below ((w.alloc (.cells #[.int .i64 f, .int .i64 mi] t)).alloc (.cells #[.int .i64 y, .int .i64 k, .int .i64 d] u)).heap.size ((w.alloc (.cells #[.int .i64 f, .int .i64 mi] t)).alloc (.cells #[.int .i64 y, .int .i64 k, .int .i64 d] u)) w1) : TwoB w w1 f mi y k d := by
  refine ⟨((Box2.new w _ _ t).alloc _).later hb, ?_⟩
  have := Box3.born hb; simpa using this
theorem TwoB.later {w wr w1 : World} {f mi y k d : Int} (h : TwoB w wr f mi y k d) (hb : Below wr.heap.size wr w1) : TwoB w w1 f mi y k d := ⟨h.1.later hb, h.2.later hb⟩

set_option maxHeartbeats 4000000 in
theorem kday_bad (f mi y k d : Int) (w : World) (ways : (Wk.rB f mi = false ∧ Wk.dyN f mi y k d = 0 ∧ Wk.dyE f mi y k d = 1) ∨
    (Wk.rB f mi = true ∧ Wk.yB y = false ∧ Wk.dyN f mi y k d = 0 ∧ Wk.dyE f mi y k d = 2) ∨
    (Wk.rB f mi = true ∧ Wk.yB y = true ∧ Wk.dyN f mi y k d = 0 ∧ Wk.dyE f mi y k d = 2 ∧ (k < 1 ∨ (1 ≤ k ∧ Wk.wks f mi y < k) ∨ (1 ≤ k ∧ k ≤ Wk.wks f mi y ∧ d < 1) ∨ (1 ≤ k ∧ k ≤ Wk.wks f mi y ∧ 1 ≤ d ∧ 7 < d)))) :
    Calls Tryz.prog 23 #[.agg #[.int .i64 f, .int .i64 mi], .agg #[.int .i64 y, .int .i64 k, .int .i64 d]] w fun e w' => e = .returned (.tuple #[.int .i64 (Wk.dyN f mi y k d), .int .i64 (Wk.dyE f mi y k d)]) ∧ Below w.heap.size w w' := by
  rcases ways with ⟨hr, e1, e2⟩ | ⟨hr, hy, e1, e2⟩ | ⟨hr, hy, e1, e2, ways⟩
  · rw [e1, e2]; clear e1 e2
    go_enter Tryz.func23, Tryz.ntmps23
    go_wp2_with fail
    refine (kvalid_any _ _ _).mono ?_; rintro e w1 ⟨rfl, hb1⟩
    have hb := below_box (below_box hb1)
    clear hb1
    go_wp2_with fail
    go_ret2
    exact ⟨rfl, hb⟩
  · rw [e1, e2]; clear e1 e2
    have s1 : Wk.stE f mi y = 2 := by simp [Wk.stE, hr, hy]
    have s2 : Wk.wkN f mi y = 0 := by simp [Wk.wkN, hy]
    have sH := Lib.hid (And.intro s1 s2)
    clear s1 s2 hy
    go_enter Tryz.func23, Tryz.ntmps23
    go_wp2_with fail
    refine (kvalid_any _ _ _).mono ?_; rintro e w1 ⟨rfl, hb1⟩
    have hT := Lib.hid (TwoB.start hb1)
    have hb := below_box (below_box hb1)
    clear hb1
    obtain ⟨⟨_, c0, c1⟩, ⟨_, d0, d1, d2, _, _, _⟩⟩ := hT.out
    go_wp2_with fail
    refine (kweeks_any _ _ _ _).mono ?_; rintro e w2 ⟨rfl, hb2⟩
    rw [sH.out.1, sH.out.2]
    have hb := below_then hb hb2
    clear hb2 hT c0 c1 d0 d1 d2
    go_wp2_with fail
    go_ret2
    exact ⟨rfl, hb⟩
  · rw [e1, e2]; clear e1 e2
    have s1 : Wk.stE f mi y = 0 := by simp [Wk.stE, hr, hy]
    have s2 : Wk.wkN f mi y = Wk.wks f mi y := by simp [Wk.wkN, hr, hy]
    have sH := Lib.hid (And.intro s1 s2)
    clear s1 s2 hy
    rcases ways with q | ⟨q, q2⟩ | ⟨q, q2, q3⟩ | ⟨q, q2, q3, q4⟩
    all_goals
      go_enter Tryz.func23, Tryz.ntmps23
      go_wp2_with fail
      refine (kvalid_any _ _ _).mono ?_; rintro e w1 ⟨rfl, hb1⟩
      have hT := Lib.hid (TwoB.start hb1)
      have hb := below_box (below_box hb1)
      clear hb1
      obtain ⟨⟨_, c0, c1⟩, ⟨_, d0, d1, d2, _, _, _⟩⟩ := hT.out
      go_wp2_with fail
      refine (kweeks_any _ _ _ _).mono ?_; rintro e w2 ⟨rfl, hb2⟩
      rw [sH.out.1, sH.out.2]
      have hT2 := Lib.hid (hT.out.later hb2)
      have hb := below_then hb hb2
      clear hb2 hT c0 c1 d0 d1 d2
      obtain ⟨⟨_, c0, c1⟩, ⟨_, d0, d1, d2, _, _, _⟩⟩ := hT2.out
      go_wp2_with fail
      go_ret2
      exact ⟨rfl, hb⟩
set_option maxHeartbeats 4000000 in
theorem kday_good (f mi y k d : Int) (w : World) (hr : Wk.rB f mi = true) (hy : Wk.yB y = true) (k1 : 1 ≤ k) (k2 : k ≤ Wk.wks f mi y) (d1 : 1 ≤ d) (d2 : d ≤ 7) (N E : Int)
    (hN : (Cal.inB (Wk.bg f mi y + 7 * (k - 1) + (d - f) % 7) = true ∧ N = Wk.bg f mi y + 7 * (k - 1) + (d - f) % 7 ∧ E = 0) ∨ (Cal.inB (Wk.bg f mi y + 7 * (k - 1) + (d - f) % 7) = false ∧ N = 0 ∧ E = 2)) :
    Calls Tryz.prog 23 #[.agg #[.int .i64 f, .int .i64 mi], .agg #[.int .i64 y, .int .i64 k, .int .i64 d]] w fun e w' => e = .returned (.tuple #[.int .i64 N, .int .i64 E]) ∧ Below w.heap.size w w' := by
  obtain ⟨y1, y2⟩ := Wk.yB_iff.1 hy
  obtain ⟨r1, r2, r3, r4⟩ := Wk.rB_iff.1 hr
  have hw52 := (Wk.wks_52 hr y).1
  have hbb := Wk.dy_bd hr y1 y2
  have s1 : Wk.stE f mi y = 0 := by simp [Wk.stE, hr, hy]
  have s2 : Wk.wkN f mi y = Wk.wks f mi y := by simp [Wk.wkN, hr, hy]
  have sH := Lib.hid (And.intro s1 s2)
  have hrH := Lib.hid hr
  have k53 : k ≤ 53 := by omega
  have hw1 : IntKind.i64.wrap (d - f) = d - f := IntWalk.i64_in _ (by omega)
  have hw2 : IntKind.i64.wrap (k - 1) = k - 1 := IntWalk.i64_in _ (by omega)
  have hw3 : IntKind.i64.wrap (7 * (k - 1)) = 7 * (k - 1) := IntWalk.i64_in _ (by omega)
  clear s1 s2 hy hw52
  rcases hN with ⟨hi, rfl, rfl⟩ | ⟨hi, rfl, rfl⟩
  all_goals
    have hiH := Lib.hid hi
    clear hi
    go_enter Tryz.func23, Tryz.ntmps23
    go_wp2_with fail
    refine (kvalid_any _ _ _).mono ?_; rintro e w1 ⟨rfl, hb1⟩
    have hT := Lib.hid (TwoB.start hb1)
    have hb := below_box (below_box hb1)
    clear hb1
    obtain ⟨⟨_, c0, c1⟩, ⟨_, e0, e1, e2, _, _, _⟩⟩ := hT.out
    go_wp2_with fail
    refine (kweeks_any _ _ _ _).mono ?_; rintro e w2 ⟨rfl, hb2⟩
    rw [sH.out.1, sH.out.2]
    have hT2 := Lib.hid (hT.out.later hb2)
    have hb := below_then hb hb2
    clear hb2 hT c0 c1 e0 e1 e2
    obtain ⟨⟨lt, c0, c1⟩, ⟨lt2, e0, e1, e2, _, _, _⟩⟩ := hT2.out
    go_wp2_with fail
    go_region_held3 (fun w' => (w'.cell? ⟨w.heap.size, 0, none⟩ = some (.int .i64 f) ∧ w'.cell? ⟨w.heap.size, 1, none⟩ = some (.int .i64 mi)) ∧ (w'.cell? ⟨w.heap.size + 1, 0, none⟩ = some (.int .i64 y) ∧ w'.cell? ⟨w.heap.size + 1, 1, none⟩ = some (.int .i64 k) ∧ w'.cell? ⟨w.heap.size + 1, 2, none⟩ = some (.int .i64 d)))
      (first | go_keep | (go_split_ands; exact ⟨⟨keep1 hb3 lt (by assumption), keep1 hb3 lt (by assumption)⟩, ⟨keep1 hb3 lt2 (by assumption), keep1 hb3 lt2 (by assumption), keep1 hb3 lt2 (by assumption)⟩⟩))
      (first | (go_at_call 60; refine (kbegin_any _ _ _ _ hrH.out y1 (by omega)).mono ?_; rintro e w3 ⟨rfl, hb3⟩) | (go_at_call 42; refine (mod_any _ _ _ (by omega) (by omega) (by omega) (by omega)).mono ?_; rintro e w' ⟨rfl, kd, rfl⟩))
    have hb := below_then hb (below_undrew hb3)
    simp (disch := omega) only [IntWalk.i64_in]
    have hi := hiH.out
    go_wp2_with (first | (go_at_call 63; refine (kind_any _ _).mono ?_; rintro e w' ⟨rfl, rfl⟩))
    go_ret2
    exact ⟨rfl, by (repeat (first | exact Below.refl _ _ | assumption | refine below_drewN ?_ _ | refine below_alloc1 ?_ _ | refine below_then ?_ (by assumption)))⟩
theorem kday_any (f mi y k d : Int) (w : World) :
    Calls Tryz.prog 23 #[.agg #[.int .i64 f, .int .i64 mi], .agg #[.int .i64 y, .int .i64 k, .int .i64 d]] w fun e w' => e = .returned (.tuple #[.int .i64 (Wk.dyN f mi y k d), .int .i64 (Wk.dyE f mi y k d)]) ∧ Below w.heap.size w w' := by
  rcases Wk.dy_ways f mi y k d with h | h | h | ⟨hr, hy, k1, k2, d1, d2, h⟩
  · exact kday_bad f mi y k d w (Or.inl h)
  · exact kday_bad f mi y k d w (Or.inr (Or.inl h))
  · exact kday_bad f mi y k d w (Or.inr (Or.inr h))
  · exact kday_good f mi y k d w hr hy k1 k2 d1 d2 _ _ h
end Go.Proofs.YtehjjinlpilelaaGreatDoor
namespace Wk
open Cal
def ydG (y m d : Int) : Int := if okGb y m d then dayG y m d - dayG y 1 1 + 1 else 0
theorem wk_mod {B n f : Int} (h1 : wd B = f) (_h2 : B ≤ n) : B + 7 * ((n - B) / 7 + 1 - 1) + (wd n - f) % 7 = n := by
  subst h1; unfold wd; omega
theorem wd_at {B f k d : Int} (h : wd B = f) (d1 : 1 ≤ d) (d2 : d ≤ 7) : wd (B + 7 * (k - 1) + (d - f) % 7) = d := by
  subst h; unfold wd; omega
theorem wd_le (n : Int) : 1 ≤ wd n ∧ wd n ≤ 7 := by unfold wd; omega
theorem wk_le {B n K : Int} (h2 : B ≤ n) (h3 : n < B + 7 * K) : 1 ≤ (n - B) / 7 + 1 ∧ (n - B) / 7 + 1 ≤ K := by omega
theorem back_of {f mi n : Int} (h : ofE f mi n = 0) : inB n = true ∧ dyN f mi (ofY f mi n) (ofW f mi n) (ofD f mi n) = n ∧ dyE f mi (ofY f mi n) (ofW f mi n) (ofD f mi n) = 0 ∧ ofD f mi n = (n + 3) % 7 + 1 := by
  unfold ofE at h
  split at h
  · rename_i hr
    split at h
    · rename_i hq
      simp only [Bool.and_eq_true] at hq
      obtain ⟨hi, hy⟩ := hq
      have hok : okOf f mi n = true := by simp [okOf, hr, hi, hy]
      obtain ⟨s1, s2, _, _⟩ := wy_spec hr hi
      obtain ⟨b1, _, _⟩ := bg_spec hr (wy f mi n)
      obtain ⟨k1, k2⟩ := wks_52 hr (wy f mi n)
      obtain ⟨r1, r2, r3, r4⟩ := rB_iff.1 hr
      have hn := wk_mod b1 s1
      have hd := wd_le n
      have hk := wk_le s1 (by rw [← k2]; exact s2)
      have hd : okDay f mi (wy f mi n) ((n - bg f mi (wy f mi n)) / 7 + 1) (wd n) = true := by
        unfold okDay; rw [hr, hy, hn, hi]; simp [hd, hk]
      simp only [ofY, ofW, ofD, hok, if_true]
      refine ⟨hi, ?_, ?_, rfl⟩
      · unfold dyN; rw [if_pos hd, hn]
      · simp [dyE, hr, hd]
    · cases h
  · cases h
theorem back_dy {f mi y k d : Int} (h : dyE f mi y k d = 0) : ofE f mi (dyN f mi y k d) = 0 ∧ ofY f mi (dyN f mi y k d) = y ∧ ofW f mi (dyN f mi y k d) = k ∧ ofD f mi (dyN f mi y k d) = d := by
  unfold dyE at h
  split at h
  · rename_i hr
    split at h
    · rename_i hd
      have hN : dyN f mi y k d = bg f mi y + 7 * (k - 1) + (d - f) % 7 := by simp [dyN, hd]
      simp only [okDay, hr, Bool.true_and, Bool.and_eq_true, decide_eq_true_eq] at hd
      obtain ⟨⟨hy, k1, k2, d1, d2⟩, hi⟩ := hd
      obtain ⟨b1, _, _⟩ := bg_spec hr y
      obtain ⟨_, w2⟩ := wks_52 hr y
      obtain ⟨r1, r2, r3, r4⟩ := rB_iff.1 hr
      rw [← hN] at hi
      have hw := wy_eq (y := y) hr hi (by rw [hN]; omega) (by rw [hN]; omega)
      have hy' := hy
      rw [hw] at hy'
      have hok : okOf f mi (dyN f mi y k d) = true := by simp [okOf, hr, hi, hy']
      refine ⟨by unfold ofE; simp [hr, hi, hy'], by unfold ofY; rw [if_pos hok, ← hw], ?_, ?_⟩
      · unfold ofW; rw [if_pos hok, ← hw, hN]; omega
      · unfold ofD; rw [if_pos hok, hN]; exact wd_at b1 d1 d2
    · cases h
  · cases h
theorem back_or {n : Int} (h : inB n = true) : foN (yG n) (orN n) = n ∧ foE (yG n) (orN n) = 0 ∧ ydG (yG n) (mG n) (aG n) = orN n := by
  obtain ⟨ho, hd⟩ := dtG_spec h
  have hb := dayG_bd ho
  rw [hd] at hb
  have hN : orN n = n - ysG (yG n) + 1 := by simp [orN, h]
  have hf : foB (yG n) (orN n) = true := by
    simp only [foB, Bool.and_eq_true, decide_eq_true_eq, yB_iff, hN]
    have := ho.1; have := ho.2.1; omega
  refine ⟨by unfold foN; rw [if_pos hf, hN]; omega, by simp [foE, hf], ?_⟩
  unfold ydG
  rw [if_pos (okGb_iff.2 ho), hd, hN]
  have : dayG (yG n) 1 1 = ysG (yG n) := by unfold dayG cumG; simp
  omega
theorem ydG_eq {y m d : Int} (h : okGb y m d = true) : ydG y m d = dayG y m d - dayG y 1 1 + 1 := by simp [ydG, h]
end Wk
namespace Go.Proofs.YtehjjinlpilelaaGreatDoor
open Go.ChangeShapes Go.WideShapes Go.ChangeAt Go.RowKit

theorem cyearday_any (y m d : Int) (w : World) :
    Calls Tryz.prog 20 #[.agg #[.int .i64 y, .int .i64 m, .int .i64 d]] w fun e w' => e = .returned (.int .i64 (Wk.ydG y m d)) ∧ Below w.heap.size w w' := by
  by_cases hv : Cal.okGb y m d = true
  · obtain ⟨h1, h2, h3, h4, h5, h6⟩ := Cal.okGb_iff.1 hv
    have hl := Cal.lenG_bd y m
    have hi := Cal.dayG_in (Cal.okGb_iff.1 hv)
    have hi1 : -719162 ≤ Cal.dayG y 1 1 ∧ Cal.dayG y 1 1 < 2932897 := Cal.dayG_in ⟨h1, h2, by omega, by omega, by omega, by have := Cal.lenG_bd y 1; omega⟩
    rw [Wk.ydG_eq hv]
    go_enter Tryz.func20, Tryz.ntmps20
    go_wp2_with (go_at_call 39; refine (cvalid_any _ _ _ _).mono ?_; rintro e w1 ⟨rfl, hb⟩; obtain ⟨c0, c1, c2⟩ := box3 hb)
    go_quiet ((go_at_call 38; exact quiet_same (ccount_any _ _ _ _ h1 (by omega) (by omega) (by omega) (by omega) (by omega))))
    go_wp2
    go_ret
    exact ⟨rfl, below_drewN (below_box (by assumption)) _⟩
  · have hn : Wk.ydG y m d = 0 := by simp [Wk.ydG, hv]
    rw [hn]; clear hn
    go_enter Tryz.func20, Tryz.ntmps20
    go_wp2_with (go_at_call 39; refine (cvalid_any _ _ _ _).mono ?_; rintro e w1 ⟨rfl, hb⟩)
    go_ret
    exact ⟨rfl, below_box hb⟩
theorem TwoB.alloc {w wr : World} {f mi y k d : Int} (h : TwoB w wr f mi y k d) (o : Obj) : TwoB w (wr.alloc o) f mi y k d := ⟨h.1.alloc o, h.2.alloc o⟩
theorem TwoB.cells {w wr : World} {f mi y k d : Int} (h : TwoB w wr f mi y k d) : (wr.cell? ⟨w.heap.size, 0, none⟩ = some (.int .i64 f) ∧ wr.cell? ⟨w.heap.size, 1, none⟩ = some (.int .i64 mi)) ∧ wr.cell? ⟨w.heap.size + 1, 0, none⟩ = some (.int .i64 y) ∧ wr.cell? ⟨w.heap.size + 1, 1, none⟩ = some (.int .i64 k) ∧ wr.cell? ⟨w.heap.size + 1, 2, none⟩ = some (.int .i64 d) := by
  obtain ⟨⟨_, c0, c1⟩, ⟨_, e0, e1, e2, _, _, _⟩⟩ := h
  exact ⟨⟨c0, c1⟩, e0, e1, e2⟩
theorem nz {x : Int} (h : ¬ x = 0) : (x == 0) = false := by simpa using h
end Go.Proofs.YtehjjinlpilelaaGreatDoor
