/- The walks of JulianOffsets, JulianMixed and JulianFinds. Condition: the table of lengths. -/
import Derived.Test.YtiacppcnballeaaDoorLawsA
import Derived.Test.YtiacppcnballeaaDoorMixC
import Derived.Test.YtiacppcnballeaaDoorMixD
namespace Go.Proofs.YtiacppcnballeaaDoor
open Go.ChangeShapes Go.WideShapes Go.ChangeAt Go.RowKit

theorem off_bd {n : Int} (h : Cal.inB n = true) : -3 ≤ Cal.offJ n ∧ Cal.offJ n ≤ 80 := by
  obtain ⟨⟨y1, y2, _⟩, _⟩ := Cal.dtG_spec h
  have ho : Cal.offJ n = (if Cal.mG n ≤ 2 then (Cal.yG n - 1) / 100 - (Cal.yG n - 1) / 400 - 2 else Cal.yG n / 100 - Cal.yG n / 400 - 2) := by simp [Cal.offJ, h]
  rw [ho]; split <;> omega

set_option maxHeartbeats 1000000 in
theorem wJulianOffsets (n : Int) (w : World) (_hn : -9223372036854775808 ≤ n ∧ n ≤ 9223372036854775807) (ht : Tab w) :
    Calls Tryd.prog 9 #[.int .i64 n] w fun e w' => e = .returned (.bool true) ∧ Below w.heap.size w w' := by
  by_cases hi : Cal.inB n = true
  · have hE : Cal.inE n = 0 := by simp [Cal.inE, hi]
    have hob := off_bd hi
    obtain ⟨i1, i2⟩ := Cal.inB_iff.1 hi
    have hiH := Lib.hid hi
    have hj := Cal.off_day hi
    have hok := Cal.okJb_iff.2 (Cal.okG_J (Cal.dtG_spec hi).1)
    have hw : (Cal.dayJn (Cal.yG n) (Cal.mG n) (Cal.aG n) = n + Cal.offJ n ∧ Cal.dayJe (Cal.yG n) (Cal.mG n) (Cal.aG n) = 0) ∨
        (Cal.dayJe (Cal.yG n) (Cal.mG n) (Cal.aG n) = 2 ∧ n + Cal.offJ n < -719162) ∨ (Cal.dayJe (Cal.yG n) (Cal.mG n) (Cal.aG n) = 2 ∧ -719162 ≤ n + Cal.offJ n ∧ 2932897 ≤ n + Cal.offJ n) := by
      by_cases k : Cal.inB (n + Cal.offJ n) = true
      · exact Or.inl ⟨by simp [Cal.dayJn, hok, hj, k], by simp [Cal.dayJe, hok, hj, k]⟩
      · have k' : Cal.dayJe (Cal.yG n) (Cal.mG n) (Cal.aG n) = 2 := by simp [Cal.dayJe, hok, hj, k]
        rw [Cal.inB_iff] at k
        by_cases k2 : n + Cal.offJ n < -719162
        · exact Or.inr (Or.inl ⟨k', k2⟩)
        · exact Or.inr (Or.inr ⟨k', by omega, by omega⟩)
    clear hj hok
    rcases hw with ⟨q1, q2⟩ | ⟨q2, q3⟩ | ⟨q2, q3, q4⟩
    all_goals
      go_enter Tryd.func9, Tryd.ntmps9
      go_wp2_with fail
      refine (awake_any _ ht).mono ?_; rintro e w1 ⟨rfl, hb⟩
      go_wp2_with fail
      refine (joffset_any _ _).mono ?_; rintro e w2 ⟨rfl, hb2⟩
      have hb := below_then hb hb2
      clear hb2
      go_wp2_with (go_at_call 19; refine (rright_any _ _).mono ?_; rintro e w' ⟨rfl, rfl⟩)
      refine (cdate_any _ _).mono ?_; rintro e w3 ⟨rfl, hb3⟩
      have hb := below_then hb hb3
      clear hb3
      go_wp2_with fail
      refine (roffset_any _ _ hiH.out).mono ?_; rintro e w4 ⟨rfl, hb4⟩
      obtain ⟨_, c0, c1, c2, _, _, _⟩ := Box3.born hb4
      have hb := below_then hb (below_box hb4)
      clear hb4
      go_wp2_with fail
      refine (jday_any _ _ _ _ (ht.later hb)).mono ?_; rintro e w5 ⟨rfl, hb5⟩
      have hb := below_then hb hb5
      go_wp2
      go_ret
      exact ⟨by simp, hb⟩
  · have hE : Cal.inE n = 2 := by simp [Cal.inE, hi]
    have ho : Cal.offJ n = 0 := by simp [Cal.offJ, hi]
    have hi' : Cal.inB n = false := by simpa using hi
    clear hi
    go_enter Tryd.func9, Tryd.ntmps9
    go_wp2_with fail
    refine (awake_any _ ht).mono ?_; rintro e w1 ⟨rfl, hb⟩
    go_wp2_with fail
    refine (joffset_any _ _).mono ?_; rintro e w2 ⟨rfl, hb2⟩
    have hb := below_then hb hb2
    clear hb2
    go_wp2_with (go_at_call 19; refine (rright_any _ _).mono ?_; rintro e w' ⟨rfl, rfl⟩)
    go_ret
    exact ⟨by simp, hb⟩

/-- a block with one cell -/
structure Box1 (w : World) (b : Nat) (x : Value) : Prop where
  lt : b < w.heap.size
  c0 : w.cell? ⟨b, 0, none⟩ = some x
theorem Box1.later {w w' : World} {b : Nat} {x : Value} (h : Box1 w b x) (hb : Below w.heap.size w w') : Box1 w' b x :=
  ⟨Nat.lt_of_lt_of_le h.lt hb.size, keep1 hb h.lt h.c0⟩
theorem Box1.born {w w1 : World} {x : Value} {t : TypeId} (hb : Below (w.alloc (.cells #[x] t)).heap.size (w.alloc (.cells #[x] t)) w1) : Box1 w1 w.heap.size x :=
  ⟨Nat.lt_of_lt_of_le (by simp) hb.size, by rw [hb.cell (by simp)]; simp⟩

set_option maxHeartbeats 2000000 in
theorem wJulianMixed (f n y m d : Int) (w : World) (_hf : -9223372036854775808 ≤ f ∧ f ≤ 9223372036854775807) (_hn : -9223372036854775808 ≤ n ∧ n ≤ 9223372036854775807) (hy : -9223372036854775808 ≤ y ∧ y ≤ 9223372036854775807) (_hm : -9223372036854775808 ≤ m ∧ m ≤ 9223372036854775807) (_hd : -9223372036854775808 ≤ d ∧ d ≤ 9223372036854775807) (ht : Tab w) :
    Calls Tryd.prog 10 #[.int .i64 f, .int .i64 n, .agg #[.int .i64 y, .int .i64 m, .int .i64 d]] w fun e w' => e = .returned (.bool true) ∧ Below w.heap.size w w' := by
  have ways : (f < -719162 ∧ refB f = false) ∨ (-719162 ≤ f ∧ 2932897 < f ∧ refB f = false) ∨ (-719162 ≤ f ∧ f ≤ 2932897 ∧ refB f = true) := by
    unfold refB
    by_cases a : f < -719162
    · exact Or.inl ⟨a, by simp; omega⟩
    · by_cases b : 2932897 < f
      · exact Or.inr (Or.inl ⟨by omega, b, by simp; omega⟩)
      · exact Or.inr (Or.inr ⟨by omega, by omega, by simp; omega⟩)
  have ways2 : refB f = false ∨ (Cal.inB n = false ∧ refB f = true) ∨ (Cal.inB n = true ∧ n < f ∧ refB f = true) ∨ (Cal.inB n = true ∧ ¬ n < f ∧ refB f = true) := by
    by_cases a : refB f = true
    · by_cases b : Cal.inB n = true
      · by_cases c : n < f
        · exact Or.inr (Or.inr (Or.inl ⟨b, c, a⟩))
        · exact Or.inr (Or.inr (Or.inr ⟨b, c, a⟩))
      · exact Or.inr (Or.inl ⟨by simpa using b, a⟩)
    · exact Or.inl (by simpa using a)
  have vals : ∃ Y M A E, mixY f n = Y ∧ mixM f n = M ∧ mixA f n = A ∧ mixE f n = E ∧
      ((refB f = false ∧ Y = 0 ∧ M = 0 ∧ A = 0 ∧ E = 1) ∨ (refB f = true ∧ Cal.inB n = false ∧ Y = 0 ∧ M = 0 ∧ A = 0 ∧ E = 2) ∨
       (refB f = true ∧ Cal.inB n = true ∧ n < f ∧ Y = Cal.yJ n ∧ M = Cal.mJ n ∧ A = Cal.aJ n ∧ E = 0) ∨ (refB f = true ∧ Cal.inB n = true ∧ ¬ n < f ∧ Y = Cal.yG n ∧ M = Cal.mG n ∧ A = Cal.aG n ∧ E = 0)) := by
    refine ⟨_, _, _, _, rfl, rfl, rfl, rfl, ?_⟩
    rcases ways2 with a | ⟨b, a⟩ | ⟨b, c, a⟩ | ⟨b, c, a⟩
    · exact Or.inl ⟨a, by simp [mixY, a], by simp [mixM, a], by simp [mixA, a], by simp [mixE, a]⟩
    · obtain ⟨g1, g2, g3⟩ := Cal.dtG_out b
      obtain ⟨j1, j2, j3⟩ := Cal.dtJ_out b
      exact Or.inr (Or.inl ⟨a, b, by simp [mixY, g1, j1], by simp [mixM, g2, j2], by simp [mixA, g3, j3], by simp [mixE, a, Cal.inE, b]⟩)
    · exact Or.inr (Or.inr (Or.inl ⟨a, b, c, by simp [mixY, a, c], by simp [mixM, a, c], by simp [mixA, a, c], by simp [mixE, a, Cal.inE, b]⟩))
    · exact Or.inr (Or.inr (Or.inr ⟨a, b, c, by simp [mixY, a, c], by simp [mixM, a, c], by simp [mixA, a, c], by simp [mixE, a, Cal.inE, b]⟩))
  clear ways2
  obtain ⟨Y, M, A, E, v1, v2, v3, v4, hv⟩ := vals
  have v1H := Lib.hid v1; have v2H := Lib.hid v2; have v3H := Lib.hid v3; have v4H := Lib.hid v4
  clear v1 v2 v3 v4
  rcases ways with ⟨f1, hr⟩ | ⟨f1, f2, hr⟩ | ⟨f1, f2, hr⟩
  case inr.inr =>
    rcases hv with ⟨a, _⟩ | ⟨a, b, rfl, rfl, rfl, rfl⟩ | ⟨a, b, c, rfl, rfl, rfl, rfl⟩ | ⟨a, b, c, rfl, rfl, rfl, rfl⟩
    · rw [hr] at a; cases a
    all_goals
      try have hin : Cal.inE n = 0 := by simp [Cal.inE, b]
      clear a
      go_enter Tryd.func10, Tryd.ntmps10
      go_wp2_with fail
      refine (awake_any _ (ht.later (by go_grown))).mono ?_; rintro e w1 ⟨rfl, hb1⟩
      have hD := Lib.hid (Box3.born hb1)
      have hb := below_box hb1
      clear hb1
      go_wp2_with fail
      refine (jswitch_any _ _).mono ?_; rintro e w2 ⟨rfl, hb2⟩
      have hD2 := Lib.hid (hD.out.later hb2)
      have hb := below_then hb hb2
      clear hb2 hD
      go_wp2_with fail
      refine (jmixed_any _ _ _ (ht.later (hb.alloc hb.size _))).mono ?_; rintro e w3 ⟨rfl, hb3⟩
      rw [v1H.out, v2H.out, v3H.out, v4H.out]
      have hF := Lib.hid (Box1.born hb3)
      have hD3 := Lib.hid (hD2.out.later (below_box hb3))
      have hb := below_then hb (below_box hb3)
      obtain ⟨fl, f0⟩ := hF.out
      obtain ⟨dl, c0, c1, c2, _, _, _⟩ := hD3.out
      clear hb3 hD2
      go_wp2_with fail
      refine (jmixday_any _ _ _ _ _ (ht.later (hb.alloc hb.size _))).mono ?_; rintro e w4 ⟨rfl, hb4⟩
      have hX := Lib.hid (Box3.born hb4)
      have hD4 := Lib.hid (hD3.out.later (below_box hb4))
      have hF4 := Lib.hid (hF.out.later (below_box hb4))
      have hb := below_then hb (below_box hb4)
      clear hb4 hD3 hF f0 c0 c1 c2 fl dl
      obtain ⟨dl, c0, c1, c2, _, _, _⟩ := hD4.out
      go_wp2_with fail
      refine (rmixday_any _ _ _ _ _ hy).mono ?_; rintro e w5 ⟨rfl, hb5⟩
      have hX5 := Lib.hid (hX.out.later hb5)
      have hF5 := hF4.out.later hb5
      have hb := below_then hb hb5
      obtain ⟨fl, f0⟩ := hF5
      obtain ⟨xl, x0, x1, x2, _, _, _⟩ := hX5.out
      clear hb5 hX hF4 hD4 c0 c1 c2 dl
      go_wp2_with (first | (go_at_call 19; refine (rright_any _ _).mono ?_; rintro e w' ⟨rfl, rfl⟩) | (go_at_call 26; refine (cdate_any _ _).mono ?_; rintro e w6 ⟨rfl, hb6⟩; have hX6 := Lib.hid (hX5.out.later hb6); obtain ⟨xl, x0, x1, x2, _, _, _⟩ := hX6.out; have hb := below_then hb hb6) | (go_at_call 23; refine (jdate_any _ _ (ht.later (hb.alloc hb.size _))).mono ?_; rintro e w7 ⟨rfl, hb7⟩; obtain ⟨_, z0, z1, z2, g0, g1, g2⟩ := Box3.born hb7; obtain ⟨xl, x0, x1, x2, _, _, _⟩ := hX6.out.later (below_box hb7); have hs := hb.size; have hb := below_then hb (below_box hb7)))
      go_ret
      refine ⟨by simp, ?_⟩
      repeat (first | exact hb | (refine Below.setCell ?_ hs _) | (refine Below.alloc ?_ hb.size _))
  all_goals
    rcases hv with ⟨a, rfl, rfl, rfl, rfl⟩ | ⟨a, _⟩ | ⟨a, _⟩ | ⟨a, _⟩
    case inr.inl => rw [hr] at a; cases a
    case inr.inr.inl => rw [hr] at a; cases a
    case inr.inr.inr => rw [hr] at a; cases a
    clear a
    go_enter Tryd.func10, Tryd.ntmps10
    go_wp2_with fail
    refine (awake_any _ (ht.later (by go_grown))).mono ?_; rintro e w1 ⟨rfl, hb1⟩
    have hD := Lib.hid (Box3.born hb1)
    have hb := below_box hb1
    clear hb1
    go_wp2_with fail
    refine (jswitch_any _ _).mono ?_; rintro e w2 ⟨rfl, hb2⟩
    have hD2 := Lib.hid (hD.out.later hb2)
    have hb := below_then hb hb2
    clear hb2 hD
    go_wp2_with fail
    refine (jmixed_any _ _ _ (ht.later (hb.alloc hb.size _))).mono ?_; rintro e w3 ⟨rfl, hb3⟩
    rw [v1H.out, v2H.out, v3H.out, v4H.out]
    have hF := Lib.hid (Box1.born hb3)
    have hD3 := Lib.hid (hD2.out.later (below_box hb3))
    have hb := below_then hb (below_box hb3)
    obtain ⟨fl, f0⟩ := hF.out
    obtain ⟨dl, c0, c1, c2, _, _, _⟩ := hD3.out
    clear hb3 hD2
    go_wp2_with fail
    refine (jmixday_any _ _ _ _ _ (ht.later (hb.alloc hb.size _))).mono ?_; rintro e w4 ⟨rfl, hb4⟩
    have hX := Lib.hid (Box3.born hb4)
    have hD4 := Lib.hid (hD3.out.later (below_box hb4))
    have hF4 := Lib.hid (hF.out.later (below_box hb4))
    have hb := below_then hb (below_box hb4)
    clear hb4 hD3 hF f0 c0 c1 c2 fl dl
    obtain ⟨dl, c0, c1, c2, _, _, _⟩ := hD4.out
    go_wp2_with fail
    refine (rmixday_any _ _ _ _ _ hy).mono ?_; rintro e w5 ⟨rfl, hb5⟩
    have hX5 := hX.out.later hb5
    have hF5 := hF4.out.later hb5
    have hb := below_then hb hb5
    obtain ⟨fl, f0⟩ := hF5
    obtain ⟨xl, x0, x1, x2, _, _, _⟩ := hX5
    clear hb5 hX hF4 hD4 c0 c1 c2 dl
    go_wp2
    go_ret
    exact ⟨by simp, hb⟩
end Go.Proofs.YtiacppcnballeaaDoor
