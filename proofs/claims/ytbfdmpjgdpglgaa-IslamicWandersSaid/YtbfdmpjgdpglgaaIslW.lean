/- The walks of IslamicMoved and IslamicWanders. No conditions. -/
import Derived.Test.YtbfdmpjgdpglgaaIslT
import Derived.Test.YtbfdmpjgdpglgaaIslU
import Derived.Test.YtbfdmpjgdpglgaaIslV
import Derived.Test.YtbfdmpjgdpglgaaEqI
import Derived.Test.YtbfdmpjgdpglgaaLaws6C
namespace Isl
open Cal
theorem MoBad_ne {k m d g E : Int} (h : MoBad k m d g E) : (E != 0) = true := by
  rcases h with ⟨_, rfl⟩ | ⟨_, rfl, _⟩ | ⟨_, rfl, _⟩ <;> rfl
/-- the days of the list, looked at -/
theorem wan_get {k m d g : Int} (_hk : kB k = true) (g1 : 1 ≤ g) (g2 : g ≤ 9999) {i : Nat} (h : i < (ML k m d (ysG g) (ysG (g + 1) - 1)).length) :
    ∃ x, (ML k m d (ysG g) (ysG (g + 1) - 1)).getD i 0 = x ∧ dtE k x = 0 ∧ mI k x = m ∧ aI k x = d ∧ inE x = 0 ∧ yG x = g := by
  obtain ⟨x, e, a, b, y, ho, hx⟩ := ML_get h
  obtain ⟨_, f2, f3, f4, f5⟩ := forth ho
  have hn : dayN k y m d = x := by rw [hx]; simp [dayN, ho]
  rw [hn] at f2 f3 f4 f5
  have b1 := ysG_bd g1 (show g ≤ 10000 by omega); have b2 := ysG_bd (y := g + 1) (by omega) (by omega)
  have hi : inB x = true := inB_iff.2 ⟨by omega, by omega⟩
  obtain ⟨o1, o2⟩ := dtG_spec hi
  have ob := dayG_bd o1
  rw [o2] at ob
  have hy : yG x = g := by
    rcases Int.lt_trichotomy (yG x) g with q | q | q
    · have := ysG_lt q; omega
    · exact q
    · have := ysG_lt q; omega
  exact ⟨x, e, f5, f3, f4, by simp [inE, hi], hy⟩
theorem wan_up {k m d fr «to» : Int} (hk : kB k = true) {i : Nat} (h : i + 1 < (ML k m d fr «to»).length) : (ML k m d fr «to»).getD i 0 < (ML k m d fr «to»).getD (i + 1) 0 := by
  have := ml_up (m := m) (d := d) (fr := fr) («to» := «to») (lo := 1) hk 9600 i h
  unfold ML; omega
/-- a date of the calendar has a month and a day that Moved takes -/
theorem own_ok {k n : Int} (hk : kB k = true) (hr : rB k n = true) : 1 ≤ mI k n ∧ mI k n ≤ 12 ∧ 1 ≤ aI k n ∧ aI k n ≤ 30 ∧ (aI k n < 30 ∨ (aI k n = 30 ∧ mI k n % 2 = 1) ∨ (aI k n = 30 ∧ mI k n = 12)) := by
  obtain ⟨ho, _⟩ := dt_spec hk hr
  obtain ⟨_, _, m1, m2, a1, a2⟩ := ho
  have hb := len_bd k (yI k n) (mI k n)
  refine ⟨m1, m2, a1, by omega, ?_⟩
  by_cases h : aI k n < 30
  · exact Or.inl h
  · have e : aI k n = 30 := by omega
    rw [e] at a2
    unfold len at a2
    split at a2
    · rename_i q; exact Or.inr (Or.inl ⟨e, q⟩)
    · split at a2
      · rename_i q; exact Or.inr (Or.inr ⟨e, q.1⟩)
      · omega
end Isl
namespace Go.Proofs.Ytbfdmpjgdpglgaa
open Go.ChangeShapes Go.WideShapes Go.ChangeAt Go.RowKit

set_option maxHeartbeats 2000000 in
theorem wIslamicMoved (k y m d g : Int) (w : World) (_hk : -9223372036854775808 ≤ k ∧ k ≤ 9223372036854775807) (_hy : -9223372036854775808 ≤ y ∧ y ≤ 9223372036854775807) (_hm : -9223372036854775808 ≤ m ∧ m ≤ 9223372036854775807) (_hd : -9223372036854775808 ≤ d ∧ d ≤ 9223372036854775807) (_hg : -9223372036854775808 ≤ g ∧ g ≤ 9223372036854775807) :
    Calls Try.prog 10 #[.int .i64 k, .agg #[.int .i64 y, .int .i64 m, .int .i64 d], .int .i64 g] w fun e w' => e = .returned (.bool true) ∧ Below w.heap.size w w' := by
  rcases Isl.mo_ways k m d g with ⟨h, _⟩ | ⟨_, _, hk, m1, m2, d1, d2, g1, g2, hmd⟩
  · generalize Isl.moE k m d g = E at h
    have hI := Lib.hid (fun w => imoved_bad k y m d g E w h)
    have hJ := Lib.hid (fun w => rmoved_bad k y m d g E w h)
    clear h
    go_enter Try.func10, Try.ntmps10
    go_wp2_with fail
    refine (awake_any _).mono ?_; rintro e w1 ⟨rfl, hb1⟩
    have hD := Lib.hid (Box3.born hb1)
    have hb := below_box hb1
    clear hb1
    obtain ⟨_, c0, c1, c2, _, _, _⟩ := hD.out
    go_wp2_with fail
    refine (hI.out _).mono ?_; rintro e w2 ⟨rfl, hb2⟩
    have hD2 := Lib.hid (hD.out.later hb2)
    have hb := below_then hb hb2
    clear hb2 hD c0 c1 c2
    obtain ⟨_, c0, c1, c2, _, _, _⟩ := hD2.out
    go_wp2_with fail
    refine (hJ.out _).mono ?_; rintro e w3 ⟨rfl, hb3⟩
    have hb := below_then hb hb3
    clear hb3 hD2 c0 c1 c2
    go_wp2_with (go_at_call 32; refine (equal_ints _ _ [] _ (Or.inl ⟨rfl, rfl⟩) (Or.inl ⟨rfl, rfl⟩) (by simp)).mono ?_; rintro e w4 ⟨rfl, hb4⟩)
    go_ret
    exact ⟨by simp, below_then hb hb4⟩
  · have hI := Lib.hid (fun w => imoved_good k y m d g w hk m1 m2 d1 d2 g1 g2 hmd)
    have hJ := Lib.hid (fun w => rmoved_good k y m d g w hk m1 m2 d1 d2 g1 g2 hmd)
    have hlen : (Isl.ML k m d (Cal.ysG g) (Cal.ysG (g + 1) - 1)).length ≤ 2 := Isl.ML_two hk (by have := Cal.ysG_succ g; have := Cal.lg_01 g; omega)
    generalize Isl.ML k m d (Cal.ysG g) (Cal.ysG (g + 1) - 1) = L at *
    clear hmd
    have hlenH := Lib.hid hlen
    clear hlen
    go_enter Try.func10, Try.ntmps10
    go_wp2_with fail
    refine (awake_any _).mono ?_; rintro e w1 ⟨rfl, hb1⟩
    have hD := Lib.hid (Box3.born hb1)
    have hb := below_box hb1
    clear hb1
    obtain ⟨_, c0, c1, c2, _, _, _⟩ := hD.out
    go_wp2_with fail
    refine (hI.out _).mono ?_; rintro e w2 ⟨v1, rfl, hO1, hb2⟩
    have hs1 := Lib.hid hO1.shape
    have hD2 := Lib.hid (hD.out.later hb2)
    have hb := below_then hb hb2
    clear hb2 hD c0 c1 c2 hO1
    obtain ⟨_, c0, c1, c2, _, _, _⟩ := hD2.out
    go_wp2_with fail
    refine (hJ.out _).mono ?_; rintro e w3 ⟨v2, rfl, hO2, hb3⟩
    have hs2 := Lib.hid hO2.shape
    have hs3 := Lib.hid (hs1.out.later hb3)
    have hb := below_then hb hb3
    clear hb3 hD2 c0 c1 c2 hO2 hs1
    go_wp2_with (go_at_call 32; refine (equal_ints _ _ L _ hs3.out hs2.out (by have := hlenH.out; omega)).mono ?_; rintro e w4 ⟨rfl, hb4⟩)
    go_ret
    exact ⟨by simp, below_then hb hb4⟩
end Go.Proofs.Ytbfdmpjgdpglgaa
