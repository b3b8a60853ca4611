/- The walks of IslamicDays, IslamicKinds, IslamicLengths and IslamicCycle. No conditions. -/
import Derived.Test.YtbfdmpjgdpglgaaIslS
namespace Isl
theorem cnt_near : ∀ a ∈ [(1 : Int), 2, 3, 4], ∀ b ∈ [(1 : Int), 2, 3, 4], ∀ r ∈ List.range 30, cnt (leapsL a) ((r : Int) + 1) - cnt (leapsL b) ((r : Int) + 1) ≤ 1 := by decide +kernel
theorem kmem {k : Int} (h : kB k = true) : k ∈ [(1 : Int), 2, 3, 4] := by rcases kinds h with rfl | rfl | rfl | rfl <;> simp
theorem first_near {a b : Int} (ha : kB a = true) (hb : kB b = true) (y : Int) : first a y - first b y ≤ 1 := by
  have h := cnt_near a (kmem ha) b (kmem hb) ((y - 1) % 30).toNat (by simp; omega)
  rw [show (((y - 1) % 30).toNat : Int) = (y - 1) % 30 by omega] at h
  unfold first place; omega
theorem first_cyc {k : Int} (hk : kB k = true) (y : Int) : first k (y - (y - 1) % 30) = -492148 + (y - 1) / 30 * 10631 := by
  have := cnt_1 hk
  unfold first place
  rw [show (y - (y - 1) % 30 - 1) % 30 = 0 by omega, show (y - (y - 1) % 30 - 1) / 30 = (y - 1) / 30 by omega]
  simp [this]
theorem first_30 (k y : Int) : first k (y + 30) = first k y + 10631 := by
  unfold first place
  rw [show (y + 30 - 1) % 30 = (y - 1) % 30 by omega, show (y + 30 - 1) / 30 = (y - 1) / 30 + 1 by omega]; omega
theorem lp_30 (k y : Int) : lp k (y + 30) = lp k y := by unfold lp place; rw [show (y + 30 - 1) % 30 = (y - 1) % 30 by omega]
theorem ylen_lp (k y : Int) : ylen k y = 354 + (if lp k y then 1 else 0) := by unfold ylen; split <;> rfl
end Isl
namespace Go.Proofs.Ytbfdmpjgdpglgaa
open Go.ChangeShapes Go.WideShapes Go.ChangeAt Go.RowKit

set_option maxHeartbeats 400000 in
theorem awake_any (w : World) :
    Calls Try.prog 12 #[] w fun e w' => e = .returned (.bool true) ∧ Below w.heap.size w w' := by
  have a1 : Isl.newN 1 1445 = 19557 := by decide +kernel
  have a2 : Isl.newE 1 1445 = 0 := by decide +kernel
  have a3 : Isl.dayN 1 1445 9 1 = 19793 := by decide +kernel
  have a4 : Isl.dayE 1 1445 9 1 = 0 := by decide +kernel
  have hr : Isl.rB 1 19793 = true := by decide +kernel
  have a5 : Isl.dtE 1 19793 = 0 := by decide +kernel
  have a6 : Isl.leap 1 1445 = true := by decide +kernel
  obtain ⟨e1, e2, e3⟩ := Isl.dt_eq hr (Isl.okb_iff.1 (show Isl.okb 1 1445 9 1 = true by decide +kernel)) (show Isl.day 1 1445 9 1 = 19793 by decide +kernel)
  replace e1 := e1.symm; replace e2 := e2.symm; replace e3 := e3.symm
  clear hr
  go_enter Try.func12, Try.ntmps12
  go_wp2_with fail
  refine (inew_any _ _ _).mono ?_; rintro e w1 ⟨rfl, hb⟩
  go_wp2_with fail
  refine (iday_any _ _ _ _ _).mono ?_; rintro e w2 ⟨rfl, hb2⟩
  have hb := below_then hb hb2
  go_wp2_with fail
  refine (idate_any _ _ _).mono ?_; rintro e w3 ⟨rfl, hb3⟩
  have hb := below_then hb hb3
  rw [e1, e2, e3]
  go_wp2_with fail
  refine (ileap_any _ _ _).mono ?_; rintro e w4 ⟨rfl, hb4⟩
  go_wp2
  go_ret
  exact ⟨rfl, below_then hb (below_box hb4)⟩

set_option maxHeartbeats 1000000 in
theorem wIslamicDays (k y m d n : Int) (w : World) (_hk : -9223372036854775808 ≤ k ∧ k ≤ 9223372036854775807) (_hy : -9223372036854775808 ≤ y ∧ y ≤ 9223372036854775807) (_hm : -9223372036854775808 ≤ m ∧ m ≤ 9223372036854775807) (_hd : -9223372036854775808 ≤ d ∧ d ≤ 9223372036854775807) (_hn : -9223372036854775808 ≤ n ∧ n ≤ 9223372036854775807) :
    Calls Try.prog 3 #[.int .i64 k, .agg #[.int .i64 y, .int .i64 m, .int .i64 d], .int .i64 n] w fun e w' => e = .returned (.bool true) ∧ Below w.heap.size w w' := by
  go_enter Try.func3, Try.ntmps3
  go_wp2_with fail
  refine (awake_any _).mono ?_; rintro e w1 ⟨rfl, hb1⟩
  have hD := Lib.hid (Box3.born hb1)
  have hb := below_box hb1
  obtain ⟨_, c0, c1, c2, _, _, _⟩ := hD.out
  clear hb1
  go_wp2_with fail
  refine (inew_any _ _ _).mono ?_; rintro e w2 ⟨rfl, hb2⟩
  have hD2 := Lib.hid (hD.out.later hb2)
  have hb := below_then hb hb2
  clear hb2 hD c0 c1 c2
  obtain ⟨_, c0, c1, c2, _, _, _⟩ := hD2.out
  go_wp2_with fail
  refine (rnew_any _ _ _).mono ?_; rintro e w3 ⟨rfl, hb3⟩
  have hD3 := Lib.hid (hD2.out.later hb3)
  have hb := below_then hb hb3
  clear hb3 hD2 c0 c1 c2
  obtain ⟨_, c0, c1, c2, _, _, _⟩ := hD3.out
  go_wp2_with fail
  refine (iday_any _ _ _ _ _).mono ?_; rintro e w4 ⟨rfl, hb4⟩
  have hD4 := Lib.hid (hD3.out.later hb4)
  have hb := below_then hb hb4
  clear hb4 hD3 c0 c1 c2
  obtain ⟨_, c0, c1, c2, _, _, _⟩ := hD4.out
  go_wp2_with fail
  refine (rdayi_any _ _ _ _ _).mono ?_; rintro e w5 ⟨rfl, hb5⟩
  have hb := below_then hb hb5
  clear hb5 hD4 c0 c1 c2
  go_wp2_with fail
  refine (idate_any _ _ _).mono ?_; rintro e w6 ⟨rfl, hb6⟩
  have hb := below_then hb hb6
  clear hb6
  go_wp2_with fail
  refine (rdatei_any _ _ _).mono ?_; rintro e w7 ⟨rfl, hb7⟩
  obtain ⟨_, x0, x1, x2, _, _, _⟩ := Box3.born hb7
  have hb := below_then hb (below_box hb7)
  clear hb7
  go_wp2
  go_ret
  exact ⟨by simp, hb.alloc hb.size _⟩

set_option maxHeartbeats 1000000 in
theorem wIslamicLengths (k y m : Int) (w : World) (_hk : -9223372036854775808 ≤ k ∧ k ≤ 9223372036854775807) (_hy : -9223372036854775808 ≤ y ∧ y ≤ 9223372036854775807) (_hm : -9223372036854775808 ≤ m ∧ m ≤ 9223372036854775807) :
    Calls Try.prog 6 #[.int .i64 k, .int .i64 y, .int .i64 m] w fun e w' => e = .returned (.bool true) ∧ Below w.heap.size w w' := by
  go_enter Try.func6, Try.ntmps6
  go_wp2_with fail
  refine (awake_any _).mono ?_; rintro e w1 ⟨rfl, hb⟩
  go_wp2_with (first | (go_at_call 20; refine (ivalid_any _ _).mono ?_; rintro e w' ⟨rfl, rfl⟩) | (go_at_call 21; refine (rvalidk_any _ _).mono ?_; rintro e w' ⟨rfl, rfl⟩) | (go_at_call 22; refine (ileap_any _ _ _).mono ?_; rintro e w2 ⟨rfl, hb2⟩) | (go_at_call 23; refine (rleapi_any _ _ _).mono ?_; rintro e w3 ⟨rfl, hb3⟩) | (go_at_call 19; refine (ilength_any _ _ _ _).mono ?_; rintro e w4 ⟨rfl, hb4⟩) | (go_at_call 24; refine (rlengthi_any _ _ _ _).mono ?_; rintro e w5 ⟨rfl, hb5⟩) | (go_at_call 25; refine (iylen_any _ _ _).mono ?_; rintro e w6 ⟨rfl, hb6⟩) | (go_at_call 26; refine (rylen_any _ _ _).mono ?_; rintro e w7 ⟨rfl, hb7⟩))
  go_ret
  exact ⟨by simp, below_then hb (below_then hb2 (below_then hb3 (below_then hb4 (below_then hb5 (below_then hb6 hb7)))))⟩

theorem kinds_ways (a b y m d : Int) : (Isl.dayE a y m d != 0) = true ∨ ((Isl.dayE a y m d = 0) ∧ (Isl.dayE b y m d != 0) = true) ∨ (Isl.dayE a y m d = 0 ∧ Isl.dayE b y m d = 0 ∧ Isl.dayN a y m d - Isl.dayN b y m d ≤ 1 ∧ Isl.dayN b y m d - Isl.dayN a y m d ≤ 1 ∧ -492148 ≤ Isl.dayN a y m d ∧ Isl.dayN a y m d ≤ 3000000 ∧ -492148 ≤ Isl.dayN b y m d ∧ Isl.dayN b y m d ≤ 3000000) := by
  by_cases h1 : Isl.okb a y m d = true
  · by_cases h2 : Isl.okb b y m d = true
    · refine Or.inr (Or.inr ⟨by simp [Isl.dayE, h1], by simp [Isl.dayE, h2], ?_⟩)
      have o1 := Isl.okb_iff.1 h1
      have o2 := Isl.okb_iff.1 h2
      have n1 := Isl.first_near o1.1 o2.1 y
      have n2 := Isl.first_near o2.1 o1.1 y
      have hy := Isl.yB_iff.1 o1.2.1
      have b1 := Isl.first_bd o1.1 hy.1 (by omega)
      have b2 := Isl.first_bd o2.1 hy.1 (by omega)
      have l1 := Isl.len_bd a y m
      obtain ⟨_, _, m1, m2, d1, d2⟩ := o1
      have hbf : 0 ≤ Isl.before m ∧ Isl.before m ≤ 355 := by unfold Isl.before; omega
      have e1 : Isl.dayN a y m d = Isl.day a y m d := by simp [Isl.dayN, h1]
      have e2 : Isl.dayN b y m d = Isl.day b y m d := by simp [Isl.dayN, h2]
      rw [e1, e2]; unfold Isl.day; omega
    · exact Or.inr (Or.inl ⟨by simp [Isl.dayE, h1], by simp [Isl.dayE, h2]⟩)
  · exact Or.inl (by simp [Isl.dayE, h1])
end Go.Proofs.Ytbfdmpjgdpglgaa
