/- The walk of WeekNext, the good days. No conditions. -/
import Derived.Test.YtajpbajffmiceaaLaws3C
namespace Go.Proofs.Ytajpbajffmiceaa
open Go.ChangeShapes Go.WideShapes Go.ChangeAt Go.RowKit

set_option maxHeartbeats 1000000 in
theorem knext_good (f mi n : Int) (w : World) (q1 : decide (n < -719171) = false) (q2 : decide (n > 2932906) = false) (hn : -719171 ≤ n ∧ n ≤ 2932906) (Y K D Y' K' D' s c : Int)
    (v1 : Wk.ofY f mi n = Y) (v2 : Wk.ofW f mi n = K) (v3 : Wk.ofD f mi n = D) (v4 : Wk.ofE f mi n = 0)
    (u1 : Wk.ofY f mi (n + 1) = Y') (u2 : Wk.ofW f mi (n + 1) = K') (u3 : Wk.ofD f mi (n + 1) = D') (u4 : Wk.ofE f mi (n + 1) = 0)
    (t1 : Wk.stN f mi Y = s) (t2 : Wk.wkN f mi Y = c) (t3 : Wk.stE f mi Y = 0) (hR : Wk.NextRel f n Y K D Y' K' D' s c) :
    Calls Try.prog 5 #[.agg #[.int .i64 f, .int .i64 mi], .int .i64 n] w fun e w' => e = .returned (.bool true) ∧ Below w.heap.size w w' := by
  have hw : IntKind.i64.wrap (n + 1) = n + 1 := IntWalk.i64_in _ (by omega)
  obtain ⟨y1, y2, k1, k2, d1, d2, rfl, hc, s1, s2, s3, s4, hcase⟩ := hR
  have hm : D.tmod 7 = D % 7 := IntWalk.rem_in _ _ (by omega)
  have hw2 : IntKind.i64.wrap (D % 7 + 1) = D % 7 + 1 := IntWalk.i64_in _ (by omega)
  have hw3 : IntKind.i64.wrap (n - s) = n - s := IntWalk.i64_in _ (by omega)
  have hw4 : IntKind.i64.wrap (7 * c) = 7 * c := IntWalk.i64_in _ (by omega)
  have g1 : decide (s > n) = false := by simp; omega
  have g2 : decide (n - s ≥ 7 * c) = false := by simp; omega
  have hvH := Lib.hid (And.intro v1 (And.intro v2 (And.intro v3 v4)))
  have huH := Lib.hid (And.intro u1 (And.intro u2 (And.intro u3 u4)))
  have htH := Lib.hid (And.intro t1 (And.intro t2 t3))
  have hcH := Lib.hid hcase
  have hc2 := Lib.hid hc
  clear v1 v2 v3 v4 u1 u2 u3 u4 t1 t2 t3 hcase hc
  go_enter Try.func5, Try.ntmps5
  go_wp2_with fail
  refine (awake_any _).mono ?_; rintro e w1 ⟨rfl, hb1⟩
  have hD := Lib.hid (Box2.born hb1)
  have hb := below_box hb1
  obtain ⟨_, c0, c1⟩ := hD.out
  clear hb1
  go_wp2_with fail
  refine (kof_any _ _ _ _).mono ?_; rintro e w2 ⟨rfl, hb2⟩
  rw [hvH.out.1, hvH.out.2.1, hvH.out.2.2.1, hvH.out.2.2.2]
  have hD2 := Lib.hid (hD.out.later hb2)
  have hb := below_then hb hb2
  clear hb2 hD c0 c1
  obtain ⟨_, c0, c1⟩ := hD2.out
  go_wp2_with fail
  refine (kof_any _ _ _ _).mono ?_; rintro e w3 ⟨rfl, hb3⟩
  rw [huH.out.1, huH.out.2.1, huH.out.2.2.1, huH.out.2.2.2]
  have hE := Box3.new w3 (.int .i64 Y') (.int .i64 K') (.int .i64 (D % 7 + 1)) 26
  have hF := (Box3.born hb3).alloc (Obj.cells #[.int .i64 Y', .int .i64 K', .int .i64 (D % 7 + 1)] 26)
  have hG := (hD2.out.later (below_box hb3)).later ((Below.refl _ _).alloc (Nat.le_refl _) (Obj.cells #[.int .i64 Y', .int .i64 K', .int .i64 (D % 7 + 1)] 26))
  have hb := below_then hb (below_box hb3)
  have hb := hb.alloc hb.size (Obj.cells #[.int .i64 Y', .int .i64 K', .int .i64 (D % 7 + 1)] 26)
  clear hb3 hD2 c0 c1
  have hEH := Lib.hid hE
  have hFH := Lib.hid hF
  have hGH := Lib.hid hG
  obtain ⟨_, _, _, e2, _, _, _⟩ := hE
  obtain ⟨_, f0, f1, f2, _, _, _⟩ := hF
  obtain ⟨_, c0, c1⟩ := hG
  have hbH := Lib.hid hb
  clear hb
  go_wp2_with fail
  clear e2 f0 f1 f2 c0 c1
  have hb := hbH.out
  refine (kweeks_any _ _ _ _).mono ?_; rintro e w4 ⟨rfl, hb4⟩
  rw [htH.out.2.1, htH.out.2.2]
  have hE4 := Lib.hid (hEH.out.later hb4)
  have hF4 := Lib.hid (hFH.out.later hb4)
  have hG4 := Lib.hid (hGH.out.later hb4)
  have hb := below_then hb hb4
  clear hb4 hEH hFH hGH hbH
  obtain ⟨_, e0, e1, e2, _, _, _⟩ := hE4.out
  obtain ⟨_, f0, f1, f2, _, _, _⟩ := hF4.out
  obtain ⟨_, c0, c1⟩ := hG4.out
  go_wp2_with fail
  refine (kstart_any _ _ _ _).mono ?_; rintro e w5 ⟨rfl, hb5⟩
  rw [htH.out.1, htH.out.2.2]
  have hE5 := Lib.hid (hE4.out.later hb5)
  have hF5 := Lib.hid (hF4.out.later hb5)
  have hG5 := Lib.hid (hG4.out.later hb5)
  have hbZ := below_then hb hb5
  clear hb5 hE4 hF4 hG4 e0 e1 e2 f0 f1 f2 c0 c1 hvH huH htH
  obtain ⟨_, e0, e1, e2, _, _, _⟩ := hE5.out
  obtain ⟨_, f0, f1, f2, _, _, _⟩ := hF5.out
  obtain ⟨_, c0, c1⟩ := hG5.out
  clear hE5 hF5 hG5
  have hcase := hcH.out
  have hc := hc2.out
  clear hcH hc2
  rcases hcase with ⟨k, rfl, rfl⟩ | ⟨rfl, rfl, rfl, rfl⟩ | ⟨rfl, k, rfl, rfl⟩
  · have g3 : (D % 7 + 1 != f) = true := by simpa using k
    clear k
    rcases hc with rfl | rfl
    all_goals
      have g4 : decide (n - s ≥ 364) = false ∨ decide (n - s ≥ 371) = false := by first | exact Or.inl (by simp; omega) | exact Or.inr (by simp; omega)
      go_wp2
      go_ret
      exact ⟨by simp, hbZ⟩
  · have hw5 : IntKind.i64.wrap (Y + 1) = Y + 1 := IntWalk.i64_in _ (by omega)
    rcases hc with rfl | rfl
    all_goals
      go_wp2
      go_ret
      exact ⟨by simp, hbZ⟩
  · have g3 : (K == c) = false := by simpa using k
    have hw5 : IntKind.i64.wrap (K + 1) = K + 1 := IntWalk.i64_in _ (by omega)
    clear k
    rcases hc with rfl | rfl
    all_goals
      go_wp2
      go_ret
      exact ⟨by simp, hbZ⟩
end Go.Proofs.Ytajpbajffmiceaa
