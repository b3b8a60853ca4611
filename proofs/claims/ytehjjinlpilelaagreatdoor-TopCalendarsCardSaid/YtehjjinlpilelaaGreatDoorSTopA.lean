/- Contracts of integer.Add and civil.AddMonths. No conditions but those on sizes. -/
import Derived.Deep.Cut
import Derived.Deep.CutRange
import Derived.Deep.RegionHeld3
import Derived.Test.YtehjjinlpilelaaGreatDoorMb
import Derived.Test.YtehjjinlpilelaaGreatDoorSCivil
namespace Go.Proofs.YtehjjinlpilelaaGreatDoor
open Go.ChangeShapes Go.WideShapes Go.ChangeAt Go.RowKit

theorem iadd_any (a b : Int) (w : World) (a1 : -1000000000000 ≤ a) (a2 : a ≤ 1000000000000) (b1 : -1000000000000 ≤ b) (b2 : b ≤ 1000000000000) :
    Calls Tryz.prog 40 #[.int .i64 a, .int .i64 b] w fun e w' => e = .returned (.tuple #[.int .i64 (a + b), .int .i64 0]) ∧ w = w' := by
  by_cases ha : 0 ≤ a
  · by_cases hb : 0 ≤ b
    · have hs : 0 ≤ a + b := by omega
      go_enter Tryz.func40, Tryz.ntmps40
      go_wp2
      go_ret2
      exact ⟨rfl, rfl⟩
    · go_enter Tryz.func40, Tryz.ntmps40
      go_wp2
      go_ret2
      exact ⟨rfl, rfl⟩
  · by_cases hb : 0 ≤ b
    · go_enter Tryz.func40, Tryz.ntmps40
      go_wp2
      go_ret2
      exact ⟨rfl, rfl⟩
    · have hs : ¬ 0 ≤ a + b := by omega
      go_enter Tryz.func40, Tryz.ntmps40
      go_wp2
      go_ret2
      exact ⟨rfl, rfl⟩
/-- what AddMonths gives for a valid date -/
def amE (y m n : Int) : Int := if 1 ≤ (12 * y + m - 1 + n) / 12 ∧ (12 * y + m - 1 + n) / 12 ≤ 9999 then 0 else 2
def amY (y m n : Int) : Int := if amE y m n = 0 then (12 * y + m - 1 + n) / 12 else 0
def amM (y m n : Int) : Int := if amE y m n = 0 then (12 * y + m - 1 + n) % 12 + 1 else 0
def amD (y m d n : Int) : Int := if amE y m n = 0 then (if d ≤ Cal.lenG ((12 * y + m - 1 + n) / 12) ((12 * y + m - 1 + n) % 12 + 1) then d else Cal.lenG ((12 * y + m - 1 + n) / 12) ((12 * y + m - 1 + n) % 12 + 1)) else 0
set_option maxHeartbeats 4000000 in
theorem caddm_any (y m d n : Int) (w : World) (hv : Cal.okGb y m d = true) (n1 : -32768 ≤ n) (n2 : n ≤ 32767) :
    Calls Tryz.prog 7 #[.agg #[.int .i64 y, .int .i64 m, .int .i64 d], .int .i64 n] w fun e w' => e = .returned (.tuple #[.agg #[.int .i64 (amY y m n), .int .i64 (amM y m n), .int .i64 (amD y m d n)], .int .i64 (amE y m n)]) ∧ Below w.heap.size w w' := by
  obtain ⟨h1, h2, h3, h4, h5, h6⟩ := Cal.okGb_iff.1 hv
  have hlb := Cal.lenG_bd y m
  have hvH := Lib.hid hv
  clear hv
  have K1 : -50000 ≤ 12 * y + m - 1 + n ∧ 12 * y + m - 1 + n ≤ 200000 := by omega
  by_cases hy : 1 ≤ (12 * y + m - 1 + n) / 12 ∧ (12 * y + m - 1 + n) / 12 ≤ 9999
  · have eE : amE y m n = 0 := by unfold amE; rw [if_pos hy]
    have eY : amY y m n = (12 * y + m - 1 + n) / 12 := by unfold amY; rw [if_pos eE]
    have eM : amM y m n = (12 * y + m - 1 + n) % 12 + 1 := by unfold amM; rw [if_pos eE]
    have eD : amD y m d n = if d ≤ Cal.lenG ((12 * y + m - 1 + n) / 12) ((12 * y + m - 1 + n) % 12 + 1) then d else Cal.lenG ((12 * y + m - 1 + n) / 12) ((12 * y + m - 1 + n) % 12 + 1) := by unfold amD; rw [if_pos eE]
    have hc : Cal.lenGc ((12 * y + m - 1 + n) / 12) ((12 * y + m - 1 + n) % 12 + 1) = Cal.lenG ((12 * y + m - 1 + n) / 12) ((12 * y + m - 1 + n) % 12 + 1) := by unfold Cal.lenGc; rw [if_pos ⟨hy.1, hy.2, by omega, by omega⟩]
    have eH := Lib.hid (And.intro eE (And.intro eY (And.intro eM eD)))
    have hcH := Lib.hid hc
    clear eE eY eM eD hc
    have hyB : (decide (1 ≤ (12 * y + m - 1 + n) / 12) && decide ((12 * y + m - 1 + n) / 12 ≤ 9999)) = true := by simp [hy.1, hy.2]
    go_enter Tryz.func7, Tryz.ntmps7
    go_wp2_with fail
    refine (cvalid_any _ _ _ _).mono ?_; rintro e w1 ⟨rfl, hb1⟩
    rw [hvH.out]
    have hD := Lib.hid (((Box3.new w (.int .i64 y) (.int .i64 m) (.int .i64 d) 25).alloc (Obj.cells #[.int .i64 0, .int .i64 0, .int .i64 0] 25)).later hb1)
    have hR : Hid (Box3 w1 (w.heap.size + 1) (.int .i64 0) (.int .i64 0) (.int .i64 0)) := Lib.hid (by have := Box3.born hb1; simpa using this)
    have hb := below_box (below_box hb1)
    clear hb1
    obtain ⟨lt, c0, c1, c2, _, _, _⟩ := hD.out
    obtain ⟨rt, r0, r1, r2, x0, x1, x2⟩ := hR.out
    go_wp2_with (first | (go_at_call 40; refine (iadd_any _ _ _ (by omega) (by omega) (by omega) (by omega)).mono ?_; rintro e w' ⟨rfl, rfl⟩) | (go_at_call 34; refine (floor_any _ _ _ (by omega) (by omega) (by omega) (by omega)).mono ?_; rintro e w' ⟨rfl, kd, rfl⟩) | (go_at_call 42; refine (mod_any _ _ _ (by omega) (by omega) (by omega) (by omega)).mono ?_; rintro e w' ⟨rfl, kd, rfl⟩) | (go_at_call 41; refine (cyear_any _ _).mono ?_; rintro e w' ⟨rfl, rfl⟩))
    obtain ⟨LN, hLN⟩ : ∃ LN, Cal.lenGc ((12 * y + m - 1 + n) / 12) ((12 * y + m - 1 + n) % 12 + 1) = LN := ⟨_, rfl⟩
    have hLNH := Lib.hid hLN
    clear hLN
    by_cases hmin : d ≤ LN
    · go_region_with (first | (go_at_call 43; refine (clength_any _ _ _).mono ?_; rintro e w' ⟨rfl, rfl⟩; rw [hLNH.out]))
      all_goals
        go_wp2_with fail
        have R3 := fun k => ((((hR.out.drewN k).set0 (.int .i64 ((12 * y + m - 1 + n) / 12))).set1 (.int .i64 ((12 * y + m - 1 + n) % 12 + 1))).set2 (.int .i64 d))
        have z0 := fun k => (R3 k).c0
        have z1 := fun k => (R3 k).c1
        have z2 := fun k => (R3 k).c2
        exact bodyPost_ret (v := .tuple #[.agg #[.int .i64 ((12 * y + m - 1 + n) / 12), .int .i64 ((12 * y + m - 1 + n) % 12 + 1), .int .i64 d], .int .i64 0]) (by simp [results, Tryz.results7, go_sem, z0, z1, z2]) rfl ⟨by rw [eH.out.1, eH.out.2.1, eH.out.2.2.1, eH.out.2.2.2, ← hcH.out, hLNH.out, if_pos hmin], (((below_drewN hb _).setCell (by simp) _).setCell (by simp) _).setCell (by simp) _⟩
    · go_region_with (first | (go_at_call 43; refine (clength_any _ _ _).mono ?_; rintro e w' ⟨rfl, rfl⟩; rw [hLNH.out]))
      all_goals
        go_wp2_with fail
        have R3 := fun k => ((((hR.out.drewN k).set0 (.int .i64 ((12 * y + m - 1 + n) / 12))).set1 (.int .i64 ((12 * y + m - 1 + n) % 12 + 1))).set2 (.int .i64 LN))
        have z0 := fun k => (R3 k).c0
        have z1 := fun k => (R3 k).c1
        have z2 := fun k => (R3 k).c2
        exact bodyPost_ret (v := .tuple #[.agg #[.int .i64 ((12 * y + m - 1 + n) / 12), .int .i64 ((12 * y + m - 1 + n) % 12 + 1), .int .i64 LN], .int .i64 0]) (by simp [results, Tryz.results7, go_sem, z0, z1, z2]) rfl ⟨by rw [eH.out.1, eH.out.2.1, eH.out.2.2.1, eH.out.2.2.2, ← hcH.out, hLNH.out, if_neg (show ¬ d ≤ LN by omega)], (((below_drewN hb _).setCell (by simp) _).setCell (by simp) _).setCell (by simp) _⟩
  · have eE : amE y m n = 2 := by unfold amE; rw [if_neg hy]
    have e2 : ¬ amE y m n = 0 := by rw [eE]; decide
    have eY : amY y m n = 0 := by unfold amY; rw [if_neg e2]
    have eM : amM y m n = 0 := by unfold amM; rw [if_neg e2]
    have eD : amD y m d n = 0 := by unfold amD; rw [if_neg e2]
    rw [eE, eY, eM, eD]
    have hyd : decide (1 ≤ (12 * y + m - 1 + n) / 12 ∧ (12 * y + m - 1 + n) / 12 ≤ 9999) = false := decide_eq_false hy
    have hydH := Lib.hid hyd
    clear eE e2 eY eM eD hy hyd
    go_enter Tryz.func7, Tryz.ntmps7
    go_wp2_with fail
    refine (cvalid_any _ _ _ _).mono ?_; rintro e w1 ⟨rfl, hb1⟩
    rw [hvH.out]
    have hD := Lib.hid (((Box3.new w (.int .i64 y) (.int .i64 m) (.int .i64 d) 25).alloc (Obj.cells #[.int .i64 0, .int .i64 0, .int .i64 0] 25)).later hb1)
    have hR : Hid (Box3 w1 (w.heap.size + 1) (.int .i64 0) (.int .i64 0) (.int .i64 0)) := Lib.hid (by have := Box3.born hb1; simpa using this)
    have hb := below_box (below_box hb1)
    clear hb1
    obtain ⟨lt, c0, c1, c2, _, _, _⟩ := hD.out
    obtain ⟨rt, r0, r1, r2, x0, x1, x2⟩ := hR.out
    go_wp2_with (first | (go_at_call 40; refine (iadd_any _ _ _ (by omega) (by omega) (by omega) (by omega)).mono ?_; rintro e w' ⟨rfl, rfl⟩) | (go_at_call 34; refine (floor_any _ _ _ (by omega) (by omega) (by omega) (by omega)).mono ?_; rintro e w' ⟨rfl, kd, rfl⟩) | (go_at_call 41; refine (cyear_any _ _).mono ?_; rintro e w' ⟨rfl, rfl⟩; rw [hydH.out]))
    have R3 := fun k => ((((hR.out.drewN k).set0 (.int .i64 0)).set1 (.int .i64 0)).set2 (.int .i64 0))
    have z0 := fun k => (R3 k).c0
    have z1 := fun k => (R3 k).c1
    have z2 := fun k => (R3 k).c2
    exact bodyPost_ret (v := .tuple #[.agg #[.int .i64 0, .int .i64 0, .int .i64 0], .int .i64 2]) (by simp [results, Tryz.results7, go_sem, z0, z1, z2]) rfl ⟨rfl, (((below_drewN hb _).setCell (by simp) _).setCell (by simp) _).setCell (by simp) _⟩
end Go.Proofs.YtehjjinlpilelaaGreatDoor
