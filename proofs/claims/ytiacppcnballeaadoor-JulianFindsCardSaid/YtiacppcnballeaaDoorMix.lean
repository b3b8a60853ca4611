/- Contracts of the reference's first, Fields and Offset of layer 5, of julian.Offset, Switch, Mixed and MixedDay, and of the reference's MixedDay. Condition: the table of lengths, where julian's functions read it. -/
import Derived.Test.YtiacppcnballeaaDoorRefG
import Derived.Test.YtiacppcnballeaaDoorJulDate
namespace Go.Proofs.YtiacppcnballeaaDoor
open Go.ChangeShapes Go.WideShapes Go.ChangeAt Go.RowKit

theorem rfirst_any (y : Int) (w : World) (h1 : 1 ≤ y) (h2 : y ≤ 9999) :
    Calls Tryd.prog 46 #[.int .i64 y] w fun e w' => e = .returned (.int .i64 (Cal.ysG y)) ∧ Below w.heap.size w w' := by
  have ho : Cal.okG y 1 1 := ⟨h1, h2, by omega, by omega, by omega, by have := Cal.lenG_bd y 1; omega⟩
  have hd : Cal.dayG y 1 1 = Cal.ysG y := by simp [Cal.dayG, Cal.cumG]
  go_enter Tryd.func46, Tryd.ntmps46
  go_wp2_with (go_at_call 45; refine (rgreg_yes _ _ _ _ ho).mono ?_; rintro e w1 ⟨rfl, hb⟩)
  go_ret
  exact ⟨ret_int rfl, hb⟩

/-- where the search for the year and the month stand -/
def FieldsEnd (n y m : Int) : Prop := 1 ≤ y ∧ y ≤ 9999 ∧ 1 ≤ m ∧ m ≤ 12 ∧ n < Cal.ysG (y + 1) ∧ (m < 12 → n < Cal.dayG y (m + 1) 1) ∧ Cal.ysG y ≤ n
theorem fields_ok {n y m : Int} (h : FieldsEnd n y m) (k : Cal.dayG y m 1 ≤ n) : Cal.okG y m (n - Cal.dayG y m 1 + 1) ∧ Cal.dayG y m (n - Cal.dayG y m 1 + 1) = n := by
  obtain ⟨h1, h2, h3, h4, h5, h6, h7⟩ := h
  have hy1 : Cal.dayG (y + 1) 1 1 = Cal.ysG (y + 1) := by simp [Cal.dayG, Cal.cumG]
  exact okEnd_of h1 h2 h3 h4 k hy1 (by omega) (by omega)
theorem fields_down {n y m : Int} (h : FieldsEnd n y m) (k : ¬ Cal.dayG y m 1 ≤ n) : FieldsEnd n y (m - 1) ∧ 1 < m := by
  obtain ⟨h1, h2, h3, h4, h5, h6, h7⟩ := h
  have h8 : 1 < m := by
    rcases (show 1 < m ∨ m = 1 by omega) with q | q
    · exact q
    · subst q; have : Cal.dayG y 1 1 = Cal.ysG y := by simp [Cal.dayG, Cal.cumG]
      omega
  exact ⟨⟨h1, h2, by omega, by omega, h5, fun _ => by rw [show m - 1 + 1 = m by omega]; omega, h7⟩, h8⟩
theorem fields_start {n : Int} (hi : Cal.inB n = true) : 1 ≤ Cal.yJ n ∧ Cal.yJ n ≤ 9999 ∧ n < Cal.ysG (Cal.yJ n + 1 + 1) ∧ -719162 ≤ n ∧ n < 2932897 := by
  obtain ⟨ho, hd⟩ := Cal.dtJ_spec hi
  have hb := (Cal.dayJ_bd ho).2
  rw [hd] at hb
  obtain ⟨i1, i2⟩ := Cal.inB_iff.1 hi
  refine ⟨ho.1, ho.2.1, ?_, i1, i2⟩
  have := ho.1
  generalize Cal.yJ n = y at *
  unfold Cal.ysJ at hb; unfold Cal.ysG; omega
def FieldsRel (w : World) (n y : Int) (wr : World) (g : Nat) : Prop := Below w.heap.size w wr ∧ Box3 wr w.heap.size (.int .i64 0) (.int .i64 0) (.int .i64 0) ∧ 1 ≤ y ∧ y ≤ 10000 ∧ n < Cal.ysG (y + 1) ∧ y.toNat ≤ g
def MonthRel (w : World) (n y m : Int) (wr : World) (g : Nat) : Prop := Below w.heap.size w wr ∧ Box3 wr w.heap.size (.int .i64 0) (.int .i64 0) (.int .i64 0) ∧ FieldsEnd n y m ∧ m.toNat ≤ g
set_option maxHeartbeats 1000000 in
theorem rfields_any (n : Int) (w : World) (hi : Cal.inB n = true) :
    Calls Tryd.prog 41 #[.int .i64 n] w fun e w' => e = .returned (.agg #[.int .i64 (Cal.yG n), .int .i64 (Cal.mG n), .int .i64 (Cal.aG n)]) ∧ Below w.heap.size w w' := by
  obtain ⟨y1, y2, y3, i1, i2⟩ := fields_start hi
  go_enter Tryd.func41, Tryd.ntmps41
  go_wp2_with (go_at_call 24; refine (rdate_any _ _).mono ?_; rintro e w1 ⟨rfl, hb1⟩)
  have hR := Box3.born hb1
  have hb := below_box hb1
  clear hb1
  go_loopg [5] 10001 (fun g t5 wr => ∃ y : Int, t5 = .int .i64 y ∧ FieldsRel w n y wr g)
  case atStart => exact ⟨Cal.yJ n + 1, rfl, hb.alloc hb.size _, hR.alloc _, by omega, by omega, y3, by omega⟩
  case round =>
    clear hR hb
    obtain ⟨y, rfl, hb, hR, h1, h2, h3, h4⟩ := hrel
    have hRH := Lib.hid hR
    by_cases hy : y ≤ 9999
    · by_cases hf : n < Cal.ysG y
      · have h5 : 2 ≤ y := by
          rcases (show 2 ≤ y ∨ y = 1 by omega) with q | q
          · exact q
          · subst q; simp [Cal.ysG] at hf; omega
        have h6 : n < Cal.ysG (y - 1 + 1) := by rw [show y - 1 + 1 = y by omega]; exact hf
        clear hR h3
        go_wp2_with (go_at_call 46; refine (rfirst_any _ _ h1 hy).mono ?_; rintro e w2 ⟨rfl, hb2⟩)
        go_roundg (gk - 1)
        case measure => omega
        case rel => exact ⟨y - 1, rfl, below_then hb hb2, hRH.out.later hb2, by omega, by omega, h6, by omega⟩
      · clear hR
        go_wp2_with (go_at_call 46; refine (rfirst_any _ _ h1 hy).mono ?_; rintro e w2 ⟨rfl, hb2⟩)
        have hR2 := hRH.out.later hb2
        have hbb := below_then hb hb2
        clear hb hb2 hRH
        go_loopg [6] 13 (fun g t6 wr => ∃ m : Int, t6 = .int .i64 m ∧ MonthRel w n y m wr g)
        case atStart => exact ⟨12, rfl, hbb, hR2, ⟨h1, hy, by omega, by omega, h3, by omega, by omega⟩, by omega⟩
        case round =>
          clear hR2 hbb
          obtain ⟨m, rfl, hb, hR, hE, hg⟩ := hrel
          have hEH := Lib.hid hE
          obtain ⟨_, _, m1, m2, _, _, _⟩ := hE
          have ho : Cal.okG y m 1 := ⟨h1, hy, m1, m2, by omega, by have := Cal.lenG_bd y m; omega⟩
          have hin := Cal.dayG_in ho
          have hoH := Lib.hid ho
          have hRH := Lib.hid hR
          clear ho hR
          by_cases hc : Cal.dayG y m 1 ≤ n
          · have hres := Lib.hid (Cal.dtG_eq hi (fields_ok hEH.out hc).1 (fields_ok hEH.out hc).2)
            go_wp2_with (go_at_call 45; refine (rgreg_yes _ _ _ _ hoH.out).mono ?_; rintro e w3 ⟨rfl, hb3⟩; have hR3 := hRH.out.later hb3; obtain ⟨_, r0, r1, r2, g0, g1, g2⟩ := hR3)
            obtain ⟨e1, e2, e3⟩ := hres.out
            rw [← e1, ← e2, ← e3]
            refine bodyPost_ret (v := .agg #[.int .i64 y, .int .i64 m, .int .i64 (n - Cal.dayG y m 1 + 1)]) (by simp [results, Tryd.results41, go_sem, r0, r1, r2]) rfl ⟨rfl, ?_⟩
            exact (below_then hb hb3).trans (by go_grown)
          · go_wp2_with (go_at_call 45; refine (rgreg_yes _ _ _ _ hoH.out).mono ?_; rintro e w3 ⟨rfl, hb3⟩)
            obtain ⟨q1, q2⟩ := fields_down hEH.out (by omega)
            go_roundg (gk - 1)
            case measure => omega
            case rel => exact ⟨m - 1, rfl, below_then hb hb3, hRH.out.later hb3, q1, by omega⟩
    · obtain rfl : y = 10000 := by omega
      clear hR
      go_wp2_with fail
      go_roundg (gk - 1)
      case measure => omega
      case rel => exact ⟨9999, rfl, hb, hRH.out, by omega, by omega, by rw [show Cal.ysG (9999 + 1) = 2932897 by decide]; omega, by omega⟩

theorem roffset_any (n : Int) (w : World) (hi : Cal.inB n = true) :
    Calls Tryd.prog 27 #[.int .i64 n] w fun e w' => e = .returned (.int .i64 (Cal.offJ n)) ∧ Below w.heap.size w w' := by
  obtain ⟨⟨y1, y2, _⟩, _⟩ := Cal.dtG_spec hi
  by_cases hm : Cal.mG n ≤ 2
  all_goals
    have ho : Cal.offJ n = (if Cal.mG n ≤ 2 then (Cal.yG n - 1) / 100 - (Cal.yG n - 1) / 400 - 2 else Cal.yG n / 100 - Cal.yG n / 400 - 2) := by simp [Cal.offJ, hi]
    first | rw [if_pos hm] at ho | rw [if_neg hm] at ho
    rw [ho]; clear ho
    go_enter Tryd.func27, Tryd.ntmps27
    go_wp2_with (first | (go_at_call 41; refine (rfields_any _ _ hi).mono ?_; rintro e w1 ⟨rfl, hb⟩) | (go_at_call 42; refine (rfloor_any _ _ _ (by omega) (by omega) (by omega) (by omega)).mono ?_; rintro e w' ⟨rfl, k, rfl⟩))
    go_ret
    exact ⟨rfl, below_drewN (hb.alloc hb.size _) _⟩

theorem joffset_any (n : Int) (w : World) :
    Calls Tryd.prog 25 #[.int .i64 n] w fun e w' => e = .returned (.tuple #[.int .i64 (Cal.offJ n), .int .i64 (Cal.inE n)]) ∧ Below w.heap.size w w' := by
  by_cases hi : Cal.inB n = true
  · obtain ⟨⟨y1, y2, _⟩, _⟩ := Cal.dtG_spec hi
    have hE : Cal.inE n = 0 := by simp [Cal.inE, hi]
    by_cases hm : Cal.mG n ≤ 2
    all_goals
      have ho : Cal.offJ n = (if Cal.mG n ≤ 2 then (Cal.yG n - 1) / 100 - (Cal.yG n - 1) / 400 - 2 else Cal.yG n / 100 - Cal.yG n / 400 - 2) := by simp [Cal.offJ, hi]
      first | rw [if_pos hm] at ho | rw [if_neg hm] at ho
      rw [ho, hE]; clear ho
      go_enter Tryd.func25, Tryd.ntmps25
      go_wp2_with (first | (go_at_call 26; refine (cdate_any _ _).mono ?_; rintro e w1 ⟨rfl, hb⟩) | (go_at_call 39; refine (floor_any _ _ _ (by omega) (by omega) (by omega) (by omega)).mono ?_; rintro e w' ⟨rfl, k, rfl⟩))
      go_ret2
      exact ⟨rfl, below_drewN (hb.alloc hb.size _) _⟩
  · have hE : Cal.inE n = 2 := by simp [Cal.inE, hi]
    have ho : Cal.offJ n = 0 := by simp [Cal.offJ, hi]
    rw [ho, hE]
    clear hi ho
    go_enter Tryd.func25, Tryd.ntmps25
    go_wp2_with (go_at_call 26; refine (cdate_any _ _).mono ?_; rintro e w1 ⟨rfl, hb⟩)
    go_ret2
    exact ⟨rfl, hb.alloc hb.size _⟩
end Go.Proofs.YtiacppcnballeaaDoor
