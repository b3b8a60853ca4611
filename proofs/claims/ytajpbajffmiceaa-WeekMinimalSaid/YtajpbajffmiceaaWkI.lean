/- The walk of WeekMinimal. No conditions. -/
import Derived.Test.YtajpbajffmiceaaWkD
import Derived.Deep.LoopGhost
namespace Wk
open Cal
theorem min_facts {f mi y : Int} (hr : rB f mi = true) (hy : yB y = true) : stN f mi y = bg f mi y ∧ stE f mi y = 0 ∧ wkN f mi y = wks f mi y ∧ dayGn y 1 1 = ysG y ∧ dayGe y 1 1 = 0 := by
  obtain ⟨y1, y2⟩ := yB_iff.1 hy
  have hok : okGb y 1 1 = true := okGb_iff.2 ⟨y1, y2, by omega, by omega, by omega, by have := lenG_bd y 1; omega⟩
  have hd : dayG y 1 1 = ysG y := by unfold dayG cumG; simp
  simp [stN, stE, wkN, hr, hy, dayGn, dayGe, hok, hd]
theorem st_ways (f mi y : Int) : (rB f mi = false ∧ (stE f mi y != 0) = true) ∨ (rB f mi = true ∧ yB y = false ∧ (stE f mi y != 0) = true ∧ (y < 1 ∨ (¬ y < 1 ∧ 9999 < y))) ∨ (rB f mi = true ∧ yB y = true) := by
  cases hr : rB f mi
  · exact Or.inl ⟨rfl, by simp [stE, hr]⟩
  · cases hy : yB y
    · refine Or.inr (Or.inl ⟨rfl, rfl, by simp [stE, hr, hy], ?_⟩)
      have : ¬ (1 ≤ y ∧ y ≤ 9999) := fun q => by rw [yB_iff.2 q] at hy; cases hy
      omega
    · exact Or.inr (Or.inr ⟨rfl, rfl⟩)
end Wk
namespace Go.Proofs.Ytajpbajffmiceaa
open Go.ChangeShapes Go.WideShapes Go.ChangeAt Go.RowKit

def MinRel (w wr : World) (f mi : Int) (p : Prop) : Prop := Below w.heap.size w wr ∧ Box2 wr w.heap.size (.int .i64 f) (.int .i64 mi) ∧ p
theorem bg_wd {f mi y : Int} (hr : Wk.rB f mi = true) (y1 : 1 ≤ y) (y2 : y ≤ 9999) : (wdG (Wk.bg f mi y + 7) != f) = false := by
  have hb := Wk.bg_near hr y
  have hys : -719162 ≤ Cal.ysG y ∧ Cal.ysG y ≤ 2932532 := by unfold Cal.ysG; omega
  have hi : Cal.inB (Wk.bg f mi y + 7) = true := Cal.inB_iff.2 (by omega)
  have hg := (Wk.bg_spec hr y).1
  have : wdG (Wk.bg f mi y + 7) = f := by simp only [wdG, hi, if_true]; unfold Wk.wd at hg; omega
  rw [this]; simp
set_option maxHeartbeats 2000000 in
theorem kmin_bad (f mi y m : Int) (w : World) (h : (Wk.rB f mi = false ∧ (Wk.stE f mi y != 0) = true) ∨ (Wk.rB f mi = true ∧ Wk.yB y = false ∧ (Wk.stE f mi y != 0) = true ∧ (y < 1 ∨ (¬ y < 1 ∧ 9999 < y)))) :
    Calls Try.prog 7 #[.agg #[.int .i64 f, .int .i64 mi], .int .i64 y, .int .u8 m] w fun e w' => e = .returned (.bool true) ∧ Below w.heap.size w w' := by
  rcases h with ⟨hr, hE⟩ | ⟨hr, hy, hE, q | ⟨q, q2⟩⟩
  all_goals
    go_enter Try.func7, Try.ntmps7
    go_wp2_with fail
    refine (awake_any _).mono ?_; rintro e w1 ⟨rfl, hb1⟩
    have hD := Lib.hid (Box2.born hb1)
    have hb := below_box hb1
    clear hb1
    obtain ⟨_, c0, c1⟩ := hD.out
    go_wp2_with fail
    refine (kstart_any _ _ _ _).mono ?_; rintro e w2 ⟨rfl, hb2⟩
    have hD2 := Lib.hid (hD.out.later hb2)
    have hb := below_then hb hb2
    clear hb2 hD c0 c1
    go_wp2_with fail
    refine (cday_any _ _ _ _).mono ?_; rintro e w3 ⟨rfl, hb3⟩
    have hD3 := Lib.hid (hD2.out.later hb3)
    have hb := below_then hb hb3
    clear hb3 hD2
    obtain ⟨_, c0, c1⟩ := hD3.out
    go_wp2_with fail
    refine (kvalid_any _ _ _).mono ?_; rintro e w4 ⟨rfl, hb4⟩
    have hb := below_then hb hb4
    clear hb4 hD3 c0 c1
    go_wp2_with fail
    go_ret
    exact ⟨by simp; try omega, hb⟩
set_option maxHeartbeats 4000000 in
theorem kmin_good (f mi y m : Int) (w : World) (hr : Wk.rB f mi = true) (hy : Wk.yB y = true) (m0 : 0 ≤ m) (m255 : m ≤ 255) :
    Calls Try.prog 7 #[.agg #[.int .i64 f, .int .i64 mi], .int .i64 y, .int .u8 m] w fun e w' => e = .returned (.bool true) ∧ Below w.heap.size w w' := by
  obtain ⟨y1, y2⟩ := Wk.yB_iff.1 hy
  obtain ⟨r1, r2, r3, r4⟩ := Wk.rB_iff.1 hr
  have hF := Lib.hid (fun (Y : Int) (a : 1 ≤ Y) (b : Y ≤ 9999) => Wk.min_facts (y := Y) hr (Wk.yB_iff.2 ⟨a, b⟩))
  obtain ⟨g1, g2, g3⟩ := Wk.bg_spec hr y
  have hbb := Wk.dy_bd hr y1 y2
  have hyb := Cal.ysG_bd y1 (show y ≤ 10000 by omega)
  have hwd := bg_wd hr y1 y2
  have hwdH := Lib.hid hwd
  have hrH := Lib.hid hr
  clear hr hy g1 hwd
  go_enter Try.func7, Try.ntmps7
  go_wp2_with fail
  refine (awake_any _).mono ?_; rintro e w1 ⟨rfl, hb1⟩
  have hD := Lib.hid (Box2.born hb1)
  have hb := below_box hb1
  clear hb1
  obtain ⟨_, c0, c1⟩ := hD.out
  go_wp2_with fail
  refine (kstart_any _ _ _ _).mono ?_; rintro e w2 ⟨rfl, hb2⟩
  rw [(hF.out y y1 y2).1, (hF.out y y1 y2).2.1]
  have hD2 := Lib.hid (hD.out.later hb2)
  have hb := below_then hb hb2
  clear hb2 hD c0 c1
  go_wp2_with fail
  refine (cday_any _ _ _ _).mono ?_; rintro e w3 ⟨rfl, hb3⟩
  rw [(hF.out y y1 y2).2.2.2.1, (hF.out y y1 y2).2.2.2.2]
  have hD3 := Lib.hid (hD2.out.later hb3)
  have hb := below_then hb hb3
  clear hb3 hD2
  obtain ⟨_, c0, c1⟩ := hD3.out
  go_wp2_with fail
  have hw7 : IntKind.i64.wrap (Wk.bg f mi y + 7) = Wk.bg f mi y + 7 := IntWalk.i64_in _ (by omega)
  go_quiet ((first | (go_at_call 27; exact Calls.quiet_of (cweekday_any _ _))))
  have hwd := hwdH.out
  go_wp2_with fail
  all_goals
    go_loopg [11, 12] 256 (fun g t11 t12 wr => ∃ Y : Int, y ≤ Y ∧ Y ≤ y + m ∧ Y ≤ 9999 ∧ t12 = .int .i64 Y ∧ t11 = .int .i64 (Wk.bg f mi Y) ∧ MinRel w wr f mi ((y + m - Y).toNat ≤ g))
    case atStart => exact ⟨y, by omega, by omega, by omega, rfl, rfl, by (repeat (first | exact Below.refl _ _ | assumption | refine below_drewN ?_ _ | refine below_alloc1 ?_ _ | refine below_then ?_ (by assumption))), hD3.out.later (below_drewN (Below.refl _ _) _), by omega⟩
    case round =>
      clear hb hwd c0 c1 hD3
      obtain ⟨Y, Y1, Y2, Y3, rfl, rfl, hb, hD, hg⟩ := hrel
      have hDH := Lib.hid hD
      obtain ⟨lt, c0, c1⟩ := hD
      by_cases hlt : Y < y + m
      · by_cases h9 : Y < 9999
        · have hbY := Wk.dy_bd (y := Y) hrH.out (by omega) (by omega)
          have hsu := Wk.wks_52 hrH.out Y
          obtain ⟨hs1, hs2⟩ := hsu
          have hs2b : (Wk.bg f mi (Y + 1) != Wk.bg f mi Y + 7 * Wk.wks f mi Y) = false := by rw [hs2]; simp
          have hsH := Lib.hid hs2
          clear hs2
          go_wp2_with fail
          refine (kweeks_any _ _ _ _).mono ?_; rintro e w4 ⟨rfl, hb4⟩
          rw [(hF.out Y (by omega) (by omega)).2.2.1, (hF.out Y (by omega) (by omega)).2.1]
          have hD4 := Lib.hid (hDH.out.later hb4)
          have hb := below_then hb hb4
          clear hb4 hDH c0 c1 lt
          obtain ⟨lt, c0, c1⟩ := hD4.out
          go_wp2_with fail
          refine (kstart_any _ _ _ _).mono ?_; rintro e w5 ⟨rfl, hb5⟩
          rw [(hF.out (Y + 1) (by omega) (by omega)).1, (hF.out (Y + 1) (by omega) (by omega)).2.1]
          have hD5 := Lib.hid (hD4.out.later hb5)
          have hb := below_then hb hb5
          clear hb5 hD4 c0 c1 lt
          go_wp2_with fail
          go_roundg (gk - 1)
          case measure => omega
          case rel => exact ⟨Y + 1, by omega, by omega, by omega, rfl, val_int (by have := hsH.out; omega), hb, hD5.out, by omega⟩
        · go_wp2_with fail
          go_ret
          exact ⟨by simp, hb⟩
      · go_wp2_with fail
        go_ret
        exact ⟨by simp, hb⟩
theorem wWeekMinimal (f mi y m : Int) (w : World) (_hf : -9223372036854775808 ≤ f ∧ f ≤ 9223372036854775807) (_hm : -9223372036854775808 ≤ mi ∧ mi ≤ 9223372036854775807) (_h1 : -9223372036854775808 ≤ y ∧ y ≤ 9223372036854775807) (h2 : 0 ≤ m ∧ m ≤ 255) :
    Calls Try.prog 7 #[.agg #[.int .i64 f, .int .i64 mi], .int .i64 y, .int .u8 m] w fun e w' => e = .returned (.bool true) ∧ Below w.heap.size w w' := by
  rcases Wk.st_ways f mi y with h | h | ⟨hr, hy⟩
  · exact kmin_bad f mi y m w (Or.inl h)
  · exact kmin_bad f mi y m w (Or.inr h)
  · exact kmin_good f mi y m w hr hy h2.1 h2.2
end Go.Proofs.Ytajpbajffmiceaa
