/- The walk of HebrewCycles. No conditions. -/
import Derived.Test.YtpoehjnhinapoaaHebI
import Derived.Test.YtpoehjnhinapoaaCivil
namespace Heb
theorem bf_19 (y : Int) : bf (y + 19) = bf y + 235 := by
  unfold bf
  rw [show 235 * (y + 19) - 234 = 235 * y - 234 + 19 * 235 by omega, Int.add_mul_ediv_left _ _ (by omega)]
theorem lp_mths (y : Int) : (lp y = true ∧ mths y = 13) ∨ (lp y = false ∧ mths y = 12) := by
  cases h : lp y
  · exact Or.inr ⟨rfl, by simp [mths, h]⟩
  · exact Or.inl ⟨rfl, by simp [mths, h]⟩
end Heb
namespace Go.Proofs.Ytpoehjnhinapoaa
open Go.ChangeShapes Go.WideShapes Go.ChangeAt Go.RowKit

def CycRel (w wr : World) (p : Prop) : Prop := Below w.heap.size w wr ∧ p
set_option maxHeartbeats 2000000 in
theorem wHebrewCycles (y : Int) (w : World) (_h : -9223372036854775808 ≤ y ∧ y ≤ 9223372036854775807) :
    Calls Try.prog 4 #[.int .i64 y] w fun e w' => e = .returned (.bool true) ∧ Below w.heap.size w w' := by
  by_cases h1 : y < 1
  · go_enter Try.func4, Try.ntmps4
    go_wp2_with (first | (go_at_call 14; refine (awake_any _).mono ?_; rintro e w' ⟨rfl, hb0⟩))
    go_ret
    exact ⟨by simp, by (repeat (first | exact Below.refl _ _ | assumption | refine below_drewN ?_ _ | refine below_alloc1 ?_ _ | refine below_then ?_ (by assumption)))⟩
  · by_cases h2 : 19981 < y
    · go_enter Try.func4, Try.ntmps4
      go_wp2_with (first | (go_at_call 14; refine (awake_any _).mono ?_; rintro e w' ⟨rfl, hb0⟩))
      go_ret
      exact ⟨by simp, by (repeat (first | exact Below.refl _ _ | assumption | refine below_drewN ?_ _ | refine below_alloc1 ?_ _ | refine below_then ?_ (by assumption)))⟩
    · have hs := Heb.seen (y := y) (by omega) (by omega)
      have hc := hs.cyc
      have hb19 := Heb.bf_19 y
      have ea : Heb.nwc y = Heb.bg y := by simp [Heb.nwc, Heb.yB]; omega
      have eb : Heb.nwc (y + 19) = Heb.bg (y + 19) := by simp [Heb.nwc, Heb.yB]; omega
      have ec : Heb.yE y = 0 := by simp [Heb.yE, Heb.yB]; omega
      have ed : Heb.yE (y + 19) = 0 := by simp [Heb.yE, Heb.yB]; omega
      have hsa := Heb.bg_size (y := y) (by omega) (by omega)
      have hsb := Heb.bg_size (y := y + 19) (by omega) (by omega)
      have heH := Lib.hid (And.intro ea (And.intro eb (And.intro ec ed)))
      have hbH := Lib.hid hb19
      clear hs ea eb ec ed hb19
      go_enter Try.func4, Try.ntmps4
      go_wp2_with (first | (go_at_call 14; refine (awake_any _).mono ?_; rintro e w' ⟨rfl, hb0⟩))
      go_loopg [3, 4, 5, 6] 20 (fun g t3 t4 t5 t6 wr => ∃ Y : Int, y ≤ Y ∧ Y ≤ y + 19 ∧ t6 = .int .i64 Y ∧ t3 = .int .i64 (Heb.bf Y - Heb.bf y) ∧ t4 = .int .i64 (Heb.bf Y - Heb.bf y - 12 * (Y - y)) ∧ t5 = .int .i64 (Heb.bg Y - Heb.bg y) ∧ CycRel w wr ((y + 19 - Y).toNat ≤ g))
      case atStart => exact ⟨y, by omega, by omega, rfl, val_int (by omega), val_int (by omega), val_int (by omega), hb0, by omega⟩
      case round =>
        clear hb0
        obtain ⟨Y, Y1, Y2, rfl, rfl, rfl, rfl, hb, hg⟩ := hrel
        by_cases hlt : Y < y + 19
        · have hm : Heb.mthc Y = Heb.mths Y := by simp [Heb.mthc, Heb.yB]; omega
          have hl : Heb.leap Y = Heb.lp Y := by simp [Heb.leap, Heb.yB]; omega
          have hyl : Heb.ylenc Y = Heb.ylen Y := by simp [Heb.ylenc, Heb.yB]; omega
          have hylb := Heb.ylen_bd (y := Y) (by omega) (by omega)
          have hst := Heb.bg_step (y := Y)
          have hbs := Heb.bf_succ Y
          obtain ⟨f1, f2, _⟩ := Heb.dd_bd (y := Y) (by omega) (by omega)
          obtain ⟨g1, g2, _⟩ := Heb.dd_bd (y := y) (by omega) (by omega)
          have hsY := Heb.bg_size (y := Y) (by omega) (by omega)
          have hH := Lib.hid (And.intro hst hbs)
          have hmH := Lib.hid hm; have hlH := Lib.hid hl; have hyH := Lib.hid hyl
          rw [← hyl] at hylb
          clear hst hbs hm hl hyl
          rcases Heb.lp_mths Y with ⟨q1, q2⟩ | ⟨q1, q2⟩
          all_goals
            have q1 : Heb.leap Y = _ := hlH.out.trans q1
            have q2 : Heb.mthc Y = _ := hmH.out.trans q2
            have q2H := Lib.hid q2
            clear hlH
            go_wp2_with (first | (go_at_call 17; refine (hmonths_any _ _).mono ?_; rintro e w' ⟨rfl, kd, rfl⟩) | (go_at_call 18; refine (hylen_any _ _).mono ?_; rintro e w' ⟨rfl, kd, rfl⟩) | (go_at_call 19; refine (hLeap_any _ _).mono ?_; rintro e w' ⟨rfl, kd, rfl⟩))
            go_roundg (gk - 1)
            case measure => omega
            case rel => exact ⟨Y + 1, by omega, by omega, by go_num, val_int (by have := hH.out; have := hmH.out; have := q2H.out; omega), val_int (by have := hH.out; have := hmH.out; have := q2H.out; omega), val_int (by have := hH.out; have := hyH.out; omega), by (repeat (first | exact Below.refl _ _ | assumption | refine below_drewN ?_ _ | refine below_alloc1 ?_ _ | refine below_then ?_ (by assumption))), by omega⟩
        · obtain rfl : Y = y + 19 := by omega
          obtain ⟨ea, eb, ec, ed⟩ := heH.out
          have e1 : Heb.bf (y + 19) - Heb.bf y = 235 := by have := hbH.out; omega
          have e2 : Heb.bf (y + 19) - Heb.bf y - 12 * (y + 19 - y) = 7 := by have := hbH.out; omega
          rw [e2, e1]
          clear e1 e2 heH
          go_wp2_with (first | (go_at_call 20; refine (hNew_any _ _).mono ?_; rintro e w' ⟨rfl, kd, rfl⟩))
          go_ret
          exact ⟨by simp; try omega, by (repeat (first | exact Below.refl _ _ | assumption | refine below_drewN ?_ _ | refine below_alloc1 ?_ _ | refine below_then ?_ (by assumption)))⟩
end Go.Proofs.Ytpoehjnhinapoaa
