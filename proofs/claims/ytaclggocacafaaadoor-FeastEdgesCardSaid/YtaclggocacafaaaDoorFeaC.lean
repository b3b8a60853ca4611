/- Contracts of the reference's Julian Easter and Moveable, the layer's awake, and the walks of FeastNumbers and FeastDays. Condition: the table of lengths. -/
import Derived.Test.YtaclggocacafaaaDoorFeaB
namespace Fea
open Cal
theorem jm_up (k : Int) : jm (k + 1) = jm k + 365 + lj (k + 1) := by
  rw [jm_eq, jm_eq]; have := ysJ_succ k; omega
theorem jm_1900 : dayGn 1900 4 3 = jm 1900 := by decide +kernel
theorem jm_bd {y : Int} (h1 : 1800 ≤ y) (h2 : y ≤ 2100) : -100100 ≤ jm y ∧ jm y ≤ 100000 := by
  have e := jm_eq y; have := lj_01 y
  have : -100000 ≤ ysJ y + 80 ∧ ysJ y + 80 ≤ 90000 := by unfold ysJ; omega
  omega
theorem ex_awake : easter 2024 = 19813 ∧ yE 2024 = 0 ∧ jeaster 2024 = dayGn 2024 5 5 ∧ dayGe 2024 5 5 = 0 ∧ gold 2000 = 6 ∧ epact 2000 = 24 := by decide +kernel
end Fea
namespace Go.Proofs.YtaclggocacafaaaDoor
open Go.ChangeShapes Go.WideShapes Go.ChangeAt Go.RowKit

set_option maxHeartbeats 400000 in
theorem rsunday_any (d : Int) (w : World) (h1 : -719163 ≤ d) (h2 : d ≤ 2932880) :
    Calls Tryd.prog 34 #[.int .i64 d] w fun e w' => e = .returned (.int .i64 (Fea.sun d)) ∧ w = w' := by
  have hsb := Fea.sun_bd d
  have hwk := Lib.hid (fun k (a : d + 1 ≤ k) (b : k ≤ d + 7) => Fea.sun_uniq (d := d) (n := k) a b)
  have hsw := Lib.hid (Fea.sun_wd d)
  go_enter Tryd.func34, Tryd.ntmps34
  go_wp2_with fail
  go_loop [0] (fun t => ∃ k : Int, d + 1 ≤ k ∧ k ≤ Fea.sun d ∧ t = .int .i64 k) (fun t => (Fea.sun d - intOf t).toNat)
  case atStart => exact ⟨_, by omega, by omega, rfl⟩
  case round =>
    obtain ⟨k, k1, k2, rfl⟩ := hrel
    have hg : wdG k = Fea.wd k := by simp [wdG, Fea.wd, Fea.wdG_in (n := k) (by omega) (by omega)]
    by_cases hc : Fea.wd k = 7
    · obtain rfl : k = Fea.sun d := hwk.out k k1 (by omega) hc
      have hgH := Lib.hid (hg.trans hc)
      clear hg hc
      go_wp2_with (go_at_call 48; refine (qweekday_any _ _).mono ?_; rintro e w' ⟨rfl, rfl⟩; rw [hgH.out])
      go_ret
      exact ⟨rfl, rfl⟩
    · have hlt : k < Fea.sun d := by
        rcases (show k < Fea.sun d ∨ k = Fea.sun d by omega) with q | q
        · exact q
        · exact absurd (by rw [q]; exact hsw.out) hc
      have hc' : (Fea.wd k != 7) = true := by simpa using hc
      have hgH := Lib.hid hg
      clear hg hc
      go_wp2_with (go_at_call 48; refine (qweekday_any _ _).mono ?_; rintro e w' ⟨rfl, rfl⟩; rw [hgH.out])
      go_round
      case rel => exact ⟨k + 1, by omega, by omega, rfl⟩
      case measure => simp [intOf]; omega
set_option maxHeartbeats 1000000 in
theorem rjulian_any (y : Int) (w : World) (h1 : 1800 ≤ y) (h2 : y ≤ 2100) :
    Calls Tryd.prog 35 #[.int .i64 y] w fun e w' => e = .returned (.int .i64 (Fea.jm y)) ∧ Below w.heap.size w w' := by
  have h19 := Lib.hid Fea.jm_1900
  by_cases hy : 1900 ≤ y
  · go_enter Tryd.func35, Tryd.ntmps35
    go_wp2_with (go_at_call 33; refine (qday_any _ _ _ _).mono ?_; rintro e w' ⟨rfl, hb1⟩; rw [h19.out])
    go_loop [3, 5] (fun t3 t5 => ∃ k : Int, 1900 ≤ k ∧ k ≤ y ∧ t5 = .int .i64 k ∧ t3 = .int .i64 (Fea.jm k)) (fun _ t5 => (y - intOf t5).toNat)
    case atStart => exact ⟨1900, by omega, hy, rfl, rfl⟩
    case round =>
      obtain ⟨k, k1, k2, rfl, rfl⟩ := hrel
      have hjb := Fea.jm_bd (y := k) (by omega) (by omega)
      by_cases hlt : k < y
      · have hu := Fea.jm_up k
        by_cases h4 : (k + 1) % 4 = 0
        · have hl : Cal.lj (k + 1) = 1 := by simp [Cal.lj, h4]
          rw [hl] at hu
          have huH := Lib.hid hu
          clear hu hl
          go_wp2_with fail
          go_round
          case rel => exact ⟨k + 1, by omega, by omega, rfl, val_int (by rw [huH.out])⟩
          case measure => simp [intOf]; omega
        · have hl : Cal.lj (k + 1) = 0 := by simp [Cal.lj, h4]
          have h4' : ((k + 1) % 4 == 0) = false := by simpa using h4
          rw [hl] at hu
          have huH := Lib.hid hu
          clear hu hl h4
          go_wp2_with fail
          go_round
          case rel => exact ⟨k + 1, by omega, by omega, rfl, val_int (by rw [huH.out]; omega)⟩
          case measure => simp [intOf]; omega
      · obtain rfl : k = y := by omega
        go_wp2_with fail
        go_loop [3, 6] (fun t3 t6 => t6 = .int .i64 1900 ∧ t3 = .int .i64 (Fea.jm k)) (fun _ _ => 0)
        case atStart => exact ⟨rfl, rfl⟩
        case round =>
          obtain ⟨rfl, rfl⟩ := hrel
          go_wp2_with fail
          go_ret
          exact ⟨rfl, hb1⟩
  · go_enter Tryd.func35, Tryd.ntmps35
    go_wp2_with (go_at_call 33; refine (qday_any _ _ _ _).mono ?_; rintro e w' ⟨rfl, hb1⟩; rw [h19.out])
    go_loop [3, 5] (fun t3 t5 => t5 = .int .i64 1900 ∧ t3 = .int .i64 (Fea.jm 1900)) (fun _ _ => 0)
    case atStart => exact ⟨rfl, rfl⟩
    case round =>
      obtain ⟨rfl, rfl⟩ := hrel
      go_wp2_with fail
      go_loop [3, 6] (fun t3 t6 => ∃ k : Int, y ≤ k ∧ k ≤ 1900 ∧ t6 = .int .i64 k ∧ t3 = .int .i64 (Fea.jm k)) (fun _ t6 => (intOf t6 - y).toNat)
      case atStart => exact ⟨1900, by omega, by omega, rfl, rfl⟩
      case round =>
        obtain ⟨k, k1, k2, rfl, rfl⟩ := hrel
        have hjb := Fea.jm_bd (y := k) (by omega) (by omega)
        by_cases hlt : y < k
        · have hu := Fea.jm_up (k - 1)
          rw [show k - 1 + 1 = k by omega] at hu
          by_cases h4 : k % 4 = 0
          · have hl : Cal.lj k = 1 := by simp [Cal.lj, h4]
            rw [hl] at hu
            have huH := Lib.hid hu
            clear hu hl
            go_wp2_with fail
            go_round
            case rel => exact ⟨k - 1, by omega, by omega, rfl, val_int (by rw [huH.out]; omega)⟩
            case measure => simp [intOf]; omega
          · have hl : Cal.lj k = 0 := by simp [Cal.lj, h4]
            have h4' : (k % 4 == 0) = false := by simpa using h4
            rw [hl] at hu
            have huH := Lib.hid hu
            clear hu hl h4
            go_wp2_with fail
            go_round
            case rel => exact ⟨k - 1, by omega, by omega, rfl, val_int (by rw [huH.out]; omega)⟩
            case measure => simp [intOf]; omega
        · obtain rfl : k = y := by omega
          go_wp2_with fail
          go_ret
          exact ⟨rfl, hb1⟩
theorem rjeaster_any (y : Int) (w : World) (h1 : 1800 ≤ y) (h2 : y ≤ 2100) :
    Calls Tryd.prog 20 #[.int .i64 y] w fun e w' => e = .returned (.int .i64 (Fea.jeast y)) ∧ Below w.heap.size w w' := by
  have hjb := Fea.jm_bd h1 h2
  have hpb := Fea.jp_bd y
  have hjp : (19 * (y % 19) + 15) % 30 = Fea.jp y := rfl
  have hje : Fea.sun (Fea.jm y + Fea.jp y) = Fea.jeast y := rfl
  rw [← hje]; clear hje
  go_enter Tryd.func20, Tryd.ntmps20
  go_wp2_with (first | (go_at_call 35; refine (rjulian_any _ _ h1 h2).mono ?_; rintro e w' ⟨rfl, hb1⟩) | (go_at_call 15; refine (rgold_any _ _ (by omega) (by omega)).mono ?_; rintro e w' ⟨rfl, rfl⟩) | (go_at_call 34; refine (rsunday_any _ _ (by omega) (by omega)).mono ?_; rintro e w' ⟨rfl, rfl⟩))
  go_ret
  exact ⟨rfl, hb1⟩
set_option maxHeartbeats 400000 in
theorem rmove_any (y o : Int) (w : World) :
    Calls Tryd.prog 27 #[.int .i64 y, .int .i64 o] w fun e w' => e = .returned (.tuple #[.int .i64 (Fea.mvN y o), .bool (Fea.mvB y o)]) ∧ Below w.heap.size w w' := by
  rcases Fea.mv_ways y o with ⟨e3, hy, y1, y2, o1, o2, s1, s2, e1, e2⟩ | ⟨e3, e1, e2, hy | ⟨hy, y1, y2, ways⟩⟩
  · obtain ⟨_, _, i3, i4⟩ := Fea.east_in y1 y2
    rw [e1, e3]; clear e1 e2 e3
    go_enter Tryd.func27, Tryd.ntmps27
    go_wp2_with (first | (go_at_call 14; refine (ryear8_any _ _).mono ?_; rintro e w' ⟨rfl, rfl⟩) | (go_at_call 19; refine (reaster_any _ _ (by omega) (by omega)).mono ?_; rintro e w' ⟨rfl, hb5⟩))
    go_ret2
    exact ⟨rfl, hb5⟩
  · rw [e1, e3]; clear e1 e2 e3
    go_enter Tryd.func27, Tryd.ntmps27
    go_wp2_with (first | (go_at_call 14; refine (ryear8_any _ _).mono ?_; rintro e w' ⟨rfl, rfl⟩))
    go_ret2
    exact ⟨rfl, Below.refl _ _⟩
  · obtain ⟨_, _, i3, i4⟩ := Fea.east_in y1 y2
    rw [e1, e3]; clear e1 e2 e3
    rcases ways with q | ⟨q, q2⟩ | ⟨q, q2, q3⟩ | ⟨q, q2, q3, q4⟩
    · go_enter Tryd.func27, Tryd.ntmps27
      go_wp2_with (first | (go_at_call 14; refine (ryear8_any _ _).mono ?_; rintro e w' ⟨rfl, rfl⟩))
      go_ret2
      exact ⟨rfl, Below.refl _ _⟩
    · go_enter Tryd.func27, Tryd.ntmps27
      go_wp2_with (first | (go_at_call 14; refine (ryear8_any _ _).mono ?_; rintro e w' ⟨rfl, rfl⟩))
      go_ret2
      exact ⟨rfl, Below.refl _ _⟩
    all_goals
      go_enter Tryd.func27, Tryd.ntmps27
      go_wp2_with (first | (go_at_call 14; refine (ryear8_any _ _).mono ?_; rintro e w' ⟨rfl, rfl⟩) | (go_at_call 19; refine (reaster_any _ _ (by omega) (by omega)).mono ?_; rintro e w' ⟨rfl, hb5⟩))
      go_ret2
      exact ⟨rfl, hb5⟩
theorem awake_any (w : World) (ht : Tab w) :
    Calls Tryd.prog 11 #[] w fun e w' => e = .returned (.bool true) ∧ Below w.heap.size w w' := by
  obtain ⟨e1, e2, e3, e4, e5, e6⟩ := Fea.ex_awake
  go_enter Tryd.func11, Tryd.ntmps11
  go_wp2_with fail
  refine (feaster_any _ _).mono ?_; rintro e w1 ⟨rfl, hb1⟩
  rw [e1, e2]
  go_wp2_with fail
  refine (fjeaster_any _ _ (ht.later hb1)).mono ?_; rintro e w2 ⟨rfl, hb2⟩
  rw [e2, e3]
  go_wp2_with fail
  refine (cday_any _ _ _ _).mono ?_; rintro e w3 ⟨rfl, hb3⟩
  rw [e4]
  go_wp2_with (first | (go_at_call 12; refine (fgold_any _ _).mono ?_; rintro e w' ⟨rfl, rfl⟩; rw [e5]) | (go_at_call 13; refine (fepact_any _ _).mono ?_; rintro e w' ⟨rfl, rfl⟩; rw [e6]))
  go_ret
  exact ⟨by simp, by (repeat (first | exact Below.refl _ _ | assumption | refine below_drewN ?_ _ | refine below_alloc1 ?_ _ | refine below_then ?_ (by assumption)))⟩
end Go.Proofs.YtaclggocacafaaaDoor
