/- Contracts of the functions of package islamic on years and months. Conditions: those on sizes. -/
import Derived.Deep.RegionHeld3
import Derived.Deep.RegionWith
import Derived.Test.YtehjjinlpilelaaGreatDoorSIslA
namespace Go.Proofs.YtehjjinlpilelaaGreatDoor
open Go.ChangeShapes Go.WideShapes Go.ChangeAt Go.RowKit

theorem contains_leaps (b : Nat) (k v : Int) (w : World) (h : Row w b (Isl.leapsL k)) :
    Calls Tryz.prog 110 #[.slice (some ⟨b, 0, none⟩) 11 11, .int .i64 v] w fun e w' => e = .returned (.bool ((Isl.leapsL k).contains v)) ∧ w = w' := by
  have := contains_any b 11 (Isl.leapsL k) v w h (by rw [Isl.leapsL_len]; omega)
  rw [Isl.leapsL_len] at this; exact this

theorem ileap_any (k y : Int) (w : World) :
    Calls Tryz.prog 97 #[.int .i64 k, .int .i64 y] w fun e w' => e = .returned (.bool (Isl.leap k y)) ∧ Below w.heap.size w w' := by
  by_cases hk : Isl.kB k = true
  · by_cases hy : Isl.yB y = true
    · have hl : Isl.leap k y = (Isl.leapsL k).contains (Isl.place y) := by simp [Isl.leap, hk, hy, Isl.lp]
      obtain ⟨y1, y2⟩ := Isl.yB_iff.1 hy
      rw [hl]; clear hl
      have hkH := Lib.hid hk
      go_enter Tryz.func97, Tryz.ntmps97
      go_wp2_with (first | (go_at_call 64; refine (ivalid_any _ _).mono ?_; rintro e w' ⟨rfl, rfl⟩) | (go_at_call 96; refine (iyear_any _ _).mono ?_; rintro e w' ⟨rfl, rfl⟩) | (go_at_call 95; refine (ileaps_any _ _ hkH.out).mono ?_; rintro e w1 ⟨b, rfl, hr, hb⟩; have hrH := Lib.hid hr; clear hr) | (go_at_call 67; refine (iplace_any _ _ y1 (by omega)).mono ?_; rintro e w' ⟨rfl, rfl⟩) | (go_at_call 110; refine (contains_leaps _ _ _ _ hrH.out).mono ?_; rintro e w' ⟨rfl, rfl⟩))
      go_ret
      exact ⟨by simp, hb⟩
    · have hl : Isl.leap k y = false := by simp [Isl.leap, hy]
      have hy' : Isl.yB y = false := by simpa using hy
      rw [hl]; clear hl hy
      go_enter Tryz.func97, Tryz.ntmps97
      go_wp2_with (first | (go_at_call 64; refine (ivalid_any _ _).mono ?_; rintro e w' ⟨rfl, rfl⟩) | (go_at_call 96; refine (iyear_any _ _).mono ?_; rintro e w' ⟨rfl, rfl⟩))
      go_ret
      exact ⟨by simp, Below.refl _ _⟩
  · have hl : Isl.leap k y = false := by simp [Isl.leap, hk]
    have hk' : Isl.kB k = false := by simpa using hk
    rw [hl]; clear hl hk
    go_enter Tryz.func97, Tryz.ntmps97
    go_wp2_with (go_at_call 64; refine (ivalid_any _ _).mono ?_; rintro e w' ⟨rfl, rfl⟩)
    go_ret
    exact ⟨by simp, Below.refl _ _⟩

set_option maxHeartbeats 1000000 in
theorem ilength_any (k y m : Int) (w : World) :
    Calls Tryz.prog 68 #[.int .i64 k, .int .i64 y, .int .i64 m] w fun e w' => e = .returned (.int .i64 (Isl.lenc k y m)) ∧ Below w.heap.size w w' := by
  by_cases hk : Isl.kB k = true
  · by_cases hy : Isl.yB y = true
    · by_cases h1 : 1 ≤ m
      · by_cases h2 : m ≤ 12
        · have hc : Isl.lenc k y m = Isl.len k y m := by unfold Isl.lenc; rw [if_pos ⟨hk, hy, h1, h2⟩]
          have hlp : Isl.leap k y = Isl.lp k y := by simp [Isl.leap, hk, hy]
          rw [hc]; clear hc
          by_cases h3 : m % 2 = 1
          · have hl : Isl.len k y m = 30 := by simp [Isl.len, h3]
            rw [hl]; clear hl
            go_enter Tryz.func68, Tryz.ntmps68
            go_wp2_with (first | (go_at_call 64; refine (ivalid_any _ _).mono ?_; rintro e w' ⟨rfl, rfl⟩) | (go_at_call 96; refine (iyear_any _ _).mono ?_; rintro e w' ⟨rfl, rfl⟩))
            go_ret
            exact ⟨rfl, Below.refl _ _⟩
          · have h3' : (m % 2 == 1) = false := by simpa using h3
            by_cases h4 : m = 12
            · subst h4
              have hl : Isl.len k y 12 = (if Isl.lp k y then 30 else 29) := by simp [Isl.len]
              rw [hl]; clear hl
              by_cases h5 : Isl.lp k y = true
              all_goals
                try have h5 : Isl.lp k y = false := by simpa using h5
                rw [h5]
                go_enter Tryz.func68, Tryz.ntmps68
                go_wp2_with (first | (go_at_call 64; refine (ivalid_any _ _).mono ?_; rintro e w' ⟨rfl, rfl⟩) | (go_at_call 96; refine (iyear_any _ _).mono ?_; rintro e w' ⟨rfl, rfl⟩) | (go_at_call 97; refine (ileap_any _ _ _).mono ?_; rintro e w1 ⟨rfl, hb⟩))
                go_ret
                exact ⟨rfl, hb⟩
            · have hl : Isl.len k y m = 29 := by simp [Isl.len, h3, h4]
              have h4' : (m == 12) = false := by simpa using h4
              rw [hl]; clear hl h4 h3
              go_enter Tryz.func68, Tryz.ntmps68
              go_wp2_with (first | (go_at_call 64; refine (ivalid_any _ _).mono ?_; rintro e w' ⟨rfl, rfl⟩) | (go_at_call 96; refine (iyear_any _ _).mono ?_; rintro e w' ⟨rfl, rfl⟩))
              go_ret
              exact ⟨rfl, Below.refl _ _⟩
        · have hc : Isl.lenc k y m = 0 := by unfold Isl.lenc; rw [if_neg (by omega)]
          rw [hc]; clear hc
          go_enter Tryz.func68, Tryz.ntmps68
          go_wp2_with (first | (go_at_call 64; refine (ivalid_any _ _).mono ?_; rintro e w' ⟨rfl, rfl⟩) | (go_at_call 96; refine (iyear_any _ _).mono ?_; rintro e w' ⟨rfl, rfl⟩))
          go_ret
          exact ⟨rfl, Below.refl _ _⟩
      · have hc : Isl.lenc k y m = 0 := by unfold Isl.lenc; rw [if_neg (by omega)]
        rw [hc]; clear hc
        go_enter Tryz.func68, Tryz.ntmps68
        go_wp2_with (first | (go_at_call 64; refine (ivalid_any _ _).mono ?_; rintro e w' ⟨rfl, rfl⟩) | (go_at_call 96; refine (iyear_any _ _).mono ?_; rintro e w' ⟨rfl, rfl⟩))
        go_ret
        exact ⟨rfl, Below.refl _ _⟩
    · have hc : Isl.lenc k y m = 0 := by unfold Isl.lenc; rw [if_neg (fun q => hy q.2.1)]
      have hy' : Isl.yB y = false := by simpa using hy
      rw [hc]; clear hc hy
      go_enter Tryz.func68, Tryz.ntmps68
      go_wp2_with (first | (go_at_call 64; refine (ivalid_any _ _).mono ?_; rintro e w' ⟨rfl, rfl⟩) | (go_at_call 96; refine (iyear_any _ _).mono ?_; rintro e w' ⟨rfl, rfl⟩))
      go_ret
      exact ⟨rfl, Below.refl _ _⟩
  · have hc : Isl.lenc k y m = 0 := by unfold Isl.lenc; rw [if_neg (fun q => hk q.1)]
    have hk' : Isl.kB k = false := by simpa using hk
    rw [hc]; clear hc hk
    go_enter Tryz.func68, Tryz.ntmps68
    go_wp2_with (go_at_call 64; refine (ivalid_any _ _).mono ?_; rintro e w' ⟨rfl, rfl⟩)
    go_ret
    exact ⟨rfl, Below.refl _ _⟩


set_option maxHeartbeats 400000 in
theorem ifirst_any (k y : Int) (w : World) (hk : Isl.kB k = true) (h1 : 1 ≤ y) (h2 : y ≤ 9601) :
    Calls Tryz.prog 65 #[.int .i64 k, .int .i64 y] w fun e w' => e = .returned (.int .i64 (Isl.first k y)) ∧ Below w.heap.size w w' := by
  have hkH := Lib.hid hk
  have hlen := Isl.leapsL_len k
  have hlenH := Lib.hid hlen
  clear hk hlen
  go_enter Tryz.func65, Tryz.ntmps65
  go_wp2_with (go_at_call 95; refine (ileaps_any _ _ hkH.out).mono ?_; rintro e w1 ⟨b, rfl, hr, hb⟩; have hrH := Lib.hid hr; clear hr)
  go_loop [5, 11] (fun t5 t11 => ∃ i : Nat, i ≤ 11 ∧ t11 = .int .i64 i ∧ t5 = .int .i64 (Isl.cnt ((Isl.leapsL k).take i) (Isl.place y))) (fun _ t => 11 - (intOf t).toNat)
  case atStart => exact ⟨0, by omega, rfl, val_int (by simp [Isl.cnt])⟩
  case round =>
    obtain ⟨i, hi, rfl, rfl⟩ := hrel
    have hcl := Isl.cnt_le (Isl.leapsL k) (Isl.place y) i
    by_cases hlt : i < 11
    · have hc := hrH.out.2 i (by rw [hlenH.out]; exact hlt)
      have hs := Isl.cnt_take (Isl.leapsL k) (Isl.place y) i (by rw [hlenH.out]; exact hlt)
      generalize (Isl.leapsL k).getD i 0 = x at hc hs
      generalize hq : Isl.cnt ((Isl.leapsL k).take i) (Isl.place y) = q at hs hcl
      have hsH := Lib.hid hs
      clear hs hq
      by_cases hx : x < Isl.place y
      · go_wp2_with (go_at_call 67; refine (iplace_any _ _ h1 (by omega)).mono ?_; rintro e w' ⟨rfl, rfl⟩)
        go_round
        case rel => exact ⟨i + 1, by omega, by go_num, val_int (by rw [hsH.out, if_pos hx])⟩
        case measure => simp [intOf]; omega
      · go_wp2_with (go_at_call 67; refine (iplace_any _ _ h1 (by omega)).mono ?_; rintro e w' ⟨rfl, rfl⟩)
        go_round
        case rel => exact ⟨i + 1, by omega, by go_num, val_int (by rw [hsH.out, if_neg (by omega)]; omega)⟩
        case measure => simp [intOf]; omega
    · obtain rfl : i = 11 := by omega
      have ht : (Isl.leapsL k).take 11 = Isl.leapsL k := by rw [List.take_of_length_le]; rw [hlenH.out]; omega
      have hcb := Isl.cnt_bd k (Isl.place y)
      have hp : Isl.place y = (y - 1) % 30 + 1 := rfl
      have hpb : 1 ≤ Isl.place y ∧ Isl.place y ≤ 30 := by rw [hp]; omega
      have hpH := Lib.hid hp
      clear hp
      rw [ht]
      clear ht
      go_wp2_with (go_at_call 67; refine (iplace_any _ _ h1 (by omega)).mono ?_; rintro e w' ⟨rfl, rfl⟩)
      go_ret
      exact ⟨ret_int (by unfold Isl.first; rw [hpH.out]; omega), hb⟩
end Go.Proofs.YtehjjinlpilelaaGreatDoor
namespace Go.Proofs.YtehjjinlpilelaaGreatDoor
open Go.ChangeShapes Go.WideShapes Go.ChangeAt Go.RowKit

theorem below_undrew {w w' : World} (h : Below w.drew.heap.size w.drew w') : Below w.heap.size w w' := ⟨h.os, h.tape, h.output, h.size, h.block⟩
set_option maxHeartbeats 1000000 in
theorem iday_any (k y m d : Int) (w : World) :
    Calls Tryz.prog 27 #[.int .i64 k, .agg #[.int .i64 y, .int .i64 m, .int .i64 d]] w fun e w' => e = .returned (.tuple #[.int .i64 (Isl.dayN k y m d), .int .i64 (Isl.dayE k y m d)]) ∧ Below w.heap.size w w' := by
  have hlb := Isl.lenc_bd k y m
  by_cases h1 : 1 ≤ d
  · have hd0 : decide (d < 1) = false := by simp; omega
    by_cases h2 : d ≤ Isl.lenc k y m
    · have ho : Isl.okb k y m d = true := by simp [Isl.okb, h1, h2]
      have hN : Isl.dayN k y m d = Isl.day k y m d := by simp [Isl.dayN, ho]
      have hE : Isl.dayE k y m d = 0 := by simp [Isl.dayE, ho]
      obtain ⟨hk, hy, m1, m2, _, _⟩ := Isl.okb_iff.1 ho
      obtain ⟨y1, y2⟩ := Isl.yB_iff.1 hy
      have hfb := Isl.first_bd hk y1 (by omega)
      have hbb : 0 ≤ Isl.before m ∧ Isl.before m ≤ 355 := by unfold Isl.before; omega
      have hkH := Lib.hid hk
      rw [hN, hE]; clear hN hE ho hk hy
      go_enter Tryz.func27, Tryz.ntmps27
      go_wp2_with fail
      go_region_held3 (fun w' => w'.cell? ⟨w.heap.size, 0, none⟩ = some (.int .i64 y) ∧ w'.cell? ⟨w.heap.size, 1, none⟩ = some (.int .i64 m) ∧ w'.cell? ⟨w.heap.size, 2, none⟩ = some (.int .i64 d))
        (first | go_keep | (go_split_ands; exact ⟨keep1 hb1 (by simp) (by assumption), keep1 hb1 (by simp) (by assumption), keep1 hb1 (by simp) (by assumption)⟩))
        (first | (go_at_call 68; refine (ilength_any _ _ _ _).mono ?_; rintro e w1 ⟨rfl, hb1⟩))
      have hlt : w.heap.size < w1.heap.size := Nat.lt_of_lt_of_le (by simp) (below_undrew hb1).size
      have hb := below_box (below_undrew hb1)
      clear hb1
      go_wp2_with fail
      go_region_held3 (fun w' => w'.cell? ⟨w.heap.size, 0, none⟩ = some (.int .i64 y) ∧ w'.cell? ⟨w.heap.size, 1, none⟩ = some (.int .i64 m) ∧ w'.cell? ⟨w.heap.size, 2, none⟩ = some (.int .i64 d))
        (first | go_keep | (go_split_ands; exact ⟨keep1 hb2 hlt (by assumption), keep1 hb2 hlt (by assumption), keep1 hb2 hlt (by assumption)⟩))
        (first | (go_at_call 65; refine (ifirst_any _ _ _ hkH.out (by omega) (by omega)).mono ?_; rintro e w2 ⟨rfl, hb2⟩) | (go_at_call 66; refine (ibefore_any _ _ m1 (by omega)).mono ?_; rintro e w' ⟨rfl, rfl⟩))
      simp (disch := omega) only [IntWalk.i64_in]
      go_wp2_with fail
      go_ret2
      exact ⟨by unfold Isl.day; rfl, below_then hb (below_undrew hb2)⟩
    · have ho : Isl.okb k y m d = false := by simp [Isl.okb, h2]
      have hN : Isl.dayN k y m d = 0 := by simp [Isl.dayN, ho]
      have hE : Isl.dayE k y m d = 1 := by simp [Isl.dayE, ho]
      rw [hN, hE]; clear hN hE ho
      go_enter Tryz.func27, Tryz.ntmps27
      go_wp2_with fail
      go_region_held3 (fun w' => w'.cell? ⟨w.heap.size, 0, none⟩ = some (.int .i64 y) ∧ w'.cell? ⟨w.heap.size, 1, none⟩ = some (.int .i64 m) ∧ w'.cell? ⟨w.heap.size, 2, none⟩ = some (.int .i64 d))
        (first | go_keep | (go_split_ands; exact ⟨keep1 hb1 (by simp) (by assumption), keep1 hb1 (by simp) (by assumption), keep1 hb1 (by simp) (by assumption)⟩))
        (first | (go_at_call 68; refine (ilength_any _ _ _ _).mono ?_; rintro e w1 ⟨rfl, hb1⟩))
      go_wp2_with fail
      go_ret2
      exact ⟨rfl, below_box (below_undrew hb1)⟩
  · have ho : Isl.okb k y m d = false := by simp [Isl.okb, h1]
    have hN : Isl.dayN k y m d = 0 := by simp [Isl.dayN, ho]
    have hE : Isl.dayE k y m d = 1 := by simp [Isl.dayE, ho]
    have hd0 : decide (d < 1) = true := by simp; omega
    rw [hN, hE]; clear hN hE ho
    go_enter Tryz.func27, Tryz.ntmps27
    go_wp2_with fail
    go_quiet (fail)
    go_wp2
    go_ret2
    exact ⟨rfl, below_drewN (by go_grown) _⟩

end Go.Proofs.YtehjjinlpilelaaGreatDoor
