/- Contracts of the functions of package islamic: leap years, lengths, first days, the day of a date. No conditions. -/
import Derived.Test.YtbfdmpjgdpglgaaIslA
namespace Go.Proofs.Ytbfdmpjgdpglgaa
open Go.ChangeShapes Go.WideShapes Go.ChangeAt Go.RowKit

theorem contains_leaps (b : Nat) (k v : Int) (w : World) (h : Row w b (Isl.leapsL k)) :
    Calls Try.prog 34 #[.slice (some ⟨b, 0, none⟩) 11 11, .int .i64 v] w fun e w' => e = .returned (.bool ((Isl.leapsL k).contains v)) ∧ w = w' := by
  have := contains_any b 11 (Isl.leapsL k) v w h (by rw [Isl.leapsL_len]; omega)
  rw [Isl.leapsL_len] at this; exact this

theorem ileap_any (k y : Int) (w : World) :
    Calls Try.prog 22 #[.int .i64 k, .int .i64 y] w fun e w' => e = .returned (.bool (Isl.leap k y)) ∧ Below w.heap.size w w' := by
  by_cases hk : Isl.kB k = true
  · by_cases hy : Isl.yB y = true
    · have hl : Isl.leap k y = (Isl.leapsL k).contains (Isl.place y) := by simp [Isl.leap, hk, hy, Isl.lp]
      obtain ⟨y1, y2⟩ := Isl.yB_iff.1 hy
      rw [hl]; clear hl
      have hkH := Lib.hid hk
      go_enter Try.func22, Try.ntmps22
      go_wp2_with (first | (go_at_call 20; refine (ivalid_any _ _).mono ?_; rintro e w' ⟨rfl, rfl⟩) | (go_at_call 39; refine (iyear_any _ _).mono ?_; rintro e w' ⟨rfl, rfl⟩) | (go_at_call 40; refine (ileaps_any _ _ hkH.out).mono ?_; rintro e w1 ⟨b, rfl, hr, hb⟩; have hrH := Lib.hid hr; clear hr) | (go_at_call 41; refine (iplace_any _ _ y1 (by omega)).mono ?_; rintro e w' ⟨rfl, rfl⟩) | (go_at_call 34; refine (contains_leaps _ _ _ _ hrH.out).mono ?_; rintro e w' ⟨rfl, rfl⟩))
      go_ret
      exact ⟨by simp, hb⟩
    · have hl : Isl.leap k y = false := by simp [Isl.leap, hy]
      have hy' : Isl.yB y = false := by simpa using hy
      rw [hl]; clear hl hy
      go_enter Try.func22, Try.ntmps22
      go_wp2_with (first | (go_at_call 20; refine (ivalid_any _ _).mono ?_; rintro e w' ⟨rfl, rfl⟩) | (go_at_call 39; refine (iyear_any _ _).mono ?_; rintro e w' ⟨rfl, rfl⟩))
      go_ret
      exact ⟨by simp, Below.refl _ _⟩
  · have hl : Isl.leap k y = false := by simp [Isl.leap, hk]
    have hk' : Isl.kB k = false := by simpa using hk
    rw [hl]; clear hl hk
    go_enter Try.func22, Try.ntmps22
    go_wp2_with (go_at_call 20; refine (ivalid_any _ _).mono ?_; rintro e w' ⟨rfl, rfl⟩)
    go_ret
    exact ⟨by simp, Below.refl _ _⟩

set_option maxHeartbeats 1000000 in
theorem ilength_any (k y m : Int) (w : World) :
    Calls Try.prog 19 #[.int .i64 k, .int .i64 y, .int .i64 m] w fun e w' => e = .returned (.int .i64 (Isl.lenc k y m)) ∧ Below w.heap.size w w' := by
  by_cases hk : Isl.kB k = true
  · by_cases hy : Isl.yB y = true
    · by_cases h1 : 1 ≤ m
      · by_cases h2 : m ≤ 12
        · have hc : Isl.lenc k y m = Isl.len k y m := by unfold Isl.lenc; rw [if_pos ⟨hk, hy, h1, h2⟩]
          have hlp : Isl.leap k y = Isl.lp k y := by simp [Isl.leap, hk, hy]
          rw [hc]; clear hc
          by_cases h3 : m % 2 = 1
          · have hl : Isl.len k y m = 30 := by simp [Isl.len, h3]
            rw [hl]; clear hl
            go_enter Try.func19, Try.ntmps19
            go_wp2_with (first | (go_at_call 20; refine (ivalid_any _ _).mono ?_; rintro e w' ⟨rfl, rfl⟩) | (go_at_call 39; refine (iyear_any _ _).mono ?_; rintro e w' ⟨rfl, rfl⟩))
            go_ret
            exact ⟨rfl, Below.refl _ _⟩
          · have h3' : (m % 2 == 1) = false := by simpa using h3
            by_cases h4 : m = 12
            · subst h4
              have hl : Isl.len k y 12 = (if Isl.lp k y then 30 else 29) := by simp [Isl.len]
              rw [hl]; clear hl
              by_cases h5 : Isl.lp k y = true
              all_goals
                try have h5 : Isl.lp k y = false := by simpa using h5
                rw [h5]
                go_enter Try.func19, Try.ntmps19
                go_wp2_with (first | (go_at_call 20; refine (ivalid_any _ _).mono ?_; rintro e w' ⟨rfl, rfl⟩) | (go_at_call 39; refine (iyear_any _ _).mono ?_; rintro e w' ⟨rfl, rfl⟩) | (go_at_call 22; refine (ileap_any _ _ _).mono ?_; rintro e w1 ⟨rfl, hb⟩))
                go_ret
                exact ⟨rfl, hb⟩
            · have hl : Isl.len k y m = 29 := by simp [Isl.len, h3, h4]
              have h4' : (m == 12) = false := by simpa using h4
              rw [hl]; clear hl h4 h3
              go_enter Try.func19, Try.ntmps19
              go_wp2_with (first | (go_at_call 20; refine (ivalid_any _ _).mono ?_; rintro e w' ⟨rfl, rfl⟩) | (go_at_call 39; refine (iyear_any _ _).mono ?_; rintro e w' ⟨rfl, rfl⟩))
              go_ret
              exact ⟨rfl, Below.refl _ _⟩
        · have hc : Isl.lenc k y m = 0 := by unfold Isl.lenc; rw [if_neg (by omega)]
          rw [hc]; clear hc
          go_enter Try.func19, Try.ntmps19
          go_wp2_with (first | (go_at_call 20; refine (ivalid_any _ _).mono ?_; rintro e w' ⟨rfl, rfl⟩) | (go_at_call 39; refine (iyear_any _ _).mono ?_; rintro e w' ⟨rfl, rfl⟩))
          go_ret
          exact ⟨rfl, Below.refl _ _⟩
      · have hc : Isl.lenc k y m = 0 := by unfold Isl.lenc; rw [if_neg (by omega)]
        rw [hc]; clear hc
        go_enter Try.func19, Try.ntmps19
        go_wp2_with (first | (go_at_call 20; refine (ivalid_any _ _).mono ?_; rintro e w' ⟨rfl, rfl⟩) | (go_at_call 39; refine (iyear_any _ _).mono ?_; rintro e w' ⟨rfl, rfl⟩))
        go_ret
        exact ⟨rfl, Below.refl _ _⟩
    · have hc : Isl.lenc k y m = 0 := by unfold Isl.lenc; rw [if_neg (fun q => hy q.2.1)]
      have hy' : Isl.yB y = false := by simpa using hy
      rw [hc]; clear hc hy
      go_enter Try.func19, Try.ntmps19
      go_wp2_with (first | (go_at_call 20; refine (ivalid_any _ _).mono ?_; rintro e w' ⟨rfl, rfl⟩) | (go_at_call 39; refine (iyear_any _ _).mono ?_; rintro e w' ⟨rfl, rfl⟩))
      go_ret
      exact ⟨rfl, Below.refl _ _⟩
  · have hc : Isl.lenc k y m = 0 := by unfold Isl.lenc; rw [if_neg (fun q => hk q.1)]
    have hk' : Isl.kB k = false := by simpa using hk
    rw [hc]; clear hc hk
    go_enter Try.func19, Try.ntmps19
    go_wp2_with (go_at_call 20; refine (ivalid_any _ _).mono ?_; rintro e w' ⟨rfl, rfl⟩)
    go_ret
    exact ⟨rfl, Below.refl _ _⟩

theorem iylen_any (k y : Int) (w : World) :
    Calls Try.prog 25 #[.int .i64 k, .int .i64 y] w fun e w' => e = .returned (.int .i64 (Isl.ylenc k y)) ∧ Below w.heap.size w w' := by
  by_cases hk : Isl.kB k = true
  · by_cases hy : Isl.yB y = true
    · have hlp : Isl.leap k y = Isl.lp k y := by simp [Isl.leap, hk, hy]
      have hl : Isl.ylenc k y = (if Isl.lp k y then 355 else 354) := by simp [Isl.ylenc, hk, hy, Isl.ylen]
      rw [hl]; clear hl
      by_cases h5 : Isl.lp k y = true
      all_goals
        try have h5 : Isl.lp k y = false := by simpa using h5
        rw [h5]
        go_enter Try.func25, Try.ntmps25
        go_wp2_with (first | (go_at_call 20; refine (ivalid_any _ _).mono ?_; rintro e w' ⟨rfl, rfl⟩) | (go_at_call 39; refine (iyear_any _ _).mono ?_; rintro e w' ⟨rfl, rfl⟩) | (go_at_call 22; refine (ileap_any _ _ _).mono ?_; rintro e w1 ⟨rfl, hb⟩))
        go_ret
        exact ⟨rfl, hb⟩
    · have hc : Isl.ylenc k y = 0 := by unfold Isl.ylenc; rw [if_neg (fun q => hy q.2)]
      have hy' : Isl.yB y = false := by simpa using hy
      rw [hc]; clear hc hy
      go_enter Try.func25, Try.ntmps25
      go_wp2_with (first | (go_at_call 20; refine (ivalid_any _ _).mono ?_; rintro e w' ⟨rfl, rfl⟩) | (go_at_call 39; refine (iyear_any _ _).mono ?_; rintro e w' ⟨rfl, rfl⟩))
      go_ret
      exact ⟨rfl, Below.refl _ _⟩
  · have hc : Isl.ylenc k y = 0 := by unfold Isl.ylenc; rw [if_neg (fun q => hk q.1)]
    have hk' : Isl.kB k = false := by simpa using hk
    rw [hc]; clear hc hk
    go_enter Try.func25, Try.ntmps25
    go_wp2_with (go_at_call 20; refine (ivalid_any _ _).mono ?_; rintro e w' ⟨rfl, rfl⟩)
    go_ret
    exact ⟨rfl, Below.refl _ _⟩

set_option maxHeartbeats 400000 in
theorem ifirst_any (k y : Int) (w : World) (hk : Isl.kB k = true) (h1 : 1 ≤ y) (h2 : y ≤ 9601) :
    Calls Try.prog 35 #[.int .i64 k, .int .i64 y] w fun e w' => e = .returned (.int .i64 (Isl.first k y)) ∧ Below w.heap.size w w' := by
  have hkH := Lib.hid hk
  have hlen := Isl.leapsL_len k
  have hlenH := Lib.hid hlen
  clear hk hlen
  go_enter Try.func35, Try.ntmps35
  go_wp2_with (go_at_call 40; refine (ileaps_any _ _ hkH.out).mono ?_; rintro e w1 ⟨b, rfl, hr, hb⟩; have hrH := Lib.hid hr; clear hr)
  go_loop [5, 11] (fun t5 t11 => ∃ i : Nat, i ≤ 11 ∧ t11 = .int .i64 i ∧ t5 = .int .i64 (Isl.cnt ((Isl.leapsL k).take i) (Isl.place y))) (fun _ t => 11 - (intOf t).toNat)
  case atStart => exact ⟨0, by omega, rfl, val_int (by simp [Isl.cnt])⟩
  case round =>
    obtain ⟨i, hi, rfl, rfl⟩ := hrel
    have hcl := Isl.cnt_le (Isl.leapsL k) (Isl.place y) i
    by_cases hlt : i < 11
    · have hc := hrH.out.2 i (by rw [hlenH.out]; exact hlt)
      have hs := Isl.cnt_take (Isl.leapsL k) (Isl.place y) i (by rw [hlenH.out]; exact hlt)
      generalize (Isl.leapsL k).getD i 0 = x at hc hs
      generalize hq : Isl.cnt ((Isl.leapsL k).take i) (Isl.place y) = q at hs hcl
      have hsH := Lib.hid hs
      clear hs hq
      by_cases hx : x < Isl.place y
      · go_wp2_with (go_at_call 41; refine (iplace_any _ _ h1 (by omega)).mono ?_; rintro e w' ⟨rfl, rfl⟩)
        go_round
        case rel => exact ⟨i + 1, by omega, by go_num, val_int (by rw [hsH.out, if_pos hx])⟩
        case measure => simp [intOf]; omega
      · go_wp2_with (go_at_call 41; refine (iplace_any _ _ h1 (by omega)).mono ?_; rintro e w' ⟨rfl, rfl⟩)
        go_round
        case rel => exact ⟨i + 1, by omega, by go_num, val_int (by rw [hsH.out, if_neg (by omega)]; omega)⟩
        case measure => simp [intOf]; omega
    · obtain rfl : i = 11 := by omega
      have ht : (Isl.leapsL k).take 11 = Isl.leapsL k := by rw [List.take_of_length_le]; rw [hlenH.out]; omega
      have hcb := Isl.cnt_bd k (Isl.place y)
      have hp : Isl.place y = (y - 1) % 30 + 1 := rfl
      have hpb : 1 ≤ Isl.place y ∧ Isl.place y ≤ 30 := by rw [hp]; omega
      have hpH := Lib.hid hp
      clear hp
      rw [ht]
      clear ht
      go_wp2_with (go_at_call 41; refine (iplace_any _ _ h1 (by omega)).mono ?_; rintro e w' ⟨rfl, rfl⟩)
      go_ret
      exact ⟨ret_int (by unfold Isl.first; rw [hpH.out]; omega), hb⟩
end Go.Proofs.Ytbfdmpjgdpglgaa
