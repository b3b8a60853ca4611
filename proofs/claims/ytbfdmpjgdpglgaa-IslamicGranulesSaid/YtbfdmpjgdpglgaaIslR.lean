/- Contracts of the reference of layer 6: leap years, lengths, first days, the day of a date, the date of a day. No conditions. -/
import Derived.Test.YtbfdmpjgdpglgaaIslD
namespace Go.Proofs.Ytbfdmpjgdpglgaa
open Go.ChangeShapes Go.WideShapes Go.ChangeAt Go.RowKit

theorem rvalidk_any (k : Int) (w : World) :
    Calls Try.prog 21 #[.int .i64 k] w fun e w' => e = .returned (.bool (Isl.kB k)) ∧ w = w' := by
  have hl : Isl.kB k = (decide (1 ≤ k) && decide (k ≤ 4)) := by rw [Bool.eq_iff_iff]; simp [Isl.kB]
  rw [hl]; clear hl
  by_cases h1 : 1 ≤ k
  · go_enter Try.func21, Try.ntmps21
    go_wp2
    go_ret
    exact ⟨by simp [h1], rfl⟩
  · go_enter Try.func21, Try.ntmps21
    go_wp2
    go_ret
    exact ⟨by simp; omega, rfl⟩
set_option maxHeartbeats 1000000 in
theorem rleaps_any (k : Int) (w : World) (hk : Isl.kB k = true) :
    Calls Try.prog 43 #[.int .i64 k] w (LeapsOut k w) := by
  rcases Isl.kinds hk with rfl | rfl | rfl | rfl
  all_goals
    go_enter Try.func43, Try.ntmps43
    go_wp2
    go_ret
    refine ⟨_, rfl, ⟨by simp; try omega, fun i hi => ?_⟩, by go_grown⟩
    have hi' : i < 11 := hi
    rcases ten_one hi' with rfl | rfl | rfl | rfl | rfl | rfl | rfl | rfl | rfl | rfl | rfl <;> simp [go_sem, Isl.leapsL]


theorem ryear_any (k y : Int) (w : World) :
    Calls Try.prog 42 #[.int .i64 k, .int .i64 y] w fun e w' => e = .returned (.bool (Isl.kB k && Isl.yB y)) ∧ w = w' := by
  have hy : Isl.yB y = (decide (1 ≤ y) && decide (y ≤ 9600)) := by rw [Bool.eq_iff_iff]; simp [Isl.yB]
  by_cases hk : Isl.kB k = true
  · by_cases h1 : 1 ≤ y
    · rw [hk, hy]; clear hy
      go_enter Try.func42, Try.ntmps42
      go_wp2_with (go_at_call 21; refine (rvalidk_any _ _).mono ?_; rintro e w' ⟨rfl, rfl⟩)
      go_ret
      exact ⟨by simp [h1], rfl⟩
    · rw [hk, hy]; clear hy
      go_enter Try.func42, Try.ntmps42
      go_wp2_with (go_at_call 21; refine (rvalidk_any _ _).mono ?_; rintro e w' ⟨rfl, rfl⟩)
      go_ret
      exact ⟨by simp; omega, rfl⟩
  · have hk' : Isl.kB k = false := by simpa using hk
    rw [hk']; clear hk hy
    go_enter Try.func42, Try.ntmps42
    go_wp2_with (go_at_call 21; refine (rvalidk_any _ _).mono ?_; rintro e w' ⟨rfl, rfl⟩)
    go_ret
    exact ⟨by simp, rfl⟩

set_option maxHeartbeats 400000 in
theorem rleapi_any (k y : Int) (w : World) :
    Calls Try.prog 23 #[.int .i64 k, .int .i64 y] w fun e w' => e = .returned (.bool (Isl.leap k y)) ∧ Below w.heap.size w w' := by
  by_cases hk : Isl.kB k = true
  · by_cases hy : Isl.yB y = true
    · have hl : Isl.leap k y = (Isl.leapsL k).contains ((y - 1) % 30 + 1) := by simp [Isl.leap, hk, hy, Isl.lp, Isl.place]
      obtain ⟨y1, y2⟩ := Isl.yB_iff.1 hy
      have hkH := Lib.hid hk
      have hlen := Lib.hid (Isl.leapsL_len k)
      have hlH := Lib.hid hl
      clear hl
      go_enter Try.func23, Try.ntmps23
      go_wp2_with (first | (go_at_call 42; refine (ryear_any _ _ _).mono ?_; rintro e w' ⟨rfl, rfl⟩) | (go_at_call 43; refine (rleaps_any _ _ hkH.out).mono ?_; rintro e w1 ⟨b, rfl, hr, hb⟩; have hrH := Lib.hid hr; clear hr))
      clear hk
      go_loop [6] (fun t => ∃ i : Nat, i ≤ 11 ∧ t = .int .i64 i ∧ Hid (∀ j, j < i → (Isl.leapsL k).getD j 0 ≠ (y - 1) % 30 + 1)) (fun t => 11 - (intOf t).toNat)
      case atStart => exact ⟨0, by omega, rfl, fun j hj => absurd hj (by omega)⟩
      case round =>
        obtain ⟨i, hi, rfl, hno⟩ := hrel
        by_cases hlt : i < 11
        · have hc := hrH.out.2 i (by rw [hlen.out]; exact hlt)
          by_cases hv : (Isl.leapsL k).getD i 0 = (y - 1) % 30 + 1
          · rw [hv] at hc
            have hmem : (Isl.leapsL k).contains ((y - 1) % 30 + 1) = true := by
              rw [← hv]; simp only [List.contains_iff_mem, List.getD, List.getElem?_eq_getElem (show i < (Isl.leapsL k).length by rw [hlen.out]; exact hlt), Option.getD_some]
              exact List.getElem_mem _
            have hmH := Lib.hid hmem
            clear hv hmem
            go_wp2
            go_ret
            exact ⟨by rw [hlH.out, hmH.out]; rfl, hb⟩
          · generalize hx : (Isl.leapsL k).getD i 0 = x at hc hv
            have hv' : ((y - 1) % 30 + 1 == x) = false := by simpa using fun e => hv e.symm
            have hxH := Lib.hid hx
            have hvH := Lib.hid hv
            clear hx hv
            go_wp2
            go_round
            case rel => exact ⟨i + 1, by omega, by go_num, fun j hj => by
              rcases (show j < i ∨ j = i by omega) with q | q
              · exact hno.out j q
              · subst q; rw [hxH.out]; exact hvH.out⟩
            case measure => simp [intOf]; omega
        · obtain rfl : i = 11 := by omega
          have hmem : (Isl.leapsL k).contains ((y - 1) % 30 + 1) = false := by
            rw [Bool.eq_false_iff]; intro q
            rw [List.contains_iff_mem] at q
            obtain ⟨j, hj, e⟩ := List.mem_iff_getElem.1 q
            exact absurd (by simp [List.getD, hj, e]) (hno.out j (by rw [hlen.out] at hj; exact hj))
          have hmH := Lib.hid hmem
          clear hmem
          go_wp2
          go_ret
          exact ⟨by rw [hlH.out, hmH.out]; rfl, hb⟩
    · have hl : Isl.leap k y = false := by simp [Isl.leap, hy]
      have hy' : Isl.yB y = false := by simpa using hy
      rw [hl]; clear hl hy
      go_enter Try.func23, Try.ntmps23
      go_wp2_with (first | (go_at_call 42; refine (ryear_any _ _ _).mono ?_; rintro e w' ⟨rfl, rfl⟩))
      go_ret
      exact ⟨rfl, Below.refl _ _⟩
  · have hl : Isl.leap k y = false := by simp [Isl.leap, hk]
    have hk' : Isl.kB k = false := by simpa using hk
    rw [hl]; clear hl hk
    go_enter Try.func23, Try.ntmps23
    go_wp2_with (first | (go_at_call 42; refine (ryear_any _ _ _).mono ?_; rintro e w' ⟨rfl, rfl⟩))
    go_ret
    exact ⟨rfl, Below.refl _ _⟩
set_option maxHeartbeats 1000000 in
theorem rlengthi_any (k y m : Int) (w : World) :
    Calls Try.prog 24 #[.int .i64 k, .int .i64 y, .int .i64 m] w fun e w' => e = .returned (.int .i64 (Isl.lenc k y m)) ∧ Below w.heap.size w w' := by
  by_cases hk : Isl.kB k = true
  · by_cases hy : Isl.yB y = true
    · by_cases h1 : 1 ≤ m
      · by_cases h2 : m ≤ 12
        · have hc : Isl.lenc k y m = Isl.len k y m := by unfold Isl.lenc; rw [if_pos ⟨hk, hy, h1, h2⟩]
          have hlp : Isl.leap k y = Isl.lp k y := by simp [Isl.leap, hk, hy]
          rw [hc]; clear hc
          by_cases h3 : m % 2 = 1
          · have hl : Isl.len k y m = 30 := by simp [Isl.len, h3]
            rw [hl]; clear hl
            go_enter Try.func24, Try.ntmps24
            go_wp2_with (first | (go_at_call 42; refine (ryear_any _ _ _).mono ?_; rintro e w' ⟨rfl, rfl⟩))
            go_ret
            exact ⟨rfl, Below.refl _ _⟩
          · have h3' : (m % 2 == 1) = false := by simpa using h3
            by_cases h4 : m = 12
            · subst h4
              have hl : Isl.len k y 12 = (if Isl.lp k y then 30 else 29) := by simp [Isl.len]
              rw [hl]; clear hl
              by_cases h5 : Isl.lp k y = true
              all_goals
                try have h5 : Isl.lp k y = false := by simpa using h5
                rw [h5]
                go_enter Try.func24, Try.ntmps24
                go_wp2_with (first | (go_at_call 42; refine (ryear_any _ _ _).mono ?_; rintro e w' ⟨rfl, rfl⟩) | (go_at_call 23; refine (rleapi_any _ _ _).mono ?_; rintro e w1 ⟨rfl, hb⟩))
                go_ret
                exact ⟨rfl, hb⟩
            · have hl : Isl.len k y m = 29 := by simp [Isl.len, h3, h4]
              have h4' : (m == 12) = false := by simpa using h4
              rw [hl]; clear hl h4 h3
              go_enter Try.func24, Try.ntmps24
              go_wp2_with (first | (go_at_call 42; refine (ryear_any _ _ _).mono ?_; rintro e w' ⟨rfl, rfl⟩))
              go_ret
              exact ⟨rfl, Below.refl _ _⟩
        · have hc : Isl.lenc k y m = 0 := by unfold Isl.lenc; rw [if_neg (by omega)]
          rw [hc]; clear hc
          go_enter Try.func24, Try.ntmps24
          go_wp2_with (first | (go_at_call 42; refine (ryear_any _ _ _).mono ?_; rintro e w' ⟨rfl, rfl⟩))
          go_ret
          exact ⟨rfl, Below.refl _ _⟩
      · have hc : Isl.lenc k y m = 0 := by unfold Isl.lenc; rw [if_neg (by omega)]
        rw [hc]; clear hc
        go_enter Try.func24, Try.ntmps24
        go_wp2_with (first | (go_at_call 42; refine (ryear_any _ _ _).mono ?_; rintro e w' ⟨rfl, rfl⟩))
        go_ret
        exact ⟨rfl, Below.refl _ _⟩
    · have hc : Isl.lenc k y m = 0 := by unfold Isl.lenc; rw [if_neg (fun q => hy q.2.1)]
      have hy' : Isl.yB y = false := by simpa using hy
      rw [hc]; clear hc hy
      go_enter Try.func24, Try.ntmps24
      go_wp2_with (first | (go_at_call 42; refine (ryear_any _ _ _).mono ?_; rintro e w' ⟨rfl, rfl⟩))
      go_ret
      exact ⟨rfl, Below.refl _ _⟩
  · have hc : Isl.lenc k y m = 0 := by unfold Isl.lenc; rw [if_neg (fun q => hk q.1)]
    have hk' : Isl.kB k = false := by simpa using hk
    rw [hc]; clear hc hk
    go_enter Try.func24, Try.ntmps24
    go_wp2_with (go_at_call 42; refine (ryear_any _ _ _).mono ?_; rintro e w' ⟨rfl, rfl⟩)
    go_ret
    exact ⟨rfl, Below.refl _ _⟩


def BelowRel (w wr : World) (p : Prop) : Prop := Below w.heap.size w wr ∧ p
/-- days of a year's months below m, of a year that may be none -/
def sumc (k y m : Int) : Int := if Isl.kB k = true ∧ Isl.yB y = true then (if m = 13 then Isl.ylen k y else Isl.before m) else 0
theorem sumc_succ (k y : Int) {m : Int} (h1 : 1 ≤ m) (h2 : m ≤ 12) : sumc k y m + Isl.lenc k y m = sumc k y (m + 1) := by
  unfold sumc Isl.lenc
  by_cases h : Isl.kB k = true ∧ Isl.yB y = true
  · simp only [if_pos h]
    rw [if_pos (show Isl.kB k = true ∧ Isl.yB y = true ∧ 1 ≤ m ∧ m ≤ 12 from ⟨h.1, h.2, h1, h2⟩), if_neg (show ¬ m = 13 by omega)]
    by_cases h3 : m = 12
    · subst h3; exact Isl.before_12 k y
    · rw [if_neg (by omega)]; exact (Isl.before_succ k y h1 (by omega)).symm
  · simp only [if_neg h]; rw [if_neg (fun q => h ⟨q.1, q.2.1⟩)]; rfl
theorem sumc_bd (k y : Int) {m : Int} (h1 : 1 ≤ m) (h2 : m ≤ 13) : 0 ≤ sumc k y m ∧ sumc k y m ≤ 400 := by
  have := Isl.ylen_bd k y
  unfold sumc; split
  · split
    · omega
    · unfold Isl.before; omega
  · omega
theorem sumc_13 (k y : Int) : sumc k y 13 = Isl.ylenc k y := by unfold sumc Isl.ylenc; rfl
set_option maxHeartbeats 400000 in
theorem rylen_any (k y : Int) (w : World) :
    Calls Try.prog 26 #[.int .i64 k, .int .i64 y] w fun e w' => e = .returned (.int .i64 (Isl.ylenc k y)) ∧ Below w.heap.size w w' := by
  rw [← sumc_13]
  go_enter Try.func26, Try.ntmps26
  go_wp2
  go_loopg [5, 6] 13 (fun g t5 t6 wr => ∃ m : Int, 1 ≤ m ∧ m ≤ 13 ∧ t6 = .int .i64 m ∧ t5 = .int .i64 (sumc k y m) ∧ BelowRel w wr ((13 - m).toNat ≤ g))
  case atStart => exact ⟨1, by omega, by omega, rfl, val_int (by unfold sumc; split <;> rfl), Below.refl _ _, by omega⟩
  case round =>
    obtain ⟨m, m1, m2, rfl, rfl, hb, hg⟩ := hrel
    have hsb := sumc_bd k y m1 m2
    by_cases hlt : m ≤ 12
    · have hlb := Isl.lenc_bd k y m
      have hs := sumc_succ k y m1 hlt
      have hsH := Lib.hid hs
      have hsb2 := sumc_bd k y (show 1 ≤ m + 1 by omega) (by omega)
      clear hs
      go_wp2_with (go_at_call 24; refine (rlengthi_any _ _ _ _).mono ?_; rintro e w2 ⟨rfl, hb2⟩)
      go_roundg (gk - 1)
      case measure => omega
      case rel => exact ⟨m + 1, by omega, by omega, rfl, val_int hsH.out, below_then hb hb2, by omega⟩
    · obtain rfl : m = 13 := by omega
      go_wp2
      go_ret
      exact ⟨rfl, hb⟩
set_option maxHeartbeats 400000 in
theorem rnew_any (k y : Int) (w : World) :
    Calls Try.prog 14 #[.int .i64 k, .int .i64 y] w fun e w' => e = .returned (.tuple #[.int .i64 (Isl.newN k y), .int .i64 (Isl.newE k y)]) ∧ Below w.heap.size w w' := by
  by_cases hk : Isl.kB k = true
  · by_cases h1 : 1 ≤ y
    · by_cases h2 : y ≤ 9601
      · have hN : Isl.newN k y = Isl.first k y := by simp [Isl.newN, hk, h1, h2]
        have hE : Isl.newE k y = 0 := by simp [Isl.newE, hk, h1, h2]
        have hkH := Lib.hid hk
        have hst : Isl.first k (30 * ((y - 1) / 30) + 1) = -492148 + (y - 1) / 30 * 10631 := by
          unfold Isl.first Isl.place
          rw [show (30 * ((y - 1) / 30) + 1 - 1) % 30 = 0 by omega, show (30 * ((y - 1) / 30) + 1 - 1) / 30 = (y - 1) / 30 by omega]
          have := Isl.cnt_1 hk
          simp [this]
        have hstH := Lib.hid hst
        rw [hN, hE]; clear hN hE hst
        go_enter Try.func14, Try.ntmps14
        go_wp2_with (first | (go_at_call 21; refine (rvalidk_any _ _).mono ?_; rintro e w' ⟨rfl, rfl⟩))
        go_loopg [7, 8] 9601 (fun g t7 t8 wr => ∃ c : Int, 1 ≤ c ∧ c ≤ y ∧ t8 = .int .i64 c ∧ t7 = .int .i64 (Isl.first k c) ∧ BelowRel w wr ((y - c).toNat ≤ g))
        case atStart => exact ⟨30 * ((y - 1) / 30) + 1, by omega, by omega, rfl, val_int (by rw [hstH.out]; try omega), Below.refl _ _, by omega⟩
        case round =>
          obtain ⟨c, c1, c2, rfl, rfl, hb, hg⟩ := hrel
          have hfb := Isl.first_bd hkH.out c1 (by omega)
          by_cases hlt : c < y
          · have hyl : Isl.ylenc k c = Isl.ylen k c := by unfold Isl.ylenc; rw [if_pos ⟨hkH.out, Isl.yB_iff.2 ⟨c1, by omega⟩⟩]
            have hs : Isl.first k c + Isl.ylenc k c = Isl.first k (c + 1) := by rw [hyl]; exact (Isl.first_succ hkH.out c).symm
            have hyb : 0 ≤ Isl.ylenc k c ∧ Isl.ylenc k c ≤ 355 := by rw [hyl]; have := Isl.ylen_bd k c; omega
            have hsH := Lib.hid hs
            clear hs hyl
            go_wp2_with (go_at_call 26; refine (rylen_any _ _ _).mono ?_; rintro e w2 ⟨rfl, hb2⟩)
            go_roundg (gk - 1)
            case measure => omega
            case rel => exact ⟨c + 1, by omega, by omega, rfl, val_int hsH.out, below_then hb hb2, by omega⟩
          · obtain rfl : c = y := by omega
            go_wp2
            go_ret2
            exact ⟨rfl, hb⟩
      · have hN : Isl.newN k y = 0 := by simp [Isl.newN, h2]
        have hE : Isl.newE k y = 2 := by simp [Isl.newE, hk, h2]
        rw [hN, hE]; clear hN hE
        go_enter Try.func14, Try.ntmps14
        go_wp2_with (first | (go_at_call 21; refine (rvalidk_any _ _).mono ?_; rintro e w' ⟨rfl, rfl⟩))
        go_ret2
        exact ⟨rfl, Below.refl _ _⟩
    · have hN : Isl.newN k y = 0 := by simp [Isl.newN, h1]
      have hE : Isl.newE k y = 2 := by simp [Isl.newE, hk, h1]
      rw [hN, hE]; clear hN hE
      go_enter Try.func14, Try.ntmps14
      go_wp2_with (first | (go_at_call 21; refine (rvalidk_any _ _).mono ?_; rintro e w' ⟨rfl, rfl⟩))
      go_ret2
      exact ⟨rfl, Below.refl _ _⟩
  · have hN : Isl.newN k y = 0 := by simp [Isl.newN, hk]
    have hE : Isl.newE k y = 1 := by simp [Isl.newE, hk]
    have hk' : Isl.kB k = false := by simpa using hk
    rw [hN, hE]; clear hN hE hk
    go_enter Try.func14, Try.ntmps14
    go_wp2_with (first | (go_at_call 21; refine (rvalidk_any _ _).mono ?_; rintro e w' ⟨rfl, rfl⟩))
    go_ret2
    exact ⟨rfl, Below.refl _ _⟩
end Go.Proofs.Ytbfdmpjgdpglgaa
