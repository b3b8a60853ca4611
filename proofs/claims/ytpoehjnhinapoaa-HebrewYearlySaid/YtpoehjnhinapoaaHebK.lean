/- The walks of HebrewNewYears and HebrewMolads. No conditions. -/
import Derived.Test.YtpoehjnhinapoaaHebJ
namespace Heb
/-- the lengths of the first k months, by their numbers -/
def sumA (l : Bool) (c : Int) : Nat → Int
  | 0 => 0
  | k + 1 => sumA l c k + lenA l c ((k : Int) + 1)
theorem sum_all {l : Bool} {c : Int} (hc : c = 3 ∨ c = 4 ∨ c = 5) : sumA l c (nm l) = (if l then 380 else 350) + c :=
  cls (fun l c => sumA l c (nm l) = (if l then 380 else 350) + c) hc (by decide)
theorem sum_bd (l : Bool) (c : Int) : ∀ k : Nat, 29 * (k : Int) ≤ sumA l c k ∧ sumA l c k ≤ 30 * k
  | 0 => by simp [sumA]
  | k + 1 => by have := sum_bd l c k; have := lenA_bd l c ((k : Int) + 1); simp only [sumA]; omega
theorem year_kinds {y : Int} (h1 : 1 ≤ y) (h2 : y ≤ 20000) : (ylenc y = 353 ∧ leap y = false) ∨ (ylenc y = 354 ∧ leap y = false) ∨ (ylenc y = 355 ∧ leap y = false) ∨ (ylenc y = 383 ∧ leap y = true) ∨ (ylenc y = 384 ∧ leap y = true) ∨ (ylenc y = 385 ∧ leap y = true) := by
  have h := (seen h1 (show y ≤ 20480 by omega)).len
  have e1 : ylenc y = ylen y := by simp [ylenc, yB]; omega
  have e2 : leap y = lp y := by simp [leap, yB]; omega
  rw [e1, e2]
  cases hl : lp y
  · rw [hl, if_neg (by simp)] at h
    rcases h with h | h | h <;> simp [h]
  · rw [hl, if_pos rfl] at h
    rcases h with h | h | h <;> simp [h]
theorem sum_year {y : Int} (h1 : 1 ≤ y) (h2 : y ≤ 20000) : sumA (lp y) (ylen y % 10) (nm (lp y)) = ylenc y := by
  have h := ylen_c h1 (show y ≤ 20480 by omega)
  have e1 : ylenc y = ylen y := by simp [ylenc, yB]; omega
  rw [sum_all h.1, e1]; exact h.2.symm
theorem sum_step {y : Int} (h1 : 1 ≤ y) (h2 : y ≤ 20000) {k : Nat} (hk : k < nm (lp y)) : sumA (lp y) (ylen y % 10) k + lenc y ((k : Int) + 1) = sumA (lp y) (ylen y % 10) (k + 1) := by
  have e : lenc y ((k : Int) + 1) = len y ((k : Int) + 1) := by
    unfold lenc mthc; rw [if_pos (yB_iff.2 ⟨h1, h2⟩), ← nm_mths, if_pos (by omega)]
  rw [e]; rfl
theorem new_wd {y : Int} (h1 : 1 ≤ y) (h2 : y ≤ 20000) : ((bg y + 3) % 7 + 1 == 7) = false ∧ ((bg y + 3) % 7 + 1 == 3) = false ∧ ((bg y + 3) % 7 + 1 == 5) = false := by
  have h := (seen h1 (show y ≤ 20480 by omega)).wk
  refine ⟨?_, ?_, ?_⟩ <;> simp <;> omega
theorem prt_fol {y m : Int} (h : moB y m = true) : prt (folY y m) (folM y m) = prt y m + 765433 := by
  obtain ⟨m1, m2⟩ := moB_iff.1 h
  obtain ⟨hy, hmm⟩ := mthc_y (y := y) (by omega)
  have hb := mths_bd y
  have hs := bf_succ y
  unfold prt
  have k : folM y m - 7 + bf (mx (folY y m) (folM y m)) = m - 7 + bf (mx y m) + 1 := by
    by_cases q : m = 6
    · have a : folM y m = 7 := by simp [folM, q]
      have b : folY y m = y + 1 := by simp [folY, q]
      rw [a, b]; subst q; simp [mx]; omega
    · have b : folY y m = y := by simp [folY, q]
      by_cases q2 : 12 ≤ m ∧ m = mthc y
      · have a : folM y m = 1 := by unfold folM; rw [if_neg q, if_pos q2]
        rw [a, b]; unfold mx; rw [if_pos (by omega), if_neg (by omega)]; omega
      · have a : folM y m = m + 1 := by unfold folM; rw [if_neg q, if_neg q2]
        rw [a, b]; unfold mx
        by_cases q3 : m < 7
        · rw [if_pos (by omega), if_pos q3]; omega
        · rw [if_neg (by omega), if_neg q3]; omega
  rw [k]; omega
theorem mol_fol {y m : Int} (h : moB y m = true) (h2 : moB (folY y m) (folM y m) = true) : (moD (folY y m) (folM y m) - moD y m) * 25920 + moP (folY y m) (folM y m) - moP y m = 765433 := by
  have := prt_fol h
  have a : moD y m = -2092590 + prt y m / 25920 := by simp [moD, h]
  have b : moP y m = prt y m % 25920 := by simp [moP, h]
  have c : moD (folY y m) (folM y m) = -2092590 + prt (folY y m) (folM y m) / 25920 := by simp [moD, h2]
  have d : moP (folY y m) (folM y m) = prt (folY y m) (folM y m) % 25920 := by simp [moP, h2]
  rw [a, b, c, d]; omega
theorem mol_bd {y m : Int} (h : moB y m = true) : 0 ≤ moP y m ∧ moP y m < 25920 ∧ -2100000 ≤ moD y m ∧ moD y m ≤ 10000000 := by
  obtain ⟨m1, m2⟩ := moB_iff.1 h
  obtain ⟨hy, hmm⟩ := mthc_y (y := y) (by omega)
  obtain ⟨y1, y2⟩ := yB_iff.1 hy
  have hb := mths_bd y
  have b : moP y m = prt y m % 25920 := by simp [moP, h]
  have a : moD y m = -2092590 + prt y m / 25920 := by simp [moD, h]
  have hp : -100000000 ≤ prt y m ∧ prt y m ≤ 250000000000 := by
    have hbf : ∀ x : Int, x = y ∨ x = y + 1 → 0 ≤ bf x ∧ bf x ≤ 250000 := fun x hx => by unfold bf; omega
    unfold prt mx; split
    · have := hbf (y + 1) (Or.inr rfl); omega
    · have := hbf y (Or.inl rfl); omega
  rw [a, b]; omega
theorem mol_7 {y : Int} (h1 : 1 ≤ y) (h2 : y ≤ 20000) : moE y 7 = 0 ∧ 0 ≤ nwc y - moD y 7 ∧ nwc y - moD y 7 ≤ 2 ∧ yE y = 0 := by
  have hy := yB_iff.2 ⟨h1, h2⟩
  have hb := mths_bd y
  have hm : moB y 7 = true := moB_iff.2 (by unfold mthc; rw [if_pos hy]; omega)
  have s := (seen h1 (show y ≤ 20480 by omega)).mol
  have e : prt y 7 / 25920 = mo y := by unfold prt mx mo; rw [if_neg (by omega), show (7 : Int) - 7 + bf y = bf y by omega]
  refine ⟨by simp [moE, hm], ?_, ?_, by simp [yE, hy]⟩ <;> simp only [nwc, moD, hm, hy, if_true, e] <;> omega
theorem fol_bd {y m : Int} (h1 : 1 ≤ y) (h2 : y ≤ 20000) : 1 ≤ folY y m ∧ folY y m ≤ 20001 := by unfold folY; split <;> omega
end Heb
namespace Go.Proofs.Ytpoehjnhinapoaa
open Go.ChangeShapes Go.WideShapes Go.ChangeAt Go.RowKit

theorem follows_any (y m : Int) (w : World) (h1 : 1 ≤ y) (h2 : y ≤ 20000) (m1 : 1 ≤ m) (m2 : m ≤ 13) :
    Calls Try.prog 33 #[.int .i64 y, .int .i64 m] w fun e w' => e = .returned (.tuple #[.int .i64 (Heb.folY y m), .int .i64 (Heb.folM y m)]) ∧ ∃ k, w' = w.drewN k := by
  by_cases q : m = 6
  · subst q
    go_enter Try.func33, Try.ntmps33
    go_wp2
    go_ret2
    exact ⟨rfl, 0, rfl⟩
  · have b : Heb.folY y m = y := by simp [Heb.folY, q]
    have q' : (m == 6) = false := by simpa using q
    by_cases q2 : 12 ≤ m
    · by_cases q3 : m = Heb.mthc y
      · have a : Heb.folM y m = 1 := by unfold Heb.folM; rw [if_neg q, if_pos ⟨q2, q3⟩]
        have q3' : (m == Heb.mthc y) = true := by simpa using q3
        rw [a, b]; clear a b q q3
        go_enter Try.func33, Try.ntmps33
        go_wp2_with (first | (go_at_call 17; refine (hmonths_any _ _).mono ?_; rintro e w' ⟨rfl, kd, rfl⟩))
        go_ret2
        exact ⟨rfl, _, rfl⟩
      · have a : Heb.folM y m = m + 1 := by unfold Heb.folM; rw [if_neg q, if_neg (fun h => q3 h.2)]
        have q3' : (m == Heb.mthc y) = false := by simpa using q3
        rw [a, b]; clear a b q q3
        go_enter Try.func33, Try.ntmps33
        go_wp2_with (first | (go_at_call 17; refine (hmonths_any _ _).mono ?_; rintro e w' ⟨rfl, kd, rfl⟩))
        go_ret2
        exact ⟨rfl, _, rfl⟩
    · have a : Heb.folM y m = m + 1 := by unfold Heb.folM; rw [if_neg q, if_neg (fun h => q2 h.1)]
      rw [a, b]; clear a b q
      go_enter Try.func33, Try.ntmps33
      go_wp2
      go_ret2
      exact ⟨rfl, 0, rfl⟩

set_option maxHeartbeats 2000000 in
theorem wHebrewMolads (y m : Int) (w : World) (_h : -9223372036854775808 ≤ y ∧ y ≤ 9223372036854775807) (_h2 : -9223372036854775808 ≤ m ∧ m ≤ 9223372036854775807) :
    Calls Try.prog 8 #[.int .i64 y, .int .i64 m] w fun e w' => e = .returned (.bool true) ∧ Below w.heap.size w w' := by
  by_cases hm : Heb.moB y m = true
  · obtain ⟨m1, m2⟩ := Heb.moB_iff.1 hm
    obtain ⟨hy, hmm⟩ := Heb.mthc_y (y := y) (by omega)
    obtain ⟨y1, y2⟩ := Heb.yB_iff.1 hy
    have hmb := Heb.mths_bd y
    have hE : Heb.moE y m = 0 := by simp [Heb.moE, hm]
    have hfb := Heb.fol_bd (m := m) y1 y2
    obtain ⟨p1, p2, p3, p4⟩ := Heb.mol_bd hm
    obtain ⟨e7, s1, s2, eY⟩ := Heb.mol_7 y1 y2
    have hbg := Heb.bg_size (y := y) (by omega) (by omega)
    have hnw : Heb.nwc y = Heb.bg y := by simp [Heb.nwc, hy]
    rw [← hnw] at hbg
    have m13 : m ≤ 13 := by omega
    have hEH := Lib.hid hE; have e7H := Lib.hid e7; have eYH := Lib.hid eY
    clear hmm hnw hy
    by_cases hm2 : Heb.moB (Heb.folY y m) (Heb.folM y m) = true
    · obtain ⟨_, _, r3, r4⟩ := Heb.mol_bd hm2
      have hE2 : Heb.moE (Heb.folY y m) (Heb.folM y m) = 0 := by simp [Heb.moE, hm2]
      obtain ⟨r1, r2, _, _⟩ := Heb.mol_bd hm2
      have hf := Heb.mol_fol hm hm2
      clear hm hm2
      have hfb' : ((Heb.moD (Heb.folY y m) (Heb.folM y m) - Heb.moD y m) * 25920 + Heb.moP (Heb.folY y m) (Heb.folM y m) - Heb.moP y m != 765433) = false := by rw [hf]; rfl
      clear hf
      go_enter Try.func8, Try.ntmps8
      go_wp2_with (first | (go_at_call 14; refine (awake_any _).mono ?_; rintro e w' ⟨rfl, hb0⟩) | (go_at_call 30; refine (hmolad_any _ _ _).mono ?_; rintro e w' ⟨rfl, kd, rfl⟩) | (go_at_call 33; refine (follows_any _ _ _ (by omega) (by omega) (by omega) (by omega)).mono ?_; rintro e w' ⟨rfl, kd, rfl⟩) | (go_at_call 20; refine (hNew_any _ _).mono ?_; rintro e w' ⟨rfl, kd, rfl⟩))
      go_ret
      exact ⟨by simp; try omega, by (repeat (first | exact Below.refl _ _ | assumption | refine below_drewN ?_ _ | refine below_alloc1 ?_ _ | refine below_then ?_ (by assumption)))⟩
    · have hE2 : Heb.moE (Heb.folY y m) (Heb.folM y m) = 2 := by simp [Heb.moE, hm2]
      clear hm hm2
      go_enter Try.func8, Try.ntmps8
      go_wp2_with (first | (go_at_call 14; refine (awake_any _).mono ?_; rintro e w' ⟨rfl, hb0⟩) | (go_at_call 30; refine (hmolad_any _ _ _).mono ?_; rintro e w' ⟨rfl, kd, rfl⟩) | (go_at_call 33; refine (follows_any _ _ _ (by omega) (by omega) (by omega) (by omega)).mono ?_; rintro e w' ⟨rfl, kd, rfl⟩) | (go_at_call 20; refine (hNew_any _ _).mono ?_; rintro e w' ⟨rfl, kd, rfl⟩))
      go_ret
      exact ⟨by simp; try omega, by (repeat (first | exact Below.refl _ _ | assumption | refine below_drewN ?_ _ | refine below_alloc1 ?_ _ | refine below_then ?_ (by assumption)))⟩
  · have hE : (Heb.moE y m != 0) = true := by simp [Heb.moE, hm]
    have hways : m < 1 ∨ (¬ m < 1 ∧ Heb.mthc y < m) := by rw [Heb.moB_iff] at hm; omega
    clear hm
    rcases hways with q | ⟨q, q'⟩
    all_goals
      go_enter Try.func8, Try.ntmps8
      go_wp2_with (first | (go_at_call 14; refine (awake_any _).mono ?_; rintro e w' ⟨rfl, hb0⟩) | (go_at_call 30; refine (hmolad_any _ _ _).mono ?_; rintro e w' ⟨rfl, kd, rfl⟩) | (go_at_call 17; refine (hmonths_any _ _).mono ?_; rintro e w' ⟨rfl, kd, rfl⟩))
      go_ret
      exact ⟨by simp; try omega, by (repeat (first | exact Below.refl _ _ | assumption | refine below_drewN ?_ _ | refine below_alloc1 ?_ _ | refine below_then ?_ (by assumption)))⟩

def SumRel (w wr : World) (p : Prop) : Prop := Below w.heap.size w wr ∧ p
set_option maxHeartbeats 4000000 in
theorem wHebrewNewYears (y : Int) (w : World) (_h : -9223372036854775808 ≤ y ∧ y ≤ 9223372036854775807) :
    Calls Try.prog 6 #[.int .i64 y] w fun e w' => e = .returned (.bool true) ∧ Below w.heap.size w w' := by
  by_cases hy : Heb.yB y = true
  · obtain ⟨y1, y2⟩ := Heb.yB_iff.1 hy
    have eY : Heb.yE y = 0 := by simp [Heb.yE, hy]
    have eN : Heb.nwc y = Heb.bg y := by simp [Heb.nwc, hy]
    have hbg := Heb.bg_size (y := y) (by omega) (by omega)
    have hmc : Heb.mthc y = Heb.nm (Heb.lp y) := by rw [Heb.nm_mths]; simp [Heb.mthc, hy]
    have hN : Heb.nm (Heb.lp y) ≤ 13 := by cases Heb.lp y <;> decide
    have hS := Lib.hid (fun k (h : k < Heb.nm (Heb.lp y)) => Heb.sum_step y1 y2 h)
    have hB := Lib.hid (fun k => Heb.sum_bd (Heb.lp y) (Heb.ylen y % 10) k)
    have hEnd := Lib.hid (Heb.sum_year y1 y2)
    have hz : Heb.sumA (Heb.lp y) (Heb.ylen y % 10) 0 = 0 := rfl
    have hzH := Lib.hid hz
    obtain ⟨w1, w2, w3⟩ := Heb.new_wd y1 y2
    have hst : Heb.yE (y + 1) = 0 → Heb.nwc (y + 1) - Heb.bg y = Heb.ylenc y := by
      intro h
      have hy2 : Heb.yB (y + 1) = true := by
        cases q : Heb.yB (y + 1)
        · rw [Heb.yE, q] at h; simp at h
        · rfl
      have := Heb.bg_step (y := y)
      simp only [Heb.nwc, Heb.ylenc, hy, hy2, if_true]; omega
    have hyE : Heb.yE (y + 1) = 0 ∨ Heb.yE (y + 1) = 2 := by unfold Heb.yE; split <;> simp
    have hwd : wdG (Heb.bg y) = if Cal.inB (Heb.bg y) then (Heb.bg y + 3) % 7 + 1 else 0 := rfl
    have hk := Heb.year_kinds y1 y2
    have hkB : 0 ≤ Heb.nwc (y + 1) ∨ 0 > Heb.nwc (y + 1) := by omega
    have hnb : -2097000 ≤ Heb.nwc (y + 1) ∧ Heb.nwc (y + 1) ≤ 5500000 := by
      have := Heb.bg_size (y := y + 1) (by omega) (by omega)
      unfold Heb.nwc; split <;> omega
    have eNH := Lib.hid eN
    have hmH := Lib.hid hmc
    clear hkB hz hy
    generalize Heb.sumA (Heb.lp y) (Heb.ylen y % 10) = S at *
    generalize Heb.nm (Heb.lp y) = N at *
    generalize Heb.bg y = B at *
    have hwH := Lib.hid hwd
    clear hwd eN hmc
    have ways : (-719162 ≤ B ∧ B < 2932897 ∧ wdG B = (B + 3) % 7 + 1) ∨ B < -719162 ∨ (-719162 ≤ B ∧ 2932897 ≤ B) := by
      rcases (show (-719162 ≤ B ∧ B < 2932897) ∨ B < -719162 ∨ (-719162 ≤ B ∧ 2932897 ≤ B) by omega) with ⟨a, b⟩ | q
      · refine Or.inl ⟨a, b, ?_⟩
        rw [hwH.out, if_pos (Cal.inB_iff.2 ⟨a, b⟩)]
      · exact Or.inr q
    have hways := Lib.hid ways
    have hstH := Lib.hid hst
    clear ways hst hwH
    rcases hk with ⟨hn, hl⟩ | ⟨hn, hl⟩ | ⟨hn, hl⟩ | ⟨hn, hl⟩ | ⟨hn, hl⟩ | ⟨hn, hl⟩
    all_goals
      have hnH := Lib.hid hn
      go_enter Try.func6, Try.ntmps6
      go_wp2_with (first | (go_at_call 14; refine (awake_any _).mono ?_; rintro e w' ⟨rfl, hb0⟩) | (go_at_call 20; refine (hNew_any _ _).mono ?_; rintro e w' ⟨rfl, kd, rfl⟩; rw [eNH.out]) | (go_at_call 18; refine (hylen_any _ _).mono ?_; rintro e w' ⟨rfl, kd, rfl⟩) | (go_at_call 19; refine (hLeap_any _ _).mono ?_; rintro e w' ⟨rfl, kd, rfl⟩))
      go_loopg [6, 7] 14 (fun g t6 t7 wr => ∃ k : Nat, k ≤ N ∧ t7 = .int .i64 ((k : Int) + 1) ∧ t6 = .int .i64 (S k) ∧ SumRel w wr (14 - k ≤ g))
      case atStart => exact ⟨0, by omega, rfl, val_int (by rw [hzH.out]), by (repeat (first | exact Below.refl _ _ | assumption | refine below_drewN ?_ _ | refine below_alloc1 ?_ _ | refine below_then ?_ (by assumption))), by omega⟩
      case round =>
        clear hb0
        obtain ⟨k, hk, rfl, rfl, hb, hg⟩ := hrel
        have hcb := hB.out k
        by_cases hlt : k < N
        · have hs := Lib.hid (hS.out k hlt)
          have hlk := Heb.lenc_bd y ((k : Int) + 1)
          go_wp2_with (first | (go_at_call 17; refine (hmonths_any _ _).mono ?_; rintro e w' ⟨rfl, kd, rfl⟩; rw [hmH.out]) | (go_at_call 28; refine (hlength_any _ _ _).mono ?_; rintro e w' ⟨rfl, kd, rfl⟩))
          go_roundg (gk - 1)
          case measure => omega
          case rel => exact ⟨k + 1, by omega, by go_num, val_int hs.out, by (repeat (first | exact Below.refl _ _ | assumption | refine below_drewN ?_ _ | refine below_alloc1 ?_ _ | refine below_then ?_ (by assumption))), by omega⟩
        · obtain rfl : k = N := by omega
          have hEq : S k = Heb.ylenc y := hEnd.out
          rw [hnH.out] at hEq
          rw [hEq]
          rcases hyE with q | q
          · have hst2 := hstH.out q
            rw [hnH.out] at hst2
            rcases hways.out with ⟨a, b, c⟩ | a | ⟨a, b⟩
            all_goals
              try rw [← c] at w1 w2 w3
              try clear c
              go_wp2_with (first | (go_at_call 17; refine (hmonths_any _ _).mono ?_; rintro e w' ⟨rfl, kd, rfl⟩; rw [hmH.out]) | (go_at_call 20; refine (hNew_any _ _).mono ?_; rintro e w' ⟨rfl, kd, rfl⟩) | (go_at_call 29; refine (cweekday_any _ _).mono ?_; rintro e w' ⟨rfl, kd, rfl⟩))
              go_ret
              exact ⟨by simp, by (repeat (first | exact Below.refl _ _ | assumption | refine below_drewN ?_ _ | refine below_alloc1 ?_ _ | refine below_then ?_ (by assumption)))⟩
          · rcases hways.out with ⟨a, b, c⟩ | a | ⟨a, b⟩
            all_goals
              try rw [← c] at w1 w2 w3
              try clear c
              go_wp2_with (first | (go_at_call 17; refine (hmonths_any _ _).mono ?_; rintro e w' ⟨rfl, kd, rfl⟩; rw [hmH.out]) | (go_at_call 20; refine (hNew_any _ _).mono ?_; rintro e w' ⟨rfl, kd, rfl⟩) | (go_at_call 29; refine (cweekday_any _ _).mono ?_; rintro e w' ⟨rfl, kd, rfl⟩))
              go_ret
              exact ⟨by simp, by (repeat (first | exact Below.refl _ _ | assumption | refine below_drewN ?_ _ | refine below_alloc1 ?_ _ | refine below_then ?_ (by assumption)))⟩
  · have eY : (Heb.yE y != 0) = true := by simp [Heb.yE, hy]
    have hways : y < 1 ∨ (¬ y < 1 ∧ 20000 < y) := by rw [Heb.yB_iff] at hy; omega
    clear hy
    rcases hways with q | ⟨q, q'⟩
    all_goals
      go_enter Try.func6, Try.ntmps6
      go_wp2_with (first | (go_at_call 14; refine (awake_any _).mono ?_; rintro e w' ⟨rfl, hb0⟩) | (go_at_call 20; refine (hNew_any _ _).mono ?_; rintro e w' ⟨rfl, kd, rfl⟩))
      go_ret
      exact ⟨by simp, by (repeat (first | exact Below.refl _ _ | assumption | refine below_drewN ?_ _ | refine below_alloc1 ?_ _ | refine below_then ?_ (by assumption)))⟩
end Go.Proofs.Ytpoehjnhinapoaa
