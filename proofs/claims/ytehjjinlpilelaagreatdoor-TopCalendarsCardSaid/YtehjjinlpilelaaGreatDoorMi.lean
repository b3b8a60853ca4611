/- Contracts of hebrew.Day and hebrew.Date. No conditions. -/
import Derived.Test.YtehjjinlpilelaaGreatDoorMh
import Derived.Test.YtehjjinlpilelaaGreatDoorSCivil
namespace Heb
theorem date_start {n : Int} (h1 : -2092590 ≤ n) (h2 : n < 5212335) : ∀ y0 : Int, y0 = (n + 2092590) / 366 ∨ y0 = 1 → 1 ≤ y0 → y0 ≤ 20000 ∧ bg y0 ≤ n := by
  intro y0 h h3
  have e : y0 ≤ 20000 := by omega
  have s := (seen (y := y0) h3 (by omega)).up
  rcases h with rfl | rfl
  · exact ⟨e, by omega⟩
  · exact ⟨e, by rw [bg_1]; exact h1⟩
/-- what the search for the month ends with -/
theorem at_res {n y : Int} {k : Nat} (h1 : 1 ≤ y) (h2 : y ≤ 20000) (hk : k < nm (lp y)) (c1 : cumA (lp y) (ylen y % 10) k ≤ n - bg y) (c2 : n - bg y - cumA (lp y) (ylen y % 10) k < lenc y (ordF (lp y) k)) :
    y = yH n ∧ ordF (lp y) k = mH n ∧ n - bg y - cumA (lp y) (ylen y % 10) k + 1 = aH n := by
  obtain ⟨o1, o2, _⟩ := ord_of hk
  rw [nm_mths] at o2
  have e : lenc y (ordF (lp y) k) = len y (ordF (lp y) k) := by unfold lenc mthc; rw [if_pos (yB_iff.2 ⟨h1, h2⟩), if_pos ⟨o1, o2⟩]
  rw [e] at c2
  obtain ⟨a, b⟩ := at_of h1 h2 hk c1 c2
  exact dt_eq a b
end Heb
namespace Go.Proofs.YtehjjinlpilelaaGreatDoor
set_option maxRecDepth 100000
open Go.ChangeShapes Go.WideShapes Go.ChangeAt Go.RowKit

def ZBox (w wr : World) : Prop := Box3 wr w.heap.size (.int .i64 0) (.int .i64 0) (.int .i64 0)
def YRel (w : World) (n y : Int) (wr : World) (g : Nat) : Prop := Below w.heap.size w wr ∧ ZBox w wr ∧ 1 ≤ y ∧ y ≤ 20000 ∧ Heb.bg y ≤ n ∧ (20000 - y).toNat ≤ g
def MRel (w : World) (b : Nat) (xs : List Int) (wr : World) (p : Prop) : Prop := Below w.heap.size w wr ∧ ZBox w wr ∧ Ints wr b xs ∧ p

set_option maxHeartbeats 2000000 in
theorem hdate_any (n : Int) (w : World) (h1 : -2092590 ≤ n) (h2 : n < 5212335) :
    Calls Tryz.prog 54 #[.int .i64 n] w fun e w' => e = .returned (.agg #[.int .i64 (Heb.yH n), .int .i64 (Heb.mH n), .int .i64 (Heb.aH n)]) ∧ Below w.heap.size w w' := by
  have hst := Lib.hid (Heb.date_start h1 h2)
  have hq2 : (n + 2092590) / 366 ≤ 20000 := by omega
  by_cases hq : (n + 2092590) / 366 ≤ 1
  all_goals
    go_enter Tryz.func54, Tryz.ntmps54
    go_wp2_with fail
    go_loopg [3] 20000 (fun g t3 wr => ∃ y : Int, t3 = .int .i64 y ∧ YRel w n y wr g)
    case atStart =>
      refine ⟨_, rfl, by go_grown, Box3.new w _ _ _ _, ?_, ?_, ?_, ?_⟩
      · omega
      · exact (hst.out _ (by omega) (by omega)).1
      · exact (hst.out _ (by omega) (by omega)).2
      · omega
    case round =>
      obtain ⟨y, rfl, hb, hZ, y1, y2, y3, hg⟩ := hrel
      have hZH := Lib.hid hZ
      clear hZ
      have hsz := Heb.bg_size (y := y) (by omega) (by omega)
      by_cases hc : Heb.bg (y + 1) ≤ n
      · have hy : y < 20000 := by
          by_cases q : y < 20000
          · exact q
          · obtain rfl : y = 20000 := by omega
            rw [show (20000 : Int) + 1 = 20001 by rfl, Heb.bg_20001] at hc; omega
        go_wp2_with (first | (go_at_call 91; refine (hbegin_any _ _ (by omega) (by omega)).mono ?_; rintro e w' ⟨rfl, kd, rfl⟩))
        go_roundg (gk - 1)
        case measure => omega
        case rel => exact ⟨y + 1, rfl, below_drewN (hb) _, Box3.drewN (hZH.out) _, by omega, by omega, hc, by omega⟩
      · have hz : n < Heb.bg (y + 1) := by omega
        have hrest : n - Heb.bg y < Heb.cumA (Heb.lp y) (Heb.ylen y % 10) (Heb.nm (Heb.lp y)) := by
          rw [Heb.cum_ylen y1 (by omega)]; unfold Heb.ylen; omega
        have hyl := Heb.ylen_bd (y := y) y1 (by omega)
        have hsmall : n - Heb.bg y ≤ 385 := by unfold Heb.ylen at hyl; omega
        have hyB := Heb.yB_iff.2 ⟨y1, y2⟩
        have hyH := Lib.hid hyB
        have hN : Heb.nm (Heb.lp y) ≤ 13 := by cases Heb.lp y <;> decide
        have hS := Lib.hid (fun k (h : k < Heb.nm (Heb.lp y)) => Heb.cum_lenc hyB h)
        have hB := Lib.hid (fun k => Heb.cum_bd (Heb.lp y) (Heb.ylen y % 10) k)
        have hR := Lib.hid (fun k (hk : k < Heb.nm (Heb.lp y)) a b => Heb.at_res (n := n) y1 y2 hk a b)
        have hlc := Lib.hid (fun k => Heb.lenc_bd y (Heb.ordF (Heb.lp y) k))
        have hzz : Heb.cumA (Heb.lp y) (Heb.ylen y % 10) 0 = 0 := rfl
        have hzH := Lib.hid hzz
        have hrH := Lib.hid hrest
        clear hc hyB hzz hrest hyl hst
        go_wp2_with (first | (go_at_call 91; refine (hbegin_any _ _ (by omega) (by omega)).mono ?_; rintro e w' ⟨rfl, kd, rfl⟩))
        go_wp2_with (first | (go_at_call 92; refine (horder_any _ _ hyH.out).mono ?_; rintro e w' ⟨b, cap, rfl, hI, hbo⟩; have hIH := Lib.hid hI; clear hI) | (go_at_call 91; refine (hbegin_any _ _ (by omega) (by omega)).mono ?_; rintro e w' ⟨rfl, kd, rfl⟩))
        have hbO : Below wr.heap.size wr w' := by first | exact below_draw hbo | exact hbo
        have hb := below_then hb hbO
        have hZH := Lib.hid (Box3.later hZH.out hbO)
        have hcl := Lib.hid (fun (wr : World) (h : Ints wr b (Heb.ordL (Heb.lp y))) k (hk : k < Heb.nm (Heb.lp y)) => ints_cell h hk)
        clear hbo hbO
        generalize Heb.cumA (Heb.lp y) (Heb.ylen y % 10) = C at *
        generalize Heb.ordL (Heb.lp y) = L at *
        generalize Heb.ordF (Heb.lp y) = F at *
        generalize Heb.nm (Heb.lp y) = N at *
        go_loopg [4, 26] 14 (fun g t4 t26 wr => ∃ k : Nat, k ≤ 13 ∧ k ≤ N ∧ t26 = .int .i64 k ∧ t4 = .int .i64 (n - Heb.bg y - C k) ∧ C k ≤ n - Heb.bg y ∧ MRel w b L wr (14 - k ≤ g))
        case atStart => exact ⟨0, by omega, by omega, rfl, val_int (by rw [hzH.out]; omega), by rw [hzH.out]; omega, hb, hZH.out, hIH.out, by omega⟩
        case round =>
          clear hb hZH hIH
          obtain ⟨k, hk13, hkN, rfl, rfl, hck, hb, hZ, hI, hg2⟩ := hrel
          have hkn : k < N := by
            rcases Nat.lt_or_ge k N with q | q
            · exact q
            · obtain rfl : k = N := by omega
              have := hrH.out; omega
          have hcb := hB.out k
          have hc := hcl.out wr hI k hkn
          have hIH := Lib.hid hI
          have hZH := Lib.hid hZ
          clear hI hZ
          have hcb2 := hB.out (k + 1)
          have hs := hS.out k hkn
          have hlk := hlc.out k
          have hsH := Lib.hid hs
          by_cases hlt : n - Heb.bg y - C k < Heb.lenc y (F k)
          · have hres := Lib.hid (hR.out k hkn hck hlt)
            clear hs hcb2
            generalize F k = x at *
            obtain ⟨_, r0, r1, r2, g0, g1, g2⟩ := hZH.out
            go_wp2_with (first | (go_at_call 93; refine (hlength_any _ _ _).mono ?_; rintro e w' ⟨rfl, kd, rfl⟩))
            obtain ⟨e1, e2, e3⟩ := hres.out
            rw [← e1, ← e2, ← e3]
            exact bodyPost_ret (v := .agg #[.int .i64 y, .int .i64 x, .int .i64 (n - Heb.bg y - C k + 1)]) (by simp [results, Tryz.results54, go_sem, r0, r1, r2]) rfl ⟨rfl, hb.trans (by first | (go_grown; done) | (go_grown; exact below_drewN (Below.refl _ _) _))⟩
          · have hck2 : C (k + 1) ≤ n - Heb.bg y := by omega
            clear hs
            generalize F k = x at *
            go_wp2_with (first | (go_at_call 93; refine (hlength_any _ _ _).mono ?_; rintro e w' ⟨rfl, kd, rfl⟩))
            go_roundg (gk - 1)
            case measure => omega
            case rel => exact ⟨k + 1, by omega, by omega, by go_num, val_int (by rw [← hsH.out]; omega), hck2, below_drewN (hb) _, Box3.drewN (hZH.out) _, Ints.drewN (hIH.out) _, by omega⟩

end Go.Proofs.YtehjjinlpilelaaGreatDoor
namespace Heb
def mx (y m : Int) : Int := if m < 7 then y + 1 else y
def prt (y m : Int) : Int := 765433 * (m - 7 + bf (mx y m)) - 876
def moB (y m : Int) : Bool := decide (1 ≤ m) && decide (m ≤ mthc y)
def moD (y m : Int) : Int := if moB y m then -2092590 + prt y m / 25920 else 0
def moP (y m : Int) : Int := if moB y m then prt y m % 25920 else 0
def moE (y m : Int) : Int := if moB y m then 0 else 2
theorem moB_iff {y m : Int} : moB y m = true ↔ 1 ≤ m ∧ m ≤ mthc y := by unfold moB; rw [Bool.and_eq_true, decide_eq_true_eq, decide_eq_true_eq]
end Heb
namespace Go.Proofs.YtehjjinlpilelaaGreatDoor
set_option maxRecDepth 100000
open Go.ChangeShapes Go.WideShapes Go.ChangeAt Go.RowKit

set_option maxHeartbeats 1000000 in
theorem hDate_any (n : Int) (w : World) :
    Calls Tryz.prog 16 #[.int .i64 n] w fun e w' => e = .returned (.tuple #[.agg #[.int .i64 (Heb.dY n), .int .i64 (Heb.dM n), .int .i64 (Heb.dA n)], .int .i64 (Heb.dE n)]) ∧ Below w.heap.size w w' := by
  by_cases hi : Cal.inB n = true
  · obtain ⟨i1, i2⟩ := Cal.inB_iff.1 hi
    have e1 : Heb.dY n = Heb.yH n := by simp [Heb.dY, hi]
    have e2 : Heb.dM n = Heb.mH n := by simp [Heb.dM, hi]
    have e3 : Heb.dA n = Heb.aH n := by simp [Heb.dA, hi]
    have e4 : Heb.dE n = 0 := by simp [Heb.dE, hi]
    rw [e1, e2, e3, e4]; clear e1 e2 e3 e4
    go_enter Tryz.func16, Tryz.ntmps16
    go_wp2_with (first | (go_at_call 54; refine (hdate_any _ _ (by omega) (by omega)).mono ?_; rintro e w' ⟨rfl, hb1⟩; obtain ⟨_, r0, r1, r2, g0, g1, g2⟩ := Box3.born hb1))
    exact bodyPost_ret (v := .tuple #[.agg #[.int .i64 (Heb.yH n), .int .i64 (Heb.mH n), .int .i64 (Heb.aH n)], .int .i64 0]) (by simp [results, Tryz.results16, go_sem, r0, r1, r2]) rfl ⟨rfl, (below_box hb1).trans (by go_grown)⟩
  · have hi' : Cal.inB n = false := by simpa using hi
    have hways : n < -719162 ∨ (¬ n < -719162 ∧ 2932897 ≤ n) := by rw [Cal.inB_iff] at hi; omega
    have e1 : Heb.dY n = 0 := by simp [Heb.dY, hi]
    have e2 : Heb.dM n = 0 := by simp [Heb.dM, hi]
    have e3 : Heb.dA n = 0 := by simp [Heb.dA, hi]
    have e4 : Heb.dE n = 2 := by simp [Heb.dE, hi]
    rw [e1, e2, e3, e4]; clear e1 e2 e3 e4 hi
    rcases hways with q | ⟨q, q'⟩
    all_goals
      go_enter Tryz.func16, Tryz.ntmps16
      go_wp2_with fail
      exact bodyPost_ret (v := .tuple #[.agg #[.int .i64 0, .int .i64 0, .int .i64 0], .int .i64 2]) (by simp [results, Tryz.results16, go_sem]) rfl ⟨rfl, by go_grown⟩
end Go.Proofs.YtehjjinlpilelaaGreatDoor
namespace Heb
def elc (y : Int) : Int := if yB y then el y else 0
def nwc (y : Int) : Int := if yB y then bg y else 0
def yE (y : Int) : Int := if yB y then 0 else 2
theorem ex_new : nwc 5786 = 20354 ∧ yE 5786 = 0 ∧ dayN 5786 1 15 = 20545 ∧ dayE 5786 1 15 = 0 ∧ ylenc 5786 = 354 := by decide +kernel
end Heb
namespace Go.Proofs.YtehjjinlpilelaaGreatDoor
set_option maxRecDepth 100000
open Go.ChangeShapes Go.WideShapes Go.ChangeAt Go.RowKit

theorem below_alloc1 {w w1 : World} (h : Below w.heap.size w w1) (o : Obj) : Below w.heap.size w (w1.alloc o) := h.alloc h.size o
end Go.Proofs.YtehjjinlpilelaaGreatDoor
namespace Heb
theorem bf_19 (y : Int) : bf (y + 19) = bf y + 235 := by
  unfold bf
  rw [show 235 * (y + 19) - 234 = 235 * y - 234 + 19 * 235 by omega, Int.add_mul_ediv_left _ _ (by omega)]
theorem lp_mths (y : Int) : (lp y = true ∧ mths y = 13) ∨ (lp y = false ∧ mths y = 12) := by
  cases h : lp y
  · exact Or.inr ⟨rfl, by simp [mths, h]⟩
  · exact Or.inl ⟨rfl, by simp [mths, h]⟩
end Heb
namespace Go.Proofs.YtehjjinlpilelaaGreatDoor
set_option maxRecDepth 100000
open Go.ChangeShapes Go.WideShapes Go.ChangeAt Go.RowKit

def CycRel (w wr : World) (p : Prop) : Prop := Below w.heap.size w wr ∧ p
end Go.Proofs.YtehjjinlpilelaaGreatDoor
namespace Heb
/-- the lengths of the first k months, by their numbers -/
def sumA (l : Bool) (c : Int) : Nat → Int
  | 0 => 0
  | k + 1 => sumA l c k + lenA l c ((k : Int) + 1)
theorem sum_all {l : Bool} {c : Int} (hc : c = 3 ∨ c = 4 ∨ c = 5) : sumA l c (nm l) = (if l then 380 else 350) + c :=
  cls (fun l c => sumA l c (nm l) = (if l then 380 else 350) + c) hc (by decide)
theorem sum_bd (l : Bool) (c : Int) : ∀ k : Nat, 29 * (k : Int) ≤ sumA l c k ∧ sumA l c k ≤ 30 * k
  | 0 => by simp [sumA]
  | k + 1 => by have := sum_bd l c k; have := lenA_bd l c ((k : Int) + 1); simp only [sumA]; omega
theorem year_kinds {y : Int} (h1 : 1 ≤ y) (h2 : y ≤ 20000) : (ylenc y = 353 ∧ leap y = false) ∨ (ylenc y = 354 ∧ leap y = false) ∨ (ylenc y = 355 ∧ leap y = false) ∨ (ylenc y = 383 ∧ leap y = true) ∨ (ylenc y = 384 ∧ leap y = true) ∨ (ylenc y = 385 ∧ leap y = true) := by
  have h := (seen h1 (show y ≤ 20480 by omega)).len
  have e1 : ylenc y = ylen y := by simp [ylenc, yB]; omega
  have e2 : leap y = lp y := by simp [leap, yB]; omega
  rw [e1, e2]
  cases hl : lp y
  · rw [hl, if_neg (by simp)] at h
    rcases h with h | h | h <;> simp [h]
  · rw [hl, if_pos rfl] at h
    rcases h with h | h | h <;> simp [h]
theorem sum_year {y : Int} (h1 : 1 ≤ y) (h2 : y ≤ 20000) : sumA (lp y) (ylen y % 10) (nm (lp y)) = ylenc y := by
  have h := ylen_c h1 (show y ≤ 20480 by omega)
  have e1 : ylenc y = ylen y := by simp [ylenc, yB]; omega
  rw [sum_all h.1, e1]; exact h.2.symm
theorem sum_step {y : Int} (h1 : 1 ≤ y) (h2 : y ≤ 20000) {k : Nat} (hk : k < nm (lp y)) : sumA (lp y) (ylen y % 10) k + lenc y ((k : Int) + 1) = sumA (lp y) (ylen y % 10) (k + 1) := by
  have e : lenc y ((k : Int) + 1) = len y ((k : Int) + 1) := by
    unfold lenc mthc; rw [if_pos (yB_iff.2 ⟨h1, h2⟩), ← nm_mths, if_pos (by omega)]
  rw [e]; rfl
theorem new_wd {y : Int} (h1 : 1 ≤ y) (h2 : y ≤ 20000) : ((bg y + 3) % 7 + 1 == 7) = false ∧ ((bg y + 3) % 7 + 1 == 3) = false ∧ ((bg y + 3) % 7 + 1 == 5) = false := by
  have h := (seen h1 (show y ≤ 20480 by omega)).wk
  refine ⟨?_, ?_, ?_⟩ <;> simp <;> omega
theorem prt_fol {y m : Int} (h : moB y m = true) : prt (folY y m) (folM y m) = prt y m + 765433 := by
  obtain ⟨m1, m2⟩ := moB_iff.1 h
  obtain ⟨hy, hmm⟩ := mthc_y (y := y) (by omega)
  have hb := mths_bd y
  have hs := bf_succ y
  unfold prt
  have k : folM y m - 7 + bf (mx (folY y m) (folM y m)) = m - 7 + bf (mx y m) + 1 := by
    by_cases q : m = 6
    · have a : folM y m = 7 := by simp [folM, q]
      have b : folY y m = y + 1 := by simp [folY, q]
      rw [a, b]; subst q; simp [mx]; omega
    · have b : folY y m = y := by simp [folY, q]
      by_cases q2 : 12 ≤ m ∧ m = mthc y
      · have a : folM y m = 1 := by unfold folM; rw [if_neg q, if_pos q2]
        rw [a, b]; unfold mx; rw [if_pos (by omega), if_neg (by omega)]; omega
      · have a : folM y m = m + 1 := by unfold folM; rw [if_neg q, if_neg q2]
        rw [a, b]; unfold mx
        by_cases q3 : m < 7
        · rw [if_pos (by omega), if_pos q3]; omega
        · rw [if_neg (by omega), if_neg q3]; omega
  rw [k]; omega
theorem mol_fol {y m : Int} (h : moB y m = true) (h2 : moB (folY y m) (folM y m) = true) : (moD (folY y m) (folM y m) - moD y m) * 25920 + moP (folY y m) (folM y m) - moP y m = 765433 := by
  have := prt_fol h
  have a : moD y m = -2092590 + prt y m / 25920 := by simp [moD, h]
  have b : moP y m = prt y m % 25920 := by simp [moP, h]
  have c : moD (folY y m) (folM y m) = -2092590 + prt (folY y m) (folM y m) / 25920 := by simp [moD, h2]
  have d : moP (folY y m) (folM y m) = prt (folY y m) (folM y m) % 25920 := by simp [moP, h2]
  rw [a, b, c, d]; omega
theorem mol_bd {y m : Int} (h : moB y m = true) : 0 ≤ moP y m ∧ moP y m < 25920 ∧ -2100000 ≤ moD y m ∧ moD y m ≤ 10000000 := by
  obtain ⟨m1, m2⟩ := moB_iff.1 h
  obtain ⟨hy, hmm⟩ := mthc_y (y := y) (by omega)
  obtain ⟨y1, y2⟩ := yB_iff.1 hy
  have hb := mths_bd y
  have b : moP y m = prt y m % 25920 := by simp [moP, h]
  have a : moD y m = -2092590 + prt y m / 25920 := by simp [moD, h]
  have hp : -100000000 ≤ prt y m ∧ prt y m ≤ 250000000000 := by
    have hbf : ∀ x : Int, x = y ∨ x = y + 1 → 0 ≤ bf x ∧ bf x ≤ 250000 := fun x hx => by unfold bf; omega
    unfold prt mx; split
    · have := hbf (y + 1) (Or.inr rfl); omega
    · have := hbf y (Or.inl rfl); omega
  rw [a, b]; omega
theorem mol_7 {y : Int} (h1 : 1 ≤ y) (h2 : y ≤ 20000) : moE y 7 = 0 ∧ 0 ≤ nwc y - moD y 7 ∧ nwc y - moD y 7 ≤ 2 ∧ yE y = 0 := by
  have hy := yB_iff.2 ⟨h1, h2⟩
  have hb := mths_bd y
  have hm : moB y 7 = true := moB_iff.2 (by unfold mthc; rw [if_pos hy]; omega)
  have s := (seen h1 (show y ≤ 20480 by omega)).mol
  have e : prt y 7 / 25920 = mo y := by unfold prt mx mo; rw [if_neg (by omega), show (7 : Int) - 7 + bf y = bf y by omega]
  refine ⟨by simp [moE, hm], ?_, ?_, by simp [yE, hy]⟩ <;> simp only [nwc, moD, hm, hy, if_true, e] <;> omega
theorem fol_bd {y m : Int} (h1 : 1 ≤ y) (h2 : y ≤ 20000) : 1 ≤ folY y m ∧ folY y m ≤ 20001 := by unfold folY; split <;> omega
end Heb
namespace Go.Proofs.YtehjjinlpilelaaGreatDoor
set_option maxRecDepth 100000
open Go.ChangeShapes Go.WideShapes Go.ChangeAt Go.RowKit

def SumRel (w wr : World) (p : Prop) : Prop := Below w.heap.size w wr ∧ p
end Go.Proofs.YtehjjinlpilelaaGreatDoor
