/- Contracts of the date of a day from the first new year on, of package hebrew and of its reference. No conditions but those on the day. -/
import Derived.Test.YtpoehjnhinapoaaHebF
namespace Heb
theorem date_start {n : Int} (h1 : -2092590 ≤ n) (h2 : n < 5212335) : ∀ y0 : Int, y0 = (n + 2092590) / 366 ∨ y0 = 1 → 1 ≤ y0 → y0 ≤ 20000 ∧ bg y0 ≤ n := by
  intro y0 h h3
  have e : y0 ≤ 20000 := by omega
  have s := (seen (y := y0) h3 (by omega)).up
  rcases h with rfl | rfl
  · exact ⟨e, by omega⟩
  · exact ⟨e, by rw [bg_1]; exact h1⟩
/-- what the search for the month ends with -/
theorem at_res {n y : Int} {k : Nat} (h1 : 1 ≤ y) (h2 : y ≤ 20000) (hk : k < nm (lp y)) (c1 : cumA (lp y) (ylen y % 10) k ≤ n - bg y) (c2 : n - bg y - cumA (lp y) (ylen y % 10) k < lenc y (ordF (lp y) k)) :
    y = yH n ∧ ordF (lp y) k = mH n ∧ n - bg y - cumA (lp y) (ylen y % 10) k + 1 = aH n := by
  obtain ⟨o1, o2, _⟩ := ord_of hk
  rw [nm_mths] at o2
  have e : lenc y (ordF (lp y) k) = len y (ordF (lp y) k) := by unfold lenc mthc; rw [if_pos (yB_iff.2 ⟨h1, h2⟩), if_pos ⟨o1, o2⟩]
  rw [e] at c2
  obtain ⟨a, b⟩ := at_of h1 h2 hk c1 c2
  exact dt_eq a b
end Heb
namespace Go.Proofs.Ytpoehjnhinapoaa
open Go.ChangeShapes Go.WideShapes Go.ChangeAt Go.RowKit

def ZBox (w wr : World) : Prop := Box3 wr w.heap.size (.int .i64 0) (.int .i64 0) (.int .i64 0)
def YRel (w : World) (n y : Int) (wr : World) (g : Nat) : Prop := Below w.heap.size w wr ∧ ZBox w wr ∧ 1 ≤ y ∧ y ≤ 20000 ∧ Heb.bg y ≤ n ∧ (20000 - y).toNat ≤ g
def MRel (w : World) (b : Nat) (xs : List Int) (wr : World) (p : Prop) : Prop := Below w.heap.size w wr ∧ ZBox w wr ∧ Ints wr b xs ∧ p

set_option maxHeartbeats 2000000 in
theorem hdate_any (n : Int) (w : World) (h1 : -2092590 ≤ n) (h2 : n < 5212335) :
    Calls Try.prog 55 #[.int .i64 n] w fun e w' => e = .returned (.agg #[.int .i64 (Heb.yH n), .int .i64 (Heb.mH n), .int .i64 (Heb.aH n)]) ∧ Below w.heap.size w w' := by
  have hst := Lib.hid (Heb.date_start h1 h2)
  have hq2 : (n + 2092590) / 366 ≤ 20000 := by omega
  by_cases hq : (n + 2092590) / 366 ≤ 1
  all_goals
    go_enter Try.func55, Try.ntmps55
    go_wp2_with fail
    go_loopg [3] 20000 (fun g t3 wr => ∃ y : Int, t3 = .int .i64 y ∧ YRel w n y wr g)
    case atStart =>
      refine ⟨_, rfl, by go_grown, Box3.new w _ _ _ _, ?_, ?_, ?_, ?_⟩
      · omega
      · exact (hst.out _ (by omega) (by omega)).1
      · exact (hst.out _ (by omega) (by omega)).2
      · omega
    case round =>
      obtain ⟨y, rfl, hb, hZ, y1, y2, y3, hg⟩ := hrel
      have hZH := Lib.hid hZ
      clear hZ
      have hsz := Heb.bg_size (y := y) (by omega) (by omega)
      by_cases hc : Heb.bg (y + 1) ≤ n
      · have hy : y < 20000 := by
          by_cases q : y < 20000
          · exact q
          · obtain rfl : y = 20000 := by omega
            rw [show (20000 : Int) + 1 = 20001 by rfl, Heb.bg_20001] at hc; omega
        go_wp2_with (first | (go_at_call 45; refine (hbegin_any _ _ (by omega) (by omega)).mono ?_; rintro e w' ⟨rfl, kd, rfl⟩))
        go_roundg (gk - 1)
        case measure => omega
        case rel => exact ⟨y + 1, rfl, below_drewN (hb) _, Box3.drewN (hZH.out) _, by omega, by omega, hc, by omega⟩
      · have hz : n < Heb.bg (y + 1) := by omega
        have hrest : n - Heb.bg y < Heb.cumA (Heb.lp y) (Heb.ylen y % 10) (Heb.nm (Heb.lp y)) := by
          rw [Heb.cum_ylen y1 (by omega)]; unfold Heb.ylen; omega
        have hyl := Heb.ylen_bd (y := y) y1 (by omega)
        have hsmall : n - Heb.bg y ≤ 385 := by unfold Heb.ylen at hyl; omega
        have hyB := Heb.yB_iff.2 ⟨y1, y2⟩
        have hyH := Lib.hid hyB
        have hN : Heb.nm (Heb.lp y) ≤ 13 := by cases Heb.lp y <;> decide
        have hS := Lib.hid (fun k (h : k < Heb.nm (Heb.lp y)) => Heb.cum_lenc hyB h)
        have hB := Lib.hid (fun k => Heb.cum_bd (Heb.lp y) (Heb.ylen y % 10) k)
        have hR := Lib.hid (fun k (hk : k < Heb.nm (Heb.lp y)) a b => Heb.at_res (n := n) y1 y2 hk a b)
        have hlc := Lib.hid (fun k => Heb.lenc_bd y (Heb.ordF (Heb.lp y) k))
        have hzz : Heb.cumA (Heb.lp y) (Heb.ylen y % 10) 0 = 0 := rfl
        have hzH := Lib.hid hzz
        have hrH := Lib.hid hrest
        clear hc hyB hzz hrest hyl hst
        go_wp2_with (first | (go_at_call 45; refine (hbegin_any _ _ (by omega) (by omega)).mono ?_; rintro e w' ⟨rfl, kd, rfl⟩))
        go_wp2_with (first | (go_at_call 57; refine (horder_any _ _ hyH.out).mono ?_; rintro e w' ⟨b, cap, rfl, hI, hbo⟩; have hIH := Lib.hid hI; clear hI) | (go_at_call 45; refine (hbegin_any _ _ (by omega) (by omega)).mono ?_; rintro e w' ⟨rfl, kd, rfl⟩))
        have hbO : Below wr.heap.size wr w' := by first | exact below_draw hbo | exact hbo
        have hb := below_then hb hbO
        have hZH := Lib.hid (Box3.later hZH.out hbO)
        have hcl := Lib.hid (fun (wr : World) (h : Ints wr b (Heb.ordL (Heb.lp y))) k (hk : k < Heb.nm (Heb.lp y)) => ints_cell h hk)
        clear hbo hbO
        generalize Heb.cumA (Heb.lp y) (Heb.ylen y % 10) = C at *
        generalize Heb.ordL (Heb.lp y) = L at *
        generalize Heb.ordF (Heb.lp y) = F at *
        generalize Heb.nm (Heb.lp y) = N at *
        go_loopg [4, 26] 14 (fun g t4 t26 wr => ∃ k : Nat, k ≤ 13 ∧ k ≤ N ∧ t26 = .int .i64 k ∧ t4 = .int .i64 (n - Heb.bg y - C k) ∧ C k ≤ n - Heb.bg y ∧ MRel w b L wr (14 - k ≤ g))
        case atStart => exact ⟨0, by omega, by omega, rfl, val_int (by rw [hzH.out]; omega), by rw [hzH.out]; omega, hb, hZH.out, hIH.out, by omega⟩
        case round =>
          clear hb hZH hIH
          obtain ⟨k, hk13, hkN, rfl, rfl, hck, hb, hZ, hI, hg2⟩ := hrel
          have hkn : k < N := by
            rcases Nat.lt_or_ge k N with q | q
            · exact q
            · obtain rfl : k = N := by omega
              have := hrH.out; omega
          have hcb := hB.out k
          have hc := hcl.out wr hI k hkn
          have hIH := Lib.hid hI
          have hZH := Lib.hid hZ
          clear hI hZ
          have hcb2 := hB.out (k + 1)
          have hs := hS.out k hkn
          have hlk := hlc.out k
          have hsH := Lib.hid hs
          by_cases hlt : n - Heb.bg y - C k < Heb.lenc y (F k)
          · have hres := Lib.hid (hR.out k hkn hck hlt)
            clear hs hcb2
            generalize F k = x at *
            obtain ⟨_, r0, r1, r2, g0, g1, g2⟩ := hZH.out
            go_wp2_with (first | (go_at_call 28; refine (hlength_any _ _ _).mono ?_; rintro e w' ⟨rfl, kd, rfl⟩))
            obtain ⟨e1, e2, e3⟩ := hres.out
            rw [← e1, ← e2, ← e3]
            exact bodyPost_ret (v := .agg #[.int .i64 y, .int .i64 x, .int .i64 (n - Heb.bg y - C k + 1)]) (by simp [results, Try.results55, go_sem, r0, r1, r2]) rfl ⟨rfl, hb.trans (by first | (go_grown; done) | (go_grown; exact below_drewN (Below.refl _ _) _))⟩
          · have hck2 : C (k + 1) ≤ n - Heb.bg y := by omega
            clear hs
            generalize F k = x at *
            go_wp2_with (first | (go_at_call 28; refine (hlength_any _ _ _).mono ?_; rintro e w' ⟨rfl, kd, rfl⟩))
            go_roundg (gk - 1)
            case measure => omega
            case rel => exact ⟨k + 1, by omega, by omega, by go_num, val_int (by rw [← hsH.out]; omega), hck2, below_drewN (hb) _, Box3.drewN (hZH.out) _, Ints.drewN (hIH.out) _, by omega⟩

set_option maxHeartbeats 2000000 in
theorem rhat_any (n : Int) (w : World) (h1 : -2092590 ≤ n) (h2 : n < 5212335) :
    Calls Try.prog 56 #[.int .i64 n] w fun e w' => e = .returned (.agg #[.int .i64 (Heb.yH n), .int .i64 (Heb.mH n), .int .i64 (Heb.aH n)]) ∧ Below w.heap.size w w' := by
  have hst := Lib.hid (Heb.date_start h1 h2)
  have hq2 : (n + 2092590) / 366 ≤ 20000 := by omega
  by_cases hq : (n + 2092590) / 366 ≤ 1
  · go_enter Try.func56, Try.ntmps56
    have hY := hst.out 1 (by omega) (by omega)
    obtain ⟨hY1, hY2⟩ := hY
    have hsY := Heb.bg_size (y := 1) (by omega) (by omega)
    go_wp2_with (first | (go_at_call 49; refine (rhfloor_any _ _ _ (by omega) (by omega) (by omega) (by omega)).mono ?_; rintro e w' ⟨rfl, rfl⟩))
    go_loopg [3] 1 (fun g t3 wr => t3 = .int .i64 1 ∧ Below w.heap.size w wr ∧ ZBox w wr)
    case atStart => exact ⟨rfl, by go_grown, Box3.new w _ _ _ _⟩
    obtain ⟨rfl, hb0, hZ0⟩ := hrel
    have hZ0H := Lib.hid hZ0
    clear hZ0
    go_wp2_with (first | (go_at_call 27; refine (rhnew_any _ _ (by omega) (by omega)).mono ?_; rintro e w' ⟨rfl, rfl⟩))
    go_loopg [3] 20000 (fun g t3 wr => ∃ y : Int, t3 = .int .i64 y ∧ YRel w n y wr g)
    case atStart =>
      refine ⟨_, rfl, hb0, hZ0H.out, ?_, ?_, ?_, ?_⟩
      · omega
      · exact (hst.out _ (by omega) (by omega)).1
      · exact (hst.out _ (by omega) (by omega)).2
      · omega
    case round =>
      obtain ⟨y, rfl, hb, hZ, y1, y2, y3, hg⟩ := hrel
      have hZH := Lib.hid hZ
      clear hZ
      have hsz := Heb.bg_size (y := y) (by omega) (by omega)
      by_cases hc : Heb.bg (y + 1) ≤ n
      · have hy : y < 20000 := by
          by_cases q : y < 20000
          · exact q
          · obtain rfl : y = 20000 := by omega
            rw [show (20000 : Int) + 1 = 20001 by rfl, Heb.bg_20001] at hc; omega
        go_wp2_with (first | (go_at_call 27; refine (rhnew_any _ _ (by omega) (by omega)).mono ?_; rintro e w' ⟨rfl, rfl⟩))
        go_roundg (gk - 1)
        case measure => omega
        case rel => exact ⟨y + 1, rfl, hb, hZH.out, by omega, by omega, hc, by omega⟩
      · have hz : n < Heb.bg (y + 1) := by omega
        have hrest : n - Heb.bg y < Heb.cumA (Heb.lp y) (Heb.ylen y % 10) (Heb.nm (Heb.lp y)) := by
          rw [Heb.cum_ylen y1 (by omega)]; unfold Heb.ylen; omega
        have hyl := Heb.ylen_bd (y := y) y1 (by omega)
        have hsmall : n - Heb.bg y ≤ 385 := by unfold Heb.ylen at hyl; omega
        have hyB := Heb.yB_iff.2 ⟨y1, y2⟩
        have hyH := Lib.hid hyB
        have hN : Heb.nm (Heb.lp y) ≤ 13 := by cases Heb.lp y <;> decide
        have hS := Lib.hid (fun k (h : k < Heb.nm (Heb.lp y)) => Heb.cum_lenc hyB h)
        have hB := Lib.hid (fun k => Heb.cum_bd (Heb.lp y) (Heb.ylen y % 10) k)
        have hR := Lib.hid (fun k (hk : k < Heb.nm (Heb.lp y)) a b => Heb.at_res (n := n) y1 y2 hk a b)
        have hlc := Lib.hid (fun k => Heb.lenc_bd y (Heb.ordF (Heb.lp y) k))
        have hzz : Heb.cumA (Heb.lp y) (Heb.ylen y % 10) 0 = 0 := rfl
        have hzH := Lib.hid hzz
        have hrH := Lib.hid hrest
        clear hc hyB hzz hrest hyl hst
        go_wp2_with (first | (go_at_call 27; refine (rhnew_any _ _ (by omega) (by omega)).mono ?_; rintro e w' ⟨rfl, rfl⟩))
        go_wp2_with (first | (go_at_call 58; refine (rhorder_any _ _ hyH.out).mono ?_; rintro e w' ⟨b, cap, rfl, hI, hbo⟩; have hIH := Lib.hid hI; clear hI) | (go_at_call 27; refine (rhnew_any _ _ (by omega) (by omega)).mono ?_; rintro e w' ⟨rfl, rfl⟩))
        have hbO : Below wr.heap.size wr w' := by first | exact below_draw hbo | exact hbo
        have hb := below_then hb hbO
        have hZH := Lib.hid (Box3.later hZH.out hbO)
        have hcl := Lib.hid (fun (wr : World) (h : Ints wr b (Heb.ordL (Heb.lp y))) k (hk : k < Heb.nm (Heb.lp y)) => ints_cell h hk)
        clear hbo hbO
        generalize Heb.cumA (Heb.lp y) (Heb.ylen y % 10) = C at *
        generalize Heb.ordL (Heb.lp y) = L at *
        generalize Heb.ordF (Heb.lp y) = F at *
        generalize Heb.nm (Heb.lp y) = N at *
        go_loopg [5, 6] 14 (fun g t4 t26 wr => ∃ k : Nat, k ≤ 13 ∧ k ≤ N ∧ t26 = .int .i64 k ∧ t4 = .int .i64 (n - Heb.bg y - C k) ∧ C k ≤ n - Heb.bg y ∧ MRel w b L wr (14 - k ≤ g))
        case atStart => exact ⟨0, by omega, by omega, rfl, val_int (by rw [hzH.out]; omega), by rw [hzH.out]; omega, hb, hZH.out, hIH.out, by omega⟩
        case round =>
          clear hb hZH hIH
          obtain ⟨k, hk13, hkN, rfl, rfl, hck, hb, hZ, hI, hg2⟩ := hrel
          have hkn : k < N := by
            rcases Nat.lt_or_ge k N with q | q
            · exact q
            · obtain rfl : k = N := by omega
              have := hrH.out; omega
          have hcb := hB.out k
          have hc := hcl.out wr hI k hkn
          have hIH := Lib.hid hI
          have hZH := Lib.hid hZ
          clear hI hZ
          have hcb2 := hB.out (k + 1)
          have hs := hS.out k hkn
          have hlk := hlc.out k
          have hsH := Lib.hid hs
          by_cases hlt : n - Heb.bg y - C k < Heb.lenc y (F k)
          · have hres := Lib.hid (hR.out k hkn hck hlt)
            clear hs hcb2
            generalize F k = x at *
            obtain ⟨_, r0, r1, r2, g0, g1, g2⟩ := hZH.out
            go_wp2_with (first | (go_at_call 32; refine (rhlength_any _ _ _).mono ?_; rintro e w' ⟨rfl, rfl⟩))
            obtain ⟨e1, e2, e3⟩ := hres.out
            rw [← e1, ← e2, ← e3]
            exact bodyPost_ret (v := .agg #[.int .i64 y, .int .i64 x, .int .i64 (n - Heb.bg y - C k + 1)]) (by simp [results, Try.results56, go_sem, r0, r1, r2]) rfl ⟨rfl, hb.trans (by first | (go_grown; done) | (go_grown; exact below_drewN (Below.refl _ _) _))⟩
          · have hck2 : C (k + 1) ≤ n - Heb.bg y := by omega
            clear hs
            generalize F k = x at *
            go_wp2_with (first | (go_at_call 32; refine (rhlength_any _ _ _).mono ?_; rintro e w' ⟨rfl, rfl⟩))
            go_roundg (gk - 1)
            case measure => omega
            case rel => exact ⟨k + 1, by omega, by omega, by go_num, val_int (by rw [← hsH.out]; omega), hck2, hb, hZH.out, hIH.out, by omega⟩
  · go_enter Try.func56, Try.ntmps56
    have hY := hst.out ((n + 2092590) / 366) (by omega) (by omega)
    obtain ⟨hY1, hY2⟩ := hY
    have hsY := Heb.bg_size (y := ((n + 2092590) / 366)) (by omega) (by omega)
    go_wp2_with (first | (go_at_call 49; refine (rhfloor_any _ _ _ (by omega) (by omega) (by omega) (by omega)).mono ?_; rintro e w' ⟨rfl, rfl⟩))
    go_loopg [3] 1 (fun g t3 wr => t3 = .int .i64 ((n + 2092590) / 366) ∧ Below w.heap.size w wr ∧ ZBox w wr)
    case atStart => exact ⟨rfl, by go_grown, Box3.new w _ _ _ _⟩
    obtain ⟨rfl, hb0, hZ0⟩ := hrel
    have hZ0H := Lib.hid hZ0
    clear hZ0
    go_wp2_with (first | (go_at_call 27; refine (rhnew_any _ _ (by omega) (by omega)).mono ?_; rintro e w' ⟨rfl, rfl⟩))
    go_loopg [3] 20000 (fun g t3 wr => ∃ y : Int, t3 = .int .i64 y ∧ YRel w n y wr g)
    case atStart =>
      refine ⟨_, rfl, hb0, hZ0H.out, ?_, ?_, ?_, ?_⟩
      · omega
      · exact (hst.out _ (by omega) (by omega)).1
      · exact (hst.out _ (by omega) (by omega)).2
      · omega
    case round =>
      obtain ⟨y, rfl, hb, hZ, y1, y2, y3, hg⟩ := hrel
      have hZH := Lib.hid hZ
      clear hZ
      have hsz := Heb.bg_size (y := y) (by omega) (by omega)
      by_cases hc : Heb.bg (y + 1) ≤ n
      · have hy : y < 20000 := by
          by_cases q : y < 20000
          · exact q
          · obtain rfl : y = 20000 := by omega
            rw [show (20000 : Int) + 1 = 20001 by rfl, Heb.bg_20001] at hc; omega
        go_wp2_with (first | (go_at_call 27; refine (rhnew_any _ _ (by omega) (by omega)).mono ?_; rintro e w' ⟨rfl, rfl⟩))
        go_roundg (gk - 1)
        case measure => omega
        case rel => exact ⟨y + 1, rfl, hb, hZH.out, by omega, by omega, hc, by omega⟩
      · have hz : n < Heb.bg (y + 1) := by omega
        have hrest : n - Heb.bg y < Heb.cumA (Heb.lp y) (Heb.ylen y % 10) (Heb.nm (Heb.lp y)) := by
          rw [Heb.cum_ylen y1 (by omega)]; unfold Heb.ylen; omega
        have hyl := Heb.ylen_bd (y := y) y1 (by omega)
        have hsmall : n - Heb.bg y ≤ 385 := by unfold Heb.ylen at hyl; omega
        have hyB := Heb.yB_iff.2 ⟨y1, y2⟩
        have hyH := Lib.hid hyB
        have hN : Heb.nm (Heb.lp y) ≤ 13 := by cases Heb.lp y <;> decide
        have hS := Lib.hid (fun k (h : k < Heb.nm (Heb.lp y)) => Heb.cum_lenc hyB h)
        have hB := Lib.hid (fun k => Heb.cum_bd (Heb.lp y) (Heb.ylen y % 10) k)
        have hR := Lib.hid (fun k (hk : k < Heb.nm (Heb.lp y)) a b => Heb.at_res (n := n) y1 y2 hk a b)
        have hlc := Lib.hid (fun k => Heb.lenc_bd y (Heb.ordF (Heb.lp y) k))
        have hzz : Heb.cumA (Heb.lp y) (Heb.ylen y % 10) 0 = 0 := rfl
        have hzH := Lib.hid hzz
        have hrH := Lib.hid hrest
        clear hc hyB hzz hrest hyl hst
        go_wp2_with (first | (go_at_call 27; refine (rhnew_any _ _ (by omega) (by omega)).mono ?_; rintro e w' ⟨rfl, rfl⟩))
        go_wp2_with (first | (go_at_call 58; refine (rhorder_any _ _ hyH.out).mono ?_; rintro e w' ⟨b, cap, rfl, hI, hbo⟩; have hIH := Lib.hid hI; clear hI) | (go_at_call 27; refine (rhnew_any _ _ (by omega) (by omega)).mono ?_; rintro e w' ⟨rfl, rfl⟩))
        have hbO : Below wr.heap.size wr w' := by first | exact below_draw hbo | exact hbo
        have hb := below_then hb hbO
        have hZH := Lib.hid (Box3.later hZH.out hbO)
        have hcl := Lib.hid (fun (wr : World) (h : Ints wr b (Heb.ordL (Heb.lp y))) k (hk : k < Heb.nm (Heb.lp y)) => ints_cell h hk)
        clear hbo hbO
        generalize Heb.cumA (Heb.lp y) (Heb.ylen y % 10) = C at *
        generalize Heb.ordL (Heb.lp y) = L at *
        generalize Heb.ordF (Heb.lp y) = F at *
        generalize Heb.nm (Heb.lp y) = N at *
        go_loopg [5, 6] 14 (fun g t4 t26 wr => ∃ k : Nat, k ≤ 13 ∧ k ≤ N ∧ t26 = .int .i64 k ∧ t4 = .int .i64 (n - Heb.bg y - C k) ∧ C k ≤ n - Heb.bg y ∧ MRel w b L wr (14 - k ≤ g))
        case atStart => exact ⟨0, by omega, by omega, rfl, val_int (by rw [hzH.out]; omega), by rw [hzH.out]; omega, hb, hZH.out, hIH.out, by omega⟩
        case round =>
          clear hb hZH hIH
          obtain ⟨k, hk13, hkN, rfl, rfl, hck, hb, hZ, hI, hg2⟩ := hrel
          have hkn : k < N := by
            rcases Nat.lt_or_ge k N with q | q
            · exact q
            · obtain rfl : k = N := by omega
              have := hrH.out; omega
          have hcb := hB.out k
          have hc := hcl.out wr hI k hkn
          have hIH := Lib.hid hI
          have hZH := Lib.hid hZ
          clear hI hZ
          have hcb2 := hB.out (k + 1)
          have hs := hS.out k hkn
          have hlk := hlc.out k
          have hsH := Lib.hid hs
          by_cases hlt : n - Heb.bg y - C k < Heb.lenc y (F k)
          · have hres := Lib.hid (hR.out k hkn hck hlt)
            clear hs hcb2
            generalize F k = x at *
            obtain ⟨_, r0, r1, r2, g0, g1, g2⟩ := hZH.out
            go_wp2_with (first | (go_at_call 32; refine (rhlength_any _ _ _).mono ?_; rintro e w' ⟨rfl, rfl⟩))
            obtain ⟨e1, e2, e3⟩ := hres.out
            rw [← e1, ← e2, ← e3]
            exact bodyPost_ret (v := .agg #[.int .i64 y, .int .i64 x, .int .i64 (n - Heb.bg y - C k + 1)]) (by simp [results, Try.results56, go_sem, r0, r1, r2]) rfl ⟨rfl, hb.trans (by first | (go_grown; done) | (go_grown; exact below_drewN (Below.refl _ _) _))⟩
          · have hck2 : C (k + 1) ≤ n - Heb.bg y := by omega
            clear hs
            generalize F k = x at *
            go_wp2_with (first | (go_at_call 32; refine (rhlength_any _ _ _).mono ?_; rintro e w' ⟨rfl, rfl⟩))
            go_roundg (gk - 1)
            case measure => omega
            case rel => exact ⟨k + 1, by omega, by omega, by go_num, val_int (by rw [← hsH.out]; omega), hck2, hb, hZH.out, hIH.out, by omega⟩
end Go.Proofs.Ytpoehjnhinapoaa
