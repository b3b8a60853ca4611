/- Contracts of the reference of layer 3: Weeks and Of. No conditions. -/
import Derived.Test.YtajpbajffmiceaaWkR
namespace Wk
open Cal
theorem wy_range {f mi n : Int} (h : rB f mi = true) (hi : inB n = true) : yB (wy f mi n) = true ↔ bg f mi 1 ≤ n ∧ n < bg f mi 10000 := by
  obtain ⟨s1, s2, s3, s4⟩ := wy_spec h hi
  rw [yB_iff]
  constructor
  · rintro ⟨a, b⟩
    refine ⟨?_, ?_⟩
    · rcases (show wy f mi n = 1 ∨ 1 < wy f mi n by omega) with q | q
      · rw [q] at s1; exact s1
      · have := bg_mono h q; have := bg_succ h 1; omega
    · rcases (show wy f mi n = 9999 ∨ wy f mi n < 9999 by omega) with q | q
      · rw [q] at s2; exact s2
      · have := bg_mono h (show wy f mi n < 10000 by omega); omega
  · rintro ⟨a, b⟩
    refine ⟨?_, ?_⟩
    · rcases (show wy f mi n = 0 ∨ 1 ≤ wy f mi n by omega) with q | q
      · rw [q] at s2; have e : bg f mi (0 + 1) = bg f mi 1 := rfl
        omega
      · exact q
    · rcases (show wy f mi n = 10000 ∨ wy f mi n ≤ 9999 by omega) with q | q
      · rw [q] at s1; omega
      · exact q
end Wk
namespace Go.Proofs.Ytajpbajffmiceaa
open Go.ChangeShapes Go.WideShapes Go.ChangeAt Go.RowKit

set_option maxHeartbeats 400000 in
theorem rwweeks_any (f mi y : Int) (w : World) (hr : Wk.rB f mi = true) (h1 : 1 ≤ y) (h2 : y ≤ 9999) :
    Calls Try.prog 21 #[.agg #[.int .i64 f, .int .i64 mi], .int .i64 y] w fun e w' => e = .returned (.int .i64 (Wk.wks f mi y)) ∧ Below w.heap.size w w' := by
  have hN : Wk.wks f mi y = (Wk.bg f mi (y + 1) - Wk.bg f mi y) / 7 := rfl
  have hs := Wk.bg_succ hr y
  have n1 := Wk.bg_near hr y
  have n2 := Cal.ysG_bd h1 (by omega)
  have hgap : 0 ≤ Wk.bg f mi (y + 1) - Wk.bg f mi y ∧ Wk.bg f mi (y + 1) - Wk.bg f mi y ≤ 371 := by omega
  have hw1 : IntKind.i64.wrap (y + 1) = y + 1 := IntWalk.i64_in _ (by omega)
  have hw2 : IntKind.i64.wrap (Wk.bg f mi (y + 1) - Wk.bg f mi y) = Wk.bg f mi (y + 1) - Wk.bg f mi y := IntWalk.i64_in _ (by omega)
  have hw3 : IntKind.i64.wrap ((Wk.bg f mi (y + 1) - Wk.bg f mi y).tdiv 7) = (Wk.bg f mi (y + 1) - Wk.bg f mi y) / 7 := IntWalk.i64_quo _ _ (by omega)
  have hrH := Lib.hid hr
  rw [hN]; clear hN hs hr
  go_enter Try.func21, Try.ntmps21
  go_wp2_with fail
  go_region_held3 (fun w' => w'.cell? ⟨w.heap.size, 0, none⟩ = some (.int .i64 f) ∧ w'.cell? ⟨w.heap.size, 1, none⟩ = some (.int .i64 mi))
    (first | go_keep | (go_split_ands; exact ⟨keep1 hb1 (by first | (simp; done) | assumption) (by assumption), keep1 hb1 (by first | (simp; done) | assumption) (by assumption)⟩))
    (first | (go_at_call 20; refine (rwstart_any _ _ _ _ hrH.out (by omega) (by omega)).mono ?_; rintro e w1 ⟨rfl, hb1⟩; have hlt : w.heap.size < w1.heap.size := Nat.lt_of_lt_of_le (by first | (simp; done) | assumption) hb1.size; have hbb : Below w.heap.size w w1 := by first | exact below_then (by assumption) hb1 | exact below_box (below_undrew hb1)))
  go_wp2_with fail
  go_ret
  exact ⟨ret_int (by first | exact hw3 | (rw [hw2]; exact hw3) | rfl), hbb⟩

theorem below_in {w w' : World} (h : Below w.heap.size w w') : w.heap.size ≤ w'.heap.size := h.size
def OfRel (w wr : World) (f mi : Int) (p : Prop) : Prop := Below w.heap.size w wr ∧ Box2 wr w.heap.size (.int .i64 f) (.int .i64 mi) ∧ Box3 wr (w.heap.size + 1) (.int .i64 0) (.int .i64 0) (.int .i64 0) ∧ p
set_option maxHeartbeats 1000000 in
theorem rwof_bad (f mi n : Int) (w : World) (ho : Wk.okOf f mi n = false) (hw : Wk.rB f mi = false ∨ (Wk.rB f mi = true ∧ Cal.inB n = false) ∨ (Wk.rB f mi = true ∧ Cal.inB n = true ∧ n < Wk.bg f mi 1) ∨ (Wk.rB f mi = true ∧ Cal.inB n = true ∧ Wk.bg f mi 1 ≤ n ∧ Wk.bg f mi 10000 ≤ n)) :
    Calls Try.prog 14 #[.agg #[.int .i64 f, .int .i64 mi], .int .i64 n] w fun e w' => e = .returned (.tuple #[.agg #[.int .i64 (Wk.ofY f mi n), .int .i64 (Wk.ofW f mi n), .int .i64 (Wk.ofD f mi n)], .int .i64 (Wk.ofE f mi n)]) ∧ Below w.heap.size w w' := by
  have v1 : Wk.ofY f mi n = 0 := by simp [Wk.ofY, ho]
  have v2 : Wk.ofW f mi n = 0 := by simp [Wk.ofW, ho]
  have v3 : Wk.ofD f mi n = 0 := by simp [Wk.ofD, ho]
  have hE : Wk.rB f mi = true → Wk.ofE f mi n = 2 := by
    intro k; unfold Wk.ofE; rw [if_pos k]; unfold Wk.okOf at ho; rw [k, Bool.true_and] at ho; rw [ho]; rfl
  rw [v1, v2, v3]; clear v1 v2 v3 ho
  rcases hw with hr | ⟨hr, hi⟩ | ⟨hr, hi, h1⟩ | ⟨hr, hi, h1, h2⟩
  · have hE : Wk.ofE f mi n = 1 := by simp [Wk.ofE, hr]
    rw [hE]; clear hE
    go_enter Try.func14, Try.ntmps14
    go_wp2_with fail
    refine (rwvalid_any _ _ _).mono ?_; rintro e w1 ⟨rfl, hb1⟩
    obtain ⟨_, r0, r1, r2, g0, g1, g2⟩ := (show Box3 w1 (w.heap.size + 1) (.int .i64 0) (.int .i64 0) (.int .i64 0) by have := Box3.born hb1; simpa using this)
    have hb := below_box (below_box hb1)
    clear hb1
    go_wp2_with fail
    exact bodyPost_ret (v := .tuple #[.agg #[.int .i64 0, .int .i64 0, .int .i64 0], .int .i64 1]) (by simp [results, Try.results14, go_sem, r0, r1, r2]) rfl ⟨rfl, hb.trans (by go_grown)⟩
  all_goals
    rw [hE hr]
    have hrH := Lib.hid hr
    clear hE hr
    go_enter Try.func14, Try.ntmps14
    go_wp2_with fail
    refine (rwvalid_any _ _ _).mono ?_; rintro e w1 ⟨rfl, hb1⟩
    rw [hrH.out]
    have hRx := Lib.hid (show Box3 w1 (w.heap.size + 1) (.int .i64 0) (.int .i64 0) (.int .i64 0) by have := Box3.born hb1; simpa using this)
    have hBx := Lib.hid (show Box2 w1 w.heap.size (.int .i64 f) (.int .i64 mi) from (Box2.new w _ _ _).later (below_box hb1))
    have hb := below_box (below_box hb1)
    clear hb1
    obtain ⟨lb, c0, c1⟩ := hBx.out
    obtain ⟨lr, r0, r1, r2, g0, g1, g2⟩ := hRx.out
    go_wp2_with (first | (go_at_call 39; refine (rwinside_any _ _).mono ?_; rintro e w' ⟨rfl, rfl⟩) | (go_at_call 20; refine (rwstart_any _ _ _ _ hrH.out (by omega) (by omega)).mono ?_; rintro e wk ⟨rfl, hbk⟩; have hRx := Lib.hid (hRx.out.later hbk); have hBx := Lib.hid (hBx.out.later hbk); have hb := below_then hb hbk; obtain ⟨lb, c0, c1⟩ := hBx.out; obtain ⟨lr, r0, r1, r2, g0, g1, g2⟩ := hRx.out))
    exact bodyPost_ret (v := .tuple #[.agg #[.int .i64 0, .int .i64 0, .int .i64 0], .int .i64 2]) (by simp [results, Try.results14, go_sem, r0, r1, r2]) rfl ⟨rfl, hb.trans (by go_grown)⟩

set_option maxHeartbeats 1000000 in
theorem rwof_good (f mi n : Int) (w : World) (hr : Wk.rB f mi = true) (hi : Cal.inB n = true) (hy : Wk.yB (Wk.wy f mi n) = true) :
    Calls Try.prog 14 #[.agg #[.int .i64 f, .int .i64 mi], .int .i64 n] w fun e w' => e = .returned (.tuple #[.agg #[.int .i64 (Wk.ofY f mi n), .int .i64 (Wk.ofW f mi n), .int .i64 (Wk.ofD f mi n)], .int .i64 (Wk.ofE f mi n)]) ∧ Below w.heap.size w w' := by
  have hok : Wk.okOf f mi n = true := by simp [Wk.okOf, hr, hi, hy]
  have v1 : Wk.ofY f mi n = Wk.wy f mi n := by simp [Wk.ofY, hok]
  have v2 : Wk.ofW f mi n = (n - Wk.bg f mi (Wk.wy f mi n)) / 7 + 1 := by simp [Wk.ofW, hok]
  have v3 : Wk.ofD f mi n = Wk.wd n := by simp [Wk.ofD, hok]
  have v4 : Wk.ofE f mi n = 0 := by simp [Wk.ofE, hr, hi, hy]
  obtain ⟨q1, q2⟩ := (Wk.wy_range hr hi).1 hy
  obtain ⟨⟨y1, y2, _⟩, hd⟩ := Cal.dtG_spec hi
  have hsl : Cal.ysG (Cal.yG n) ≤ n := by have := (Cal.dayG_bd (Cal.dtG_spec hi).1).1; rw [hd] at this; exact this
  obtain ⟨i1, i2⟩ := Cal.inB_iff.1 hi
  have hst : ∀ y0, y0 = 1 ∨ (y0 = Cal.yG n - 1 ∧ 1 ≤ y0) → Wk.bg f mi y0 ≤ n := by
    intro y0 k
    rcases k with rfl | ⟨rfl, k⟩
    · exact q1
    · have := Wk.bg_near hr (Cal.yG n - 1)
      have s1 := Cal.ysG_succ (Cal.yG n - 1)
      rw [show Cal.yG n - 1 + 1 = Cal.yG n by omega] at s1
      have := Cal.lg_01 (Cal.yG n - 1); omega
  have hrH := Lib.hid hr
  have hiH := Lib.hid hi
  have hvH := Lib.hid (And.intro v1 (And.intro v2 (And.intro v3 v4)))
  have hstH := Lib.hid hst
  have hwd : 1 ≤ Wk.wd n ∧ Wk.wd n ≤ 7 := by unfold Wk.wd; omega
  clear hok v1 v2 v3 v4 hr hy hst hd
  go_enter Try.func14, Try.ntmps14
  go_wp2_with fail
  refine (rwvalid_any _ _ _).mono ?_; rintro e w1 ⟨rfl, hb1⟩
  rw [hrH.out]
  have hRx := Lib.hid (show Box3 w1 (w.heap.size + 1) (.int .i64 0) (.int .i64 0) (.int .i64 0) by have := Box3.born hb1; simpa using this)
  have hBx := Lib.hid (show Box2 w1 w.heap.size (.int .i64 f) (.int .i64 mi) from (Box2.new w _ _ _).later (below_box hb1))
  have hb := below_box (below_box hb1)
  clear hb1
  obtain ⟨lb, c0, c1⟩ := hBx.out
  go_wp2_with (first | (go_at_call 39; refine (rwinside_any _ _).mono ?_; rintro e w' ⟨rfl, rfl⟩) | (go_at_call 20; refine (rwstart_any _ _ _ _ hrH.out (by omega) (by omega)).mono ?_; rintro e wk ⟨rfl, hbk⟩; have hRx := Lib.hid (hRx.out.later hbk); have hBx := Lib.hid (hBx.out.later hbk); have hb := below_then hb hbk; obtain ⟨lb, c0, c1⟩ := hBx.out) | (go_at_call 40; refine (rwyear_any _ _ hiH.out).mono ?_; rintro e w' ⟨rfl, rfl⟩))
  all_goals
    go_loopg [6] 10000 (fun g t6 wr => ∃ y : Int, 1 ≤ y ∧ y ≤ 9999 ∧ t6 = .int .i64 y ∧ Wk.bg f mi y ≤ n ∧ OfRel w wr f mi ((9999 - y).toNat ≤ g))
    case atStart => exact ⟨_, by omega, by omega, rfl, hstH.out _ (by omega), hb, hBx.out, hRx.out, by omega⟩
    case round =>
      clear hb c0 c1 lb
      obtain ⟨y, z1, z2, rfl, z3, hb, hB, hR, hg⟩ := hrel
      have hBH := Lib.hid hB
      have hRH := Lib.hid hR
      have hnb := Wk.bg_near hrH.out y
      have hyb := Cal.ysG_bd z1 (by omega)
      have hsu := Wk.bg_succ hrH.out y
      obtain ⟨lb, c0, c1⟩ := hBH.out
      clear hB hR
      by_cases hc : Wk.bg f mi (y + 1) ≤ n
      · have z4 : y < 9999 := by
          rcases (show y < 9999 ∨ y = 9999 by omega) with q | q
          · exact q
          · subst q; have e : Wk.bg f mi (9999 + 1) = Wk.bg f mi 10000 := rfl
            omega
        clear hsu
        go_wp2_with (go_at_call 20; refine (rwstart_any _ _ _ _ hrH.out (by omega) (by omega)).mono ?_; rintro e wk ⟨rfl, hbk⟩)
        go_roundg (gk - 1)
        case measure => omega
        case rel => exact ⟨y + 1, by omega, by omega, rfl, hc, below_then hb hbk, hBH.out.later hbk, hRH.out.later hbk, by omega⟩
      · have hw := Lib.hid (Wk.wy_eq hrH.out hiH.out z3 (by omega))
        have hgap : 0 ≤ n - Wk.bg f mi y ∧ n - Wk.bg f mi y ≤ 371 := by omega
        clear hsu
        go_wp2_with fail
        refine (rwstart_any _ _ _ _ hrH.out (by omega) (by omega)).mono ?_; rintro e wk ⟨rfl, hbk⟩
        have hB2 := Lib.hid (hBH.out.later hbk)
        have hR2 := Lib.hid (hRH.out.later hbk)
        have hb := below_then hb hbk
        clear hbk lb c0 c1
        obtain ⟨lb, c0, c1⟩ := hB2.out
        go_wp2_with fail
        refine (rwstart_any _ _ _ _ hrH.out (by omega) (by omega)).mono ?_; rintro e wl ⟨rfl, hbl⟩
        have hb := below_then hb hbl
        obtain ⟨lr, r0, r1, r2, g0, g1, g2⟩ := hR2.out.later hbl
        clear hbl
        go_wp2_with (go_at_call 41; refine (rwweekday_any _ _ (by omega) (by omega)).mono ?_; rintro e w' ⟨rfl, rfl⟩)
        obtain ⟨v1, v2, v3, v4⟩ := hvH.out
        rw [v1, v2, v3, v4, ← hw.out]
        refine bodyPost_ret (by simp [results, Try.results14, go_sem, r0, r1, r2]) rfl ⟨rfl, ?_⟩
        exact hb.trans (by go_grown)
theorem rwof_any (f mi n : Int) (w : World) :
    Calls Try.prog 14 #[.agg #[.int .i64 f, .int .i64 mi], .int .i64 n] w fun e w' => e = .returned (.tuple #[.agg #[.int .i64 (Wk.ofY f mi n), .int .i64 (Wk.ofW f mi n), .int .i64 (Wk.ofD f mi n)], .int .i64 (Wk.ofE f mi n)]) ∧ Below w.heap.size w w' := by
  by_cases hr : Wk.rB f mi = true
  · by_cases hi : Cal.inB n = true
    · by_cases hy : Wk.yB (Wk.wy f mi n) = true
      · exact rwof_good f mi n w hr hi hy
      · have hk := fun k => hy ((Wk.wy_range hr hi).2 k)
        refine rwof_bad f mi n w (by simp [Wk.okOf, hy]) (Or.inr (Or.inr ?_))
        by_cases q : n < Wk.bg f mi 1
        · exact Or.inl ⟨hr, hi, q⟩
        · exact Or.inr ⟨hr, hi, by omega, by
            rcases (show Wk.bg f mi 10000 ≤ n ∨ n < Wk.bg f mi 10000 by omega) with z | z
            · exact z
            · exact absurd ⟨by omega, z⟩ hk⟩
    · exact rwof_bad f mi n w (by simp [Wk.okOf, hi]) (Or.inr (Or.inl ⟨hr, by simpa using hi⟩))
  · exact rwof_bad f mi n w (by simp [Wk.okOf, hr]) (Or.inl (by simpa using hr))
end Go.Proofs.Ytajpbajffmiceaa
