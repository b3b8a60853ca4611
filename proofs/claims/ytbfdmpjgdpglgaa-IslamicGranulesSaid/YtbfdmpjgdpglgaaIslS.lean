/- Contracts of the reference of layer 6: Day and Date. No conditions. -/
import Derived.Test.YtbfdmpjgdpglgaaIslR
namespace Go.Proofs.Ytbfdmpjgdpglgaa
open Go.ChangeShapes Go.WideShapes Go.ChangeAt Go.RowKit

set_option maxHeartbeats 1000000 in
theorem rvaliddate_any (k y m d : Int) (w : World) :
    Calls Try.prog 37 #[.int .i64 k, .agg #[.int .i64 y, .int .i64 m, .int .i64 d]] w fun e w' => e = .returned (.bool (Isl.okb k y m d)) ∧ Below w.heap.size w w' := by
  have ho : Isl.okb k y m d = (decide (1 ≤ d) && decide (d ≤ Isl.lenc k y m)) := rfl
  have hlb := Isl.lenc_bd k y m
  rw [ho]; clear ho
  by_cases h1 : 1 ≤ d
  · have hd0 : decide (1 ≤ d) = true := by simpa using h1
    go_enter Try.func37, Try.ntmps37
    go_wp2_with fail
    go_region_held3 (fun w' => w'.cell? ⟨w.heap.size, 0, none⟩ = some (.int .i64 y) ∧ w'.cell? ⟨w.heap.size, 1, none⟩ = some (.int .i64 m) ∧ w'.cell? ⟨w.heap.size, 2, none⟩ = some (.int .i64 d))
      (first | go_keep | (go_split_ands; exact ⟨keep1 hb1 (by simp) (by assumption), keep1 hb1 (by simp) (by assumption), keep1 hb1 (by simp) (by assumption)⟩))
      (first | (go_at_call 24; refine (rlengthi_any _ _ _ _).mono ?_; rintro e w1 ⟨rfl, hb1⟩))
    go_wp2_with fail
    go_ret
    exact ⟨by simp [h1], below_box (below_undrew hb1)⟩
  · have hd0 : decide (1 ≤ d) = false := by simpa using h1
    go_enter Try.func37, Try.ntmps37
    go_wp2_with fail
    go_quiet (fail)
    go_wp2
    go_ret
    exact ⟨by simp [hd0], below_drewN (by go_grown) _⟩

def DayRel (w wr : World) (y m d : Int) (p : Prop) : Prop := Below w.heap.size w wr ∧ Box3 wr w.heap.size (.int .i64 y) (.int .i64 m) (.int .i64 d) ∧ p
set_option maxHeartbeats 1000000 in
theorem rdayi_any (k y m d : Int) (w : World) :
    Calls Try.prog 16 #[.int .i64 k, .agg #[.int .i64 y, .int .i64 m, .int .i64 d]] w fun e w' => e = .returned (.tuple #[.int .i64 (Isl.dayN k y m d), .int .i64 (Isl.dayE k y m d)]) ∧ Below w.heap.size w w' := by
  by_cases ho : Isl.okb k y m d = true
  · have hN : Isl.dayN k y m d = Isl.day k y m d := by simp [Isl.dayN, ho]
    have hE : Isl.dayE k y m d = 0 := by simp [Isl.dayE, ho]
    obtain ⟨hk, hy, m1, m2, d1, d2⟩ := Isl.okb_iff.1 ho
    obtain ⟨y1, y2⟩ := Isl.yB_iff.1 hy
    have hfb := Isl.first_bd hk y1 (by omega)
    have hlb := Isl.len_bd k y m
    have hnew : Isl.newN k y = Isl.first k y := by simp [Isl.newN, hk]; omega
    have hkH := Lib.hid hk
    have hyH := Lib.hid hy
    rw [hN, hE]; clear hN hE hk hy
    go_enter Try.func16, Try.ntmps16
    go_wp2_with fail
    refine (rvaliddate_any _ _ _ _ _).mono ?_; rintro e w1 ⟨rfl, hb1⟩
    have hD := Lib.hid (Box3.born hb1)
    have hb := below_box hb1
    obtain ⟨_, c0, c1, c2, _, _, _⟩ := hD.out
    clear hb1
    go_wp2_with fail
    refine (rnew_any _ _ _).mono ?_; rintro e w2 ⟨rfl, hb2⟩
    have hD2 := Lib.hid (hD.out.later hb2)
    have hb := below_then hb hb2
    clear hb2 hD c0 c1 c2
    go_wp2_with fail
    go_loopg [6, 8] 12 (fun g t6 t8 wr => ∃ c : Int, 1 ≤ c ∧ c ≤ m ∧ t8 = .int .i64 c ∧ t6 = .int .i64 (Isl.first k y + Isl.before c) ∧ DayRel w wr y m d ((m - c).toNat ≤ g))
    case atStart => exact ⟨1, by omega, by omega, rfl, val_int (by simp [Isl.before]), hb, hD2.out, by omega⟩
    case round =>
      clear hb hD2
      obtain ⟨c, c1, c2, rfl, rfl, hb, hD, hg⟩ := hrel
      have hbb : 0 ≤ Isl.before c ∧ Isl.before c ≤ 355 := by unfold Isl.before; omega
      have hDH := Lib.hid hD
      obtain ⟨_, e0, e1, e2, _, _, _⟩ := hD
      by_cases hlt : c < m
      · have hlc := Isl.lenc_bd k y c
        have hs : Isl.first k y + Isl.before c + Isl.lenc k y c = Isl.first k y + Isl.before (c + 1) := by
          rw [Isl.before_succ k y c1 (by omega)]; unfold Isl.lenc; rw [if_pos ⟨hkH.out, hyH.out, c1, by omega⟩]; omega
        have hsH := Lib.hid hs
        clear hs
        go_wp2_with (go_at_call 24; refine (rlengthi_any _ _ _ _).mono ?_; rintro e w3 ⟨rfl, hb3⟩)
        go_roundg (gk - 1)
        case measure => omega
        case rel => exact ⟨c + 1, by omega, by omega, rfl, val_int hsH.out, below_then hb hb3, hDH.out.later hb3, by omega⟩
      · obtain rfl : c = m := by omega
        go_wp2
        go_ret2
        exact ⟨by unfold Isl.day; rfl, hb⟩
  · have hN : Isl.dayN k y m d = 0 := by simp [Isl.dayN, ho]
    have hE : Isl.dayE k y m d = 1 := by simp [Isl.dayE, ho]
    rw [hN, hE]; clear hN hE
    go_enter Try.func16, Try.ntmps16
    go_wp2_with (go_at_call 37; refine (rvaliddate_any _ _ _ _ _).mono ?_; rintro e w1 ⟨rfl, hb1⟩)
    go_ret2
    exact ⟨rfl, below_box hb1⟩

def DateRelI (w wr : World) (p : Prop) : Prop := Below w.heap.size w wr ∧ Box3 wr w.heap.size (.int .i64 0) (.int .i64 0) (.int .i64 0) ∧ p
theorem rdatei_month {k n y m x : Int} (hk : Isl.kB k = true) (h1 : 1 ≤ y) (h2 : y ≤ 9600) (m1 : 1 ≤ m) (m2 : m ≤ 12) (hd : Isl.day k y m x = n) (hn : n < Isl.first k (y + 1)) (hl : Isl.lenc k y m < x) : m < 12 ∧ Isl.day k y (m + 1) (x - Isl.lenc k y m) = n := by
  have e : Isl.lenc k y m = Isl.len k y m := by unfold Isl.lenc; rw [if_pos ⟨hk, Isl.yB_iff.2 ⟨h1, h2⟩, m1, m2⟩]
  rw [e] at hl; rw [e]
  rw [Isl.first_succ hk] at hn
  have hm : m < 12 := by
    rcases (show m < 12 ∨ m = 12 by omega) with q | q
    · exact q
    · subst q; have := Isl.before_12 k y; unfold Isl.day at hd; omega
  refine ⟨hm, ?_⟩
  have := Isl.before_succ k y m1 (by omega)
  unfold Isl.day at *; omega

set_option maxHeartbeats 1000000 in
theorem rdatei_any (k n : Int) (w : World) :
    Calls Try.prog 18 #[.int .i64 k, .int .i64 n] w fun e w' => e = .returned (.tuple #[.agg #[.int .i64 (Isl.yI k n), .int .i64 (Isl.mI k n), .int .i64 (Isl.aI k n)], .int .i64 (Isl.dtE k n)]) ∧ Below w.heap.size w w' := by
  by_cases hk : Isl.kB k = true
  · have h96 : Isl.newN k 9601 = Isl.first k 9601 := by simp [Isl.newN, hk]
    by_cases hr : Isl.rB k n = true
    · have hE : Isl.dtE k n = 0 := by simp [Isl.dtE, hk, hr]
      obtain ⟨i1, i2⟩ := Isl.rB_iff.1 hr
      obtain ⟨s1, s2, s3⟩ := Isl.date_start hk i1 i2
      have hyn : Isl.newN k (30 * ((n + 492148) / 10631) + 1) = Isl.first k ((n + 492148) / 10631 * 30 + 1) := by
        rw [show 30 * ((n + 492148) / 10631) + 1 = (n + 492148) / 10631 * 30 + 1 by omega]; unfold Isl.newN; rw [if_pos (by simp [hk]; omega)]
      have hn2 : n < 2909772 := by rw [Isl.first_9601 hk] at i2; exact i2
      have hkH := Lib.hid hk
      have hrH := Lib.hid hr
      have hynH := Lib.hid hyn
      rw [hE]; clear hE hk hr hyn
      go_enter Try.func18, Try.ntmps18
      go_wp2_with fail
      refine (rvalidk_any _ _).mono ?_; rintro e w' ⟨rfl, rfl⟩
      rw [hkH.out]
      go_wp2_with fail
      refine (rnew_any _ _ _).mono ?_; rintro e w1 ⟨rfl, hb1⟩
      have hR := Lib.hid (Box3.born hb1)
      have hb := below_box hb1
      clear hb1
      go_wp2_with fail
      refine (rnew_any _ _ _).mono ?_; rintro e w2 ⟨rfl, hb2⟩
      have hR2 := Lib.hid (hR.out.later hb2)
      have hb := below_then hb hb2
      clear hb2 hR
      rw [hynH.out]
      go_wp2_with fail
      go_loopg [8, 9] 9600 (fun g t8 t9 wr => ∃ y : Int, 1 ≤ y ∧ y ≤ 9600 ∧ t8 = .int .i64 y ∧ t9 = .int .i64 (Isl.first k y) ∧ Isl.first k y ≤ n ∧ DateRelI w wr ((9600 - y).toNat ≤ g))
      case atStart => exact ⟨(n + 492148) / 10631 * 30 + 1, s1, s2, val_int (by omega), rfl, s3, hb, hR2.out, by omega⟩
      case round =>
        clear hb hR2 s1 s2 s3
        obtain ⟨y, y1, y2, rfl, rfl, y3, hb, hR, hg⟩ := hrel
        have hRH := Lib.hid hR
        have hf := Isl.first_bd hkH.out y1 (by omega)
        have hyc : Isl.ylenc k y = Isl.ylen k y := by unfold Isl.ylenc; rw [if_pos ⟨hkH.out, Isl.yB_iff.2 ⟨y1, y2⟩⟩]
        have hs : Isl.first k y + Isl.ylenc k y = Isl.first k (y + 1) := by rw [hyc]; exact (Isl.first_succ hkH.out y).symm
        have hyb : 0 ≤ Isl.ylenc k y ∧ Isl.ylenc k y ≤ 355 := by rw [hyc]; have := Isl.ylen_bd k y; omega
        have hsH := Lib.hid hs
        clear hR hyc
        by_cases hc : Isl.first k y + Isl.ylenc k y ≤ n
        · have hy6 : y < 9600 := by
            rcases (show y < 9600 ∨ y = 9600 by omega) with q | q
            · exact q
            · subst q; rw [hs] at hc; have : Isl.first k (9600 + 1) = Isl.first k 9601 := rfl
              omega
          clear hs
          go_wp2_with fail
          refine (rylen_any _ _ _).mono ?_; rintro e w3 ⟨rfl, hb3⟩
          go_wp2_with fail
          refine (rylen_any _ _ _).mono ?_; rintro e w4 ⟨rfl, hb4⟩
          go_wp2_with fail
          go_roundg (gk - 1)
          case measure => omega
          case rel => exact ⟨y + 1, by omega, by omega, rfl, val_int hsH.out, by rw [← hsH.out]; exact hc, below_then (below_then hb hb3) hb4, (hRH.out.later hb3).later hb4, by omega⟩
        · have hz : n < Isl.first k (y + 1) := by omega
          have hzH := Lib.hid hz
          have hrest : n - Isl.first k y ≤ 354 := by have := Isl.ylen_bd k y; have := Isl.first_succ hkH.out y; omega
          clear hs hz
          go_wp2_with fail
          refine (rylen_any _ _ _).mono ?_; rintro e w3 ⟨rfl, hb3⟩
          have hb := below_then hb hb3
          have hR3 := Lib.hid (hRH.out.later hb3)
          clear hb3 hRH
          go_wp2_with fail
          go_loopg [11, 12] 13 (fun g t11 t12 wr => ∃ m x : Int, 1 ≤ m ∧ m ≤ 12 ∧ 1 ≤ x ∧ x ≤ 355 ∧ t12 = .int .i64 m ∧ t11 = .int .i64 x ∧ Isl.day k y m x = n ∧ DateRelI w wr ((12 - m).toNat ≤ g))
          case atStart => exact ⟨1, _, by omega, by omega, by omega, by omega, rfl, rfl, by unfold Isl.day Isl.before; omega, hb, hR3.out, by omega⟩
          case round =>
            clear hb hR3
            obtain ⟨m, x, m1, m2, x1, x2, rfl, rfl, hd, hb, hR, hg⟩ := hrel
            have hRH := Lib.hid hR
            have hdH := Lib.hid hd
            have hlc := Isl.lenc_bd k y m
            clear hR hd
            by_cases hc : Isl.lenc k y m < x
            · obtain ⟨q1, q2⟩ := rdatei_month hkH.out y1 y2 m1 m2 hdH.out hzH.out hc
              have q2H := Lib.hid q2
              clear q2
              go_wp2_with fail
              refine (rlengthi_any _ _ _ _).mono ?_; rintro e w4 ⟨rfl, hb4⟩
              go_wp2_with fail
              refine (rlengthi_any _ _ _ _).mono ?_; rintro e w5 ⟨rfl, hb5⟩
              go_wp2_with fail
              go_roundg (gk - 1)
              case measure => omega
              case rel => exact ⟨m + 1, x - Isl.lenc k y m, by omega, by omega, by omega, by omega, rfl, rfl, q2H.out, below_then (below_then hb hb4) hb5, (hRH.out.later hb4).later hb5, by omega⟩
            · have hok : Isl.ok k y m x := Isl.okb_iff.1 (by simp [Isl.okb, x1]; omega)
              have hres := Lib.hid (Isl.dt_eq hrH.out hok hdH.out)
              clear hok
              go_wp2_with fail
              refine (rlengthi_any _ _ _ _).mono ?_; rintro e w4 ⟨rfl, hb4⟩
              obtain ⟨_, r0, r1, r2, g0, g1, g2⟩ := hRH.out.later hb4
              go_wp2_with fail
              obtain ⟨e1, e2, e3⟩ := hres.out
              rw [← e1, ← e2, ← e3]
              exact bodyPost_ret (v := .tuple #[.agg #[.int .i64 y, .int .i64 m, .int .i64 x], .int .i64 0]) (by simp [results, Try.results18, go_sem, r0, r1, r2]) rfl ⟨rfl, (below_then hb hb4).trans (by go_grown)⟩
    · have hE : Isl.dtE k n = 2 := by simp [Isl.dtE, hk, hr]
      obtain ⟨e1, e2, e3⟩ := Isl.dt_out (k := k) (n := n) (by simp [hr])
      have hways : n < -492148 ∨ (-492148 ≤ n ∧ Isl.first k 9601 ≤ n) := by rw [Isl.rB_iff] at hr; omega
      rw [hE, e1, e2, e3]; clear hE e1 e2 e3 hr
      rcases hways with q | ⟨q, q'⟩
      all_goals
        go_enter Try.func18, Try.ntmps18
        go_wp2_with (first | (go_at_call 21; refine (rvalidk_any _ _).mono ?_; rintro e w' ⟨rfl, rfl⟩) | (go_at_call 14; refine (rnew_any _ _ _).mono ?_; rintro e w1 ⟨rfl, hb1⟩; obtain ⟨_, r0, r1, r2, g0, g1, g2⟩ := Box3.born hb1))
        exact bodyPost_ret (v := .tuple #[.agg #[.int .i64 0, .int .i64 0, .int .i64 0], .int .i64 2]) (by simp [results, Try.results18, go_sem, r0, r1, r2]) rfl ⟨rfl, (below_box hb1).trans (by go_grown)⟩
  · have hE : Isl.dtE k n = 1 := by simp [Isl.dtE, hk]
    have hk' : Isl.kB k = false := by simpa using hk
    obtain ⟨e1, e2, e3⟩ := Isl.dt_out (k := k) (n := n) (by simp [hk'])
    rw [hE, e1, e2, e3]; clear hE e1 e2 e3 hk
    go_enter Try.func18, Try.ntmps18
    go_wp2_with (first | (go_at_call 21; refine (rvalidk_any _ _).mono ?_; rintro e w' ⟨rfl, rfl⟩))
    exact bodyPost_ret (v := .tuple #[.agg #[.int .i64 0, .int .i64 0, .int .i64 0], .int .i64 1]) (by simp [results, Try.results18, go_sem]) rfl ⟨rfl, by go_grown⟩
end Go.Proofs.Ytbfdmpjgdpglgaa
