/- The contract of islamic.Date, and plain facts on the months of the tabular Islamic calendar as granules. No conditions. -/
import Derived.Deep.LoopGhost
import Derived.Test.YtehjjinlpilelaaGreatDoorMa
import Derived.Test.YtehjjinlpilelaaGreatDoorMc
namespace Isl
theorem first_9601 {k : Int} (hk : kB k = true) : first k 9601 = 2909772 := by have := cnt_1 hk; unfold first place; simp [this]
theorem date_start {k n : Int} (hk : kB k = true) (h1 : -492148 ≤ n) (h2 : n < first k 9601) : 1 ≤ (n + 492148) / 10631 * 30 + 1 ∧ (n + 492148) / 10631 * 30 + 1 ≤ 9600 ∧ first k ((n + 492148) / 10631 * 30 + 1) ≤ n := by
  rw [first_9601 hk] at h2
  refine ⟨by omega, by omega, ?_⟩
  unfold first place
  rw [show ((n + 492148) / 10631 * 30 + 1 - 1) % 30 = 0 by omega, show ((n + 492148) / 10631 * 30 + 1 - 1) / 30 = (n + 492148) / 10631 by omega]
  have := cnt_1 hk
  simp [this]; omega
theorem date_end {k n y m : Int} (hk : kB k = true) (h1 : 1 ≤ y) (h2 : y ≤ 9600) (m1 : 1 ≤ m) (m2 : m ≤ 12) (hn : n < first k (y + 1)) (hb : before m ≤ n - first k y) (hc : m = 12 ∨ n - first k y < before (m + 1)) :
    ok k y m (n - first k y - before m + 1) ∧ day k y m (n - first k y - before m + 1) = n := by
  rw [first_succ hk] at hn
  have h12 := before_12 k y
  refine ⟨⟨hk, yB_iff.2 ⟨h1, h2⟩, m1, m2, by omega, ?_⟩, by unfold day; omega⟩
  rcases hc with rfl | hc
  · omega
  · by_cases q : m = 12
    · subst q; omega
    · rw [before_succ k y m1 (by omega)] at hc; omega
end Isl
namespace Go.Proofs.YtehjjinlpilelaaGreatDoor
open Go.ChangeShapes Go.WideShapes Go.ChangeAt Go.RowKit

def YearRel (w : World) (k n y : Int) (wr : World) (g : Nat) : Prop := Below w.heap.size w wr ∧ Box3 wr w.heap.size (.int .i64 0) (.int .i64 0) (.int .i64 0) ∧ 1 ≤ y ∧ y ≤ 9600 ∧ Isl.first k y ≤ n ∧ (9600 - y).toNat ≤ g
set_option maxHeartbeats 1000000 in
theorem idate_any (k n : Int) (w : World) :
    Calls Tryz.prog 24 #[.int .i64 k, .int .i64 n] w fun e w' => e = .returned (.tuple #[.agg #[.int .i64 (Isl.yI k n), .int .i64 (Isl.mI k n), .int .i64 (Isl.aI k n)], .int .i64 (Isl.dtE k n)]) ∧ Below w.heap.size w w' := by
  by_cases hk : Isl.kB k = true
  · by_cases hr : Isl.rB k n = true
    · have hE : Isl.dtE k n = 0 := by simp [Isl.dtE, hk, hr]
      obtain ⟨i1, i2⟩ := Isl.rB_iff.1 hr
      obtain ⟨s1, s2, s3⟩ := Isl.date_start hk i1 i2
      have hkH := Lib.hid hk
      have hrH := Lib.hid hr
      have h96 := Isl.first_9601 hk
      have hn2 : n < 2909772 := by omega
      rw [hE]; clear hE h96
      go_enter Tryz.func24, Tryz.ntmps24
      go_wp2_with (first | (go_at_call 64; refine (ivalid_any _ _).mono ?_; rintro e w' ⟨rfl, rfl⟩) | (go_at_call 65; refine (ifirst_any _ _ _ hkH.out (by omega) (by omega)).mono ?_; rintro e w1 ⟨rfl, hb1⟩) | (go_at_call 34; refine (floor_any _ _ _ (by omega) (by omega) (by omega) (by omega)).mono ?_; rintro e w' ⟨rfl, q1, rfl⟩))
      have hR := Box3.born hb1
      have hb := below_box hb1
      clear hb1
      go_loopg [6] 9600 (fun g t6 wr => ∃ y : Int, t6 = .int .i64 y ∧ YearRel w k n y wr g)
      case atStart => exact ⟨_, rfl, below_drewN hb _, hR.drewN _, s1, s2, s3, by omega⟩
      case round =>
        clear hR hb s1 s2 s3
        obtain ⟨y, rfl, hb, hR, y1, y2, y3, hg⟩ := hrel
        have hRH := Lib.hid hR
        have hf2 := Isl.first_bd hkH.out y1 (by omega)
        by_cases hc : y < 9600 ∧ Isl.first k (y + 1) ≤ n
        · obtain ⟨c1, c2⟩ := hc
          clear hR
          go_wp2_with (go_at_call 65; refine (ifirst_any _ _ _ hkH.out (by omega) (by omega)).mono ?_; rintro e w2 ⟨rfl, hb2⟩)
          go_roundg (gk - 1)
          case measure => omega
          case rel => exact ⟨y + 1, rfl, below_then hb hb2, hRH.out.later hb2, by omega, by omega, c2, by omega⟩
        · have hz : n < Isl.first k (y + 1) := by
            by_cases e : y = 9600
            · subst e; exact i2
            · omega
          have hyl := Isl.ylen_bd k y
          have hsu := Isl.first_succ hkH.out y
          have hrest : n - Isl.first k y ≤ 354 := by omega
          have hzH := Lib.hid hz
          have hc2 : y < 9600 → n < Isl.first k (y + 1) := fun _ => hz
          clear hc hR hsu hz hyl
          by_cases hlt : y < 9600
          · have hc2 := hc2 hlt
            go_wp2_with fail
            refine (ifirst_any _ _ _ hkH.out (by omega) (by omega)).mono ?_; rintro e w2 ⟨rfl, hb2⟩
            have hb := below_then hb hb2
            have hRH := Lib.hid (hRH.out.later hb2)
            go_wp2_with fail
            refine (ifirst_any _ _ _ hkH.out (by omega) (by omega)).mono ?_; rintro e w3 ⟨rfl, hb3⟩
            have hb := below_then hb hb3
            obtain ⟨_, r0, r1, r2, g0, g1, g2⟩ := hRH.out.later hb3
            go_wp2_with fail
            go_loop [8] (fun t => ∃ m : Int, 1 ≤ m ∧ m ≤ 12 ∧ Isl.before m ≤ n - Isl.first k y ∧ t = .int .i64 m) (fun t => (12 - intOf t).toNat)
            case atStart => exact ⟨1, by omega, by omega, by simp [Isl.before]; omega, rfl⟩
            case round =>
              obtain ⟨m, k1, k2, k3, rfl⟩ := hrel
              have hbm : 0 ≤ Isl.before m ∧ Isl.before m ≤ 355 := by unfold Isl.before; omega
              by_cases hc : m < 12 ∧ Isl.before (m + 1) ≤ n - Isl.first k y
              · obtain ⟨hc1, hc2⟩ := hc
                go_wp2_with (go_at_call 66; refine (ibefore_any _ _ (by omega) (by omega)).mono ?_; rintro e w' ⟨rfl, rfl⟩)
                go_round
                case rel => exact ⟨m + 1, by omega, by omega, hc2, rfl⟩
                case measure => simp [intOf]; omega
              · have hd := Isl.date_end hkH.out y1 y2 k1 k2 hzH.out k3 (by omega)
                have hres := Lib.hid (Isl.dt_eq hrH.out hd.1 hd.2)
                have hz' : m < 12 → n - Isl.first k y < Isl.before (m + 1) := by omega
                clear hc hd
                by_cases hm : m < 12
                all_goals
                  try have hz' := hz' hm
                  go_wp2_with (go_at_call 66; refine (ibefore_any _ _ (by omega) (by omega)).mono ?_; rintro e w' ⟨rfl, rfl⟩)
                  obtain ⟨e1, e2, e3⟩ := hres.out
                  rw [← e1, ← e2, ← e3]
                  exact bodyPost_ret (v := .tuple #[.agg #[.int .i64 y, .int .i64 m, .int .i64 (n - Isl.first k y - Isl.before m + 1)], .int .i64 0]) (by simp [results, Tryz.results24, go_sem, r0, r1, r2]) rfl ⟨rfl, hb.trans (by go_grown)⟩
          · go_wp2_with fail
            refine (ifirst_any _ _ _ hkH.out (by omega) (by omega)).mono ?_; rintro e w3 ⟨rfl, hb3⟩
            have hb := below_then hb hb3
            obtain ⟨_, r0, r1, r2, g0, g1, g2⟩ := hRH.out.later hb3
            go_wp2_with fail
            go_loop [8] (fun t => ∃ m : Int, 1 ≤ m ∧ m ≤ 12 ∧ Isl.before m ≤ n - Isl.first k y ∧ t = .int .i64 m) (fun t => (12 - intOf t).toNat)
            case atStart => exact ⟨1, by omega, by omega, by simp [Isl.before]; omega, rfl⟩
            case round =>
              obtain ⟨m, k1, k2, k3, rfl⟩ := hrel
              have hbm : 0 ≤ Isl.before m ∧ Isl.before m ≤ 355 := by unfold Isl.before; omega
              by_cases hc : m < 12 ∧ Isl.before (m + 1) ≤ n - Isl.first k y
              · obtain ⟨hc1, hc2⟩ := hc
                go_wp2_with (go_at_call 66; refine (ibefore_any _ _ (by omega) (by omega)).mono ?_; rintro e w' ⟨rfl, rfl⟩)
                go_round
                case rel => exact ⟨m + 1, by omega, by omega, hc2, rfl⟩
                case measure => simp [intOf]; omega
              · have hd := Isl.date_end hkH.out y1 y2 k1 k2 hzH.out k3 (by omega)
                have hres := Lib.hid (Isl.dt_eq hrH.out hd.1 hd.2)
                have hz' : m < 12 → n - Isl.first k y < Isl.before (m + 1) := by omega
                clear hc hd
                by_cases hm : m < 12
                all_goals
                  try have hz' := hz' hm
                  go_wp2_with (go_at_call 66; refine (ibefore_any _ _ (by omega) (by omega)).mono ?_; rintro e w' ⟨rfl, rfl⟩)
                  obtain ⟨e1, e2, e3⟩ := hres.out
                  rw [← e1, ← e2, ← e3]
                  exact bodyPost_ret (v := .tuple #[.agg #[.int .i64 y, .int .i64 m, .int .i64 (n - Isl.first k y - Isl.before m + 1)], .int .i64 0]) (by simp [results, Tryz.results24, go_sem, r0, r1, r2]) rfl ⟨rfl, hb.trans (by go_grown)⟩
    · have hE : Isl.dtE k n = 2 := by simp [Isl.dtE, hk, hr]
      obtain ⟨e1, e2, e3⟩ := Isl.dt_out (k := k) (n := n) (by simp [hr])
      have hways : n < -492148 ∨ (-492148 ≤ n ∧ Isl.first k 9601 ≤ n) := by rw [Isl.rB_iff] at hr; omega
      have hkH := Lib.hid hk
      rw [hE, e1, e2, e3]; clear hE e1 e2 e3 hr
      rcases hways with q | ⟨q, q'⟩
      · go_enter Tryz.func24, Tryz.ntmps24
        go_wp2_with (first | (go_at_call 64; refine (ivalid_any _ _).mono ?_; rintro e w' ⟨rfl, rfl⟩))
        exact bodyPost_ret (v := .tuple #[.agg #[.int .i64 0, .int .i64 0, .int .i64 0], .int .i64 2]) (by simp [results, Tryz.results24, go_sem]) rfl ⟨rfl, by go_grown⟩
      · go_enter Tryz.func24, Tryz.ntmps24
        go_wp2_with (first | (go_at_call 64; refine (ivalid_any _ _).mono ?_; rintro e w' ⟨rfl, rfl⟩) | (go_at_call 65; refine (ifirst_any _ _ _ hkH.out (by omega) (by omega)).mono ?_; rintro e w1 ⟨rfl, hb1⟩; obtain ⟨_, r0, r1, r2, g0, g1, g2⟩ := Box3.born hb1))
        exact bodyPost_ret (v := .tuple #[.agg #[.int .i64 0, .int .i64 0, .int .i64 0], .int .i64 2]) (by simp [results, Tryz.results24, go_sem, r0, r1, r2]) rfl ⟨rfl, (below_box hb1).trans (by go_grown)⟩
  · have hE : Isl.dtE k n = 1 := by simp [Isl.dtE, hk]
    have hk' : Isl.kB k = false := by simpa using hk
    obtain ⟨e1, e2, e3⟩ := Isl.dt_out (k := k) (n := n) (by simp [hk'])
    rw [hE, e1, e2, e3]; clear hE e1 e2 e3 hk
    go_enter Tryz.func24, Tryz.ntmps24
    go_wp2_with (first | (go_at_call 64; refine (ivalid_any _ _).mono ?_; rintro e w' ⟨rfl, rfl⟩))
    exact bodyPost_ret (v := .tuple #[.agg #[.int .i64 0, .int .i64 0, .int .i64 0], .int .i64 1]) (by simp [results, Tryz.results24, go_sem]) rfl ⟨rfl, by go_grown⟩
end Go.Proofs.YtehjjinlpilelaaGreatDoor
namespace Go.Proofs.YtehjjinlpilelaaGreatDoor
open Go.ChangeShapes Go.WideShapes Go.ChangeAt Go.RowKit

def BelowRel (w wr : World) (p : Prop) : Prop := Below w.heap.size w wr ∧ p
/-- days of a year's months below m, of a year that may be none -/
def sumc (k y m : Int) : Int := if Isl.kB k = true ∧ Isl.yB y = true then (if m = 13 then Isl.ylen k y else Isl.before m) else 0
theorem sumc_succ (k y : Int) {m : Int} (h1 : 1 ≤ m) (h2 : m ≤ 12) : sumc k y m + Isl.lenc k y m = sumc k y (m + 1) := by
  unfold sumc Isl.lenc
  by_cases h : Isl.kB k = true ∧ Isl.yB y = true
  · simp only [if_pos h]
    rw [if_pos (show Isl.kB k = true ∧ Isl.yB y = true ∧ 1 ≤ m ∧ m ≤ 12 from ⟨h.1, h.2, h1, h2⟩), if_neg (show ¬ m = 13 by omega)]
    by_cases h3 : m = 12
    · subst h3; exact Isl.before_12 k y
    · rw [if_neg (by omega)]; exact (Isl.before_succ k y h1 (by omega)).symm
  · simp only [if_neg h]; rw [if_neg (fun q => h ⟨q.1, q.2.1⟩)]; rfl
theorem sumc_bd (k y : Int) {m : Int} (h1 : 1 ≤ m) (h2 : m ≤ 13) : 0 ≤ sumc k y m ∧ sumc k y m ≤ 400 := by
  have := Isl.ylen_bd k y
  unfold sumc; split
  · split
    · omega
    · unfold Isl.before; omega
  · omega
theorem sumc_13 (k y : Int) : sumc k y 13 = Isl.ylenc k y := by unfold sumc Isl.ylenc; rfl
end Go.Proofs.YtehjjinlpilelaaGreatDoor
namespace Go.Proofs.YtehjjinlpilelaaGreatDoor
open Go.ChangeShapes Go.WideShapes Go.ChangeAt Go.RowKit

def DayRel (w wr : World) (y m d : Int) (p : Prop) : Prop := Below w.heap.size w wr ∧ Box3 wr w.heap.size (.int .i64 y) (.int .i64 m) (.int .i64 d) ∧ p
def DateRelI (w wr : World) (p : Prop) : Prop := Below w.heap.size w wr ∧ Box3 wr w.heap.size (.int .i64 0) (.int .i64 0) (.int .i64 0) ∧ p
theorem rdatei_month {k n y m x : Int} (hk : Isl.kB k = true) (h1 : 1 ≤ y) (h2 : y ≤ 9600) (m1 : 1 ≤ m) (m2 : m ≤ 12) (hd : Isl.day k y m x = n) (hn : n < Isl.first k (y + 1)) (hl : Isl.lenc k y m < x) : m < 12 ∧ Isl.day k y (m + 1) (x - Isl.lenc k y m) = n := by
  have e : Isl.lenc k y m = Isl.len k y m := by unfold Isl.lenc; rw [if_pos ⟨hk, Isl.yB_iff.2 ⟨h1, h2⟩, m1, m2⟩]
  rw [e] at hl; rw [e]
  rw [Isl.first_succ hk] at hn
  have hm : m < 12 := by
    rcases (show m < 12 ∨ m = 12 by omega) with q | q
    · exact q
    · subst q; have := Isl.before_12 k y; unfold Isl.day at hd; omega
  refine ⟨hm, ?_⟩
  have := Isl.before_succ k y m1 (by omega)
  unfold Isl.day at *; omega

end Go.Proofs.YtehjjinlpilelaaGreatDoor
namespace Isl
theorem cnt_near : ∀ a ∈ [(1 : Int), 2, 3, 4], ∀ b ∈ [(1 : Int), 2, 3, 4], ∀ r ∈ List.range 30, cnt (leapsL a) ((r : Int) + 1) - cnt (leapsL b) ((r : Int) + 1) ≤ 1 := by decide +kernel
theorem kmem {k : Int} (h : kB k = true) : k ∈ [(1 : Int), 2, 3, 4] := by rcases kinds h with rfl | rfl | rfl | rfl <;> simp
theorem first_near {a b : Int} (ha : kB a = true) (hb : kB b = true) (y : Int) : first a y - first b y ≤ 1 := by
  have h := cnt_near a (kmem ha) b (kmem hb) ((y - 1) % 30).toNat (by simp; omega)
  rw [show (((y - 1) % 30).toNat : Int) = (y - 1) % 30 by omega] at h
  unfold first place; omega
theorem first_cyc {k : Int} (hk : kB k = true) (y : Int) : first k (y - (y - 1) % 30) = -492148 + (y - 1) / 30 * 10631 := by
  have := cnt_1 hk
  unfold first place
  rw [show (y - (y - 1) % 30 - 1) % 30 = 0 by omega, show (y - (y - 1) % 30 - 1) / 30 = (y - 1) / 30 by omega]
  simp [this]
theorem first_30 (k y : Int) : first k (y + 30) = first k y + 10631 := by
  unfold first place
  rw [show (y + 30 - 1) % 30 = (y - 1) % 30 by omega, show (y + 30 - 1) / 30 = (y - 1) / 30 + 1 by omega]; omega
theorem lp_30 (k y : Int) : lp k (y + 30) = lp k y := by unfold lp place; rw [show (y + 30 - 1) % 30 = (y - 1) % 30 by omega]
theorem ylen_lp (k y : Int) : ylen k y = 354 + (if lp k y then 1 else 0) := by unfold ylen; split <;> rfl
end Isl
namespace Go.Proofs.YtehjjinlpilelaaGreatDoor
open Go.ChangeShapes Go.WideShapes Go.ChangeAt Go.RowKit

theorem kinds_ways (a b y m d : Int) : (Isl.dayE a y m d != 0) = true ∨ ((Isl.dayE a y m d = 0) ∧ (Isl.dayE b y m d != 0) = true) ∨ (Isl.dayE a y m d = 0 ∧ Isl.dayE b y m d = 0 ∧ Isl.dayN a y m d - Isl.dayN b y m d ≤ 1 ∧ Isl.dayN b y m d - Isl.dayN a y m d ≤ 1 ∧ -492148 ≤ Isl.dayN a y m d ∧ Isl.dayN a y m d ≤ 3000000 ∧ -492148 ≤ Isl.dayN b y m d ∧ Isl.dayN b y m d ≤ 3000000) := by
  by_cases h1 : Isl.okb a y m d = true
  · by_cases h2 : Isl.okb b y m d = true
    · refine Or.inr (Or.inr ⟨by simp [Isl.dayE, h1], by simp [Isl.dayE, h2], ?_⟩)
      have o1 := Isl.okb_iff.1 h1
      have o2 := Isl.okb_iff.1 h2
      have n1 := Isl.first_near o1.1 o2.1 y
      have n2 := Isl.first_near o2.1 o1.1 y
      have hy := Isl.yB_iff.1 o1.2.1
      have b1 := Isl.first_bd o1.1 hy.1 (by omega)
      have b2 := Isl.first_bd o2.1 hy.1 (by omega)
      have l1 := Isl.len_bd a y m
      obtain ⟨_, _, m1, m2, d1, d2⟩ := o1
      have hbf : 0 ≤ Isl.before m ∧ Isl.before m ≤ 355 := by unfold Isl.before; omega
      have e1 : Isl.dayN a y m d = Isl.day a y m d := by simp [Isl.dayN, h1]
      have e2 : Isl.dayN b y m d = Isl.day b y m d := by simp [Isl.dayN, h2]
      rw [e1, e2]; unfold Isl.day; omega
    · exact Or.inr (Or.inl ⟨by simp [Isl.dayE, h1], by simp [Isl.dayE, h2]⟩)
  · exact Or.inl (by simp [Isl.dayE, h1])
end Go.Proofs.YtehjjinlpilelaaGreatDoor
namespace Isl
/-- days from the first day of the year fr to the beginning of month i -/
def S (k fr i : Int) : Int := first k (fr + i / 12) - first k fr + before (i % 12 + 1)
theorem S_0 (k fr : Int) : S k fr 0 = 0 := by simp [S, before]
theorem S_succ {k fr i : Int} (hk : kB k = true) (f1 : 1 ≤ fr) (f2 : fr ≤ 9571) (i0 : 0 ≤ i) (i1 : i < 360) : S k fr i + lenc k (fr + i / 12) (i % 12 + 1) = S k fr (i + 1) := by
  have hy : yB (fr + i / 12) = true := yB_iff.2 ⟨by omega, by omega⟩
  have hl : lenc k (fr + i / 12) (i % 12 + 1) = len k (fr + i / 12) (i % 12 + 1) := by unfold lenc; rw [if_pos ⟨hk, hy, by omega, by omega⟩]
  rw [hl]; unfold S
  by_cases h : i % 12 = 11
  · rw [h, show (i + 1) / 12 = i / 12 + 1 by omega, show (i + 1) % 12 = 0 by omega, show fr + (i / 12 + 1) = fr + i / 12 + 1 by omega, first_succ hk, show (11 : Int) + 1 = 12 by rfl]
    have := before_12 k (fr + i / 12)
    have : before (0 + 1) = 0 := by rfl
    omega
  · rw [show (i + 1) / 12 = i / 12 by omega, show (i + 1) % 12 = i % 12 + 1 by omega, before_succ (m := i % 12 + 1) k (fr + i / 12) (by omega) (by omega)]
    omega
theorem S_360 (k fr : Int) : S k fr 360 = 10631 := by
  have := first_30 k fr
  unfold S before
  rw [show (360 : Int) / 12 = 30 by rfl, this]; simp; omega
theorem S_bd {k fr i : Int} (hk : kB k = true) (f1 : 1 ≤ fr) (f2 : fr ≤ 9571) (i0 : 0 ≤ i) (i1 : i ≤ 360) : -4000000 ≤ S k fr i ∧ S k fr i ≤ 4000000 := by
  have h1 := first_bd hk f1 (show fr ≤ 9601 by omega)
  have h2 := first_bd hk (show 1 ≤ fr + i / 12 by omega) (show fr + i / 12 ≤ 9601 by omega)
  unfold S before; omega
/-- the spans of j groups of n months -/
def fs (k fr n : Int) : Nat → List Int
  | 0 => []
  | j + 1 => fs k fr n j ++ [S k fr (j * n), S k fr ((j + 1) * n)]
theorem fs_len (k fr n : Int) : ∀ j, (fs k fr n j).length = 2 * j
  | 0 => rfl
  | j + 1 => by simp [fs, fs_len k fr n j]; omega
theorem fs_get (k fr n : Int) : ∀ (j i : Nat), i < j → (fs k fr n j).getD (2 * i) 0 = S k fr (i * n) ∧ (fs k fr n j).getD (2 * i + 1) 0 = S k fr ((i + 1) * n)
  | 0, i, h => by omega
  | j + 1, i, h => by
    have hl := fs_len k fr n j
    by_cases e : i = j
    · subst e
      simp only [fs]
      constructor
      · simp only [List.getD]; rw [List.getElem?_append_right (by omega), show 2 * i - (fs k fr n i).length = 0 by omega]; rfl
      · simp only [List.getD]; rw [List.getElem?_append_right (by omega), show 2 * i + 1 - (fs k fr n i).length = 1 by omega]; rfl
    · obtain ⟨a, b⟩ := fs_get k fr n j i (by omega)
      simp only [fs]
      rw [← a, ← b]
      constructor
      · simp only [List.getD]; rw [List.getElem?_append_left (by omega)]
      · simp only [List.getD]; rw [List.getElem?_append_left (by omega)]
/-- the month i begins so many days behind the first one -/
theorem S_day {k fr i : Int} (hk : kB k = true) (f1 : 1 ≤ fr) (f2 : fr ≤ 9571) (i0 : 0 ≤ i) (i1 : i < 360) : dayN k (fr + i / 12) (i % 12 + 1) 1 = first k fr + S k fr i ∧ dayE k (fr + i / 12) (i % 12 + 1) 1 = 0 := by
  have hy : yB (fr + i / 12) = true := yB_iff.2 ⟨by omega, by omega⟩
  have hb := len_bd k (fr + i / 12) (i % 12 + 1)
  have ho : okb k (fr + i / 12) (i % 12 + 1) 1 = true := okb_iff.2 ⟨hk, hy, by omega, by omega, by omega, by omega⟩
  refine ⟨?_, by simp [dayE, ho]⟩
  have e : dayN k (fr + i / 12) (i % 12 + 1) 1 = day k (fr + i / 12) (i % 12 + 1) 1 := by simp [dayN, ho]
  rw [e]; unfold day S; omega
/-- whether a year's day with a month and a day lies in a span -/
def hit (k m d fr to y : Int) : Bool := okb k y m d && (decide (fr ≤ day k y m d) && decide (day k y m d ≤ to))
/-- the days of n years from lo on -/
def ml (k m d fr to lo : Int) : Nat → List Int
  | 0 => []
  | n + 1 => if hit k m d fr to (lo + n) then ml k m d fr to lo n ++ [day k (lo + n) m d] else ml k m d fr to lo n
theorem ml_yes {k m d fr to lo : Int} {n : Nat} (h : hit k m d fr to (lo + n) = true) : ml k m d fr to lo (n + 1) = ml k m d fr to lo n ++ [day k (lo + n) m d] := by simp [ml, h]
theorem ml_no {k m d fr to lo : Int} {n : Nat} (h : hit k m d fr to (lo + n) = false) : ml k m d fr to lo (n + 1) = ml k m d fr to lo n := by simp [ml, h]
theorem ml_len (k m d fr to lo : Int) : ∀ n, (ml k m d fr to lo n).length ≤ n
  | 0 => by simp [ml]
  | n + 1 => by
    have := ml_len k m d fr to lo n
    simp only [ml]; split
    · simp; omega
    · omega
theorem ml_none (k m d fr to lo : Int) : ∀ n : Nat, (∀ j : Nat, j < n → hit k m d fr to (lo + j) = false) → ml k m d fr to lo n = []
  | 0, _ => rfl
  | n + 1, h => by rw [ml_no (h n (by omega))]; exact ml_none k m d fr to lo n fun j hj => h j (by omega)
theorem ml_front (k m d fr to lo : Int) (a : Nat) (h : ∀ j : Nat, j < a → hit k m d fr to (lo + j) = false) : ∀ n : Nat, ml k m d fr to lo (a + n) = ml k m d fr to (lo + a) n
  | 0 => by rw [Nat.add_zero, ml_none k m d fr to lo a h]; rfl
  | n + 1 => by
    have e : lo + ((a + n : Nat) : Int) = lo + a + n := by omega
    rw [← Nat.add_assoc]
    cases q : hit k m d fr to (lo + a + n)
    · rw [ml_no q, ml_no (by rw [e]; exact q)]; exact ml_front k m d fr to lo a h n
    · rw [ml_yes q, ml_yes (by rw [e]; exact q), e, ml_front k m d fr to lo a h n]
theorem ml_back (k m d fr to lo : Int) (n : Nat) : ∀ b : Nat, (∀ j : Nat, n ≤ j → j < n + b → hit k m d fr to (lo + j) = false) → ml k m d fr to lo (n + b) = ml k m d fr to lo n
  | 0, _ => rfl
  | b + 1, h => by rw [← Nat.add_assoc, ml_no (h (n + b) (by omega) (by omega))]; exact ml_back k m d fr to lo n b fun j h1 h2 => h j h1 (by omega)
/-- all years' days -/
def ML (k m d fr to : Int) : List Int := ml k m d fr to 1 9600
theorem ml_eq {k m d fr to lo : Int} {n : Nat} (h1 : 1 ≤ lo) (hn : n = 0 ∨ lo + n ≤ 9601) (hf : ∀ y, 1 ≤ y → y ≤ 9600 → y < lo → hit k m d fr to y = false) (hb : ∀ y, 1 ≤ y → y ≤ 9600 → lo + n ≤ y → hit k m d fr to y = false) : ml k m d fr to lo n = ML k m d fr to := by
  unfold ML
  by_cases q : lo ≤ 9601
  · have e : 9600 = (lo - 1).toNat + (n + (9601 - lo - n).toNat) := by omega
    rw [e, ml_front k m d fr to 1 (lo - 1).toNat (fun j hj => hf _ (by omega) (by omega) (by omega)), show 1 + (((lo - 1).toNat : Nat) : Int) = lo by omega,
      ml_back k m d fr to lo n _ fun j h1 h2 => hb _ (by omega) (by omega) (by omega)]
  · rcases hn with rfl | hn
    · rw [ml_none k m d fr to 1 9600 fun j hj => hf _ (by omega) (by omega) (by omega)]; rfl
    · omega
theorem hit_true {k m d fr to y : Int} (h : hit k m d fr to y = true) : okb k y m d = true ∧ fr ≤ day k y m d ∧ day k y m d ≤ to := by
  simpa [hit, Bool.and_eq_true, decide_eq_true_eq] using h
theorem no_hit_low {k m d fr to y : Int} (_hk : kB k = true) (h : first k (y + 1) ≤ fr) : hit k m d fr to y = false := by
  cases q : hit k m d fr to y
  · rfl
  · obtain ⟨a, b, c⟩ := hit_true q
    have := day_bd (okb_iff.1 a)
    omega
theorem no_hit_high {k m d fr to y : Int} (h : to < first k y) : hit k m d fr to y = false := by
  cases q : hit k m d fr to y
  · rfl
  · obtain ⟨a, b, c⟩ := hit_true q
    have := day_bd (okb_iff.1 a)
    omega
theorem first_355 {k : Int} (hk : kB k = true) : ∀ n : Nat, first k (1 + n) ≤ -492148 + 355 * n
  | 0 => by have := first_1 hk; simp; omega
  | n + 1 => by
    have h := first_355 hk n
    have h2 := first_succ hk (1 + n)
    have h3 := ylen_bd k (1 + n)
    rw [show 1 + ((n + 1 : Nat) : Int) = 1 + n + 1 by omega, h2]; omega
/-- years before the guess -/
theorem guess_low {k m d fr to y : Int} (hk : kB k = true) (h1 : 1 ≤ y) (h : y < (fr + 492148) / 355) : hit k m d fr to y = false := by
  have := first_355 hk y.toNat
  rw [show 1 + ((y.toNat : Nat) : Int) = y + 1 by omega] at this
  exact no_hit_low hk (by omega)
theorem first_le {k a b : Int} (hk : kB k = true) (h : a ≤ b) : first k a ≤ first k b := by
  rcases Int.lt_or_eq_of_le h with q | rfl
  · have h1 := first_mono hk q; have h2 := first_succ hk a; have h3 := ylen_bd k a; omega
  · exact Int.le_refl _
/-- years behind one that begins behind the span -/
theorem late {k m d fr to a y : Int} (hk : kB k = true) (h : to < first k a) (hy : a ≤ y) : hit k m d fr to y = false :=
  no_hit_high (Int.lt_of_lt_of_le h (first_le hk hy))
theorem first_cyc0 {k : Int} (hk : kB k = true) (q : Int) : first k (30 * q + 1) = -492148 + q * 10631 := by
  have := first_cyc hk (30 * q + 1)
  rw [show 30 * q + 1 - (30 * q + 1 - 1) % 30 = 30 * q + 1 by omega, show (30 * q + 1 - 1) / 30 = q by omega] at this
  exact this
theorem ref_low {k m d fr to y q : Int} (hk : kB k = true) (hq : q = (fr + 492148) / 10631) (h : y ≤ 30 * q) : hit k m d fr to y = false := by
  have h1 := first_cyc0 hk q
  have h2 := first_le hk (show y + 1 ≤ 30 * q + 1 by omega)
  exact no_hit_low hk (by omega)
theorem ref_high {k m d fr to y q : Int} (hk : kB k = true) (h : to < -492148 + (q + 1) * 10631 + 1770) (hy : 30 * q + 36 ≤ y) : hit k m d fr to y = false := by
  have h1 := first_cyc0 hk (q + 1)
  have s : ∀ a, first k a + 354 ≤ first k (a + 1) := fun a => by have := first_succ hk a; have := ylen_bd k a; omega
  have e1 := s (30 * (q + 1) + 1); have e2 := s (30 * (q + 1) + 1 + 1); have e3 := s (30 * (q + 1) + 1 + 1 + 1); have e4 := s (30 * (q + 1) + 1 + 1 + 1 + 1); have e5 := s (30 * (q + 1) + 1 + 1 + 1 + 1 + 1)
  have e : first k (30 * (q + 1) + 1) + 1770 ≤ first k (30 * (q + 1) + 6) := by
    rw [show 30 * (q + 1) + 1 + 1 + 1 + 1 + 1 + 1 = 30 * (q + 1) + 6 by omega] at e5; omega
  have h2 := first_le hk (show 30 * (q + 1) + 6 ≤ y by omega)
  exact no_hit_high (by omega)
/-- whether Moved has an answer for a month and a day -/
def mB (k m d : Int) : Prop := kB k = true ∧ 1 ≤ m ∧ m ≤ 12 ∧ 1 ≤ d ∧ d ≤ 30 ∧ (d < 30 ∨ m % 2 = 1 ∨ m = 12)
theorem ml_in (k m d fr to lo : Int) : ∀ (n i : Nat), i < (ml k m d fr to lo n).length → ∃ j : Nat, j < n ∧ (ml k m d fr to lo n).getD i 0 = day k (lo + j) m d ∧ hit k m d fr to (lo + j) = true
  | 0, i, h => by simp [ml] at h
  | n + 1, i, h => by
    cases q : hit k m d fr to (lo + n)
    · rw [ml_no q] at h ⊢
      obtain ⟨j, a, b, c⟩ := ml_in k m d fr to lo n i h
      exact ⟨j, by omega, b, c⟩
    · rw [ml_yes q] at h ⊢
      by_cases e : i < (ml k m d fr to lo n).length
      · obtain ⟨j, a, b, c⟩ := ml_in k m d fr to lo n i e
        refine ⟨j, by omega, ?_, c⟩
        simp only [List.getD] at b ⊢; rw [List.getElem?_append_left e]; exact b
      · have e : i = (ml k m d fr to lo n).length := by simp at h; omega
        exact ⟨n, by omega, by rw [e]; simp [List.getD], q⟩
theorem day_354 {k y y' m d : Int} (hk : kB k = true) (h : y < y') : day k y m d + 354 ≤ day k y' m d := by
  have h1 := first_mono hk h; have h2 := first_succ hk y; have h3 := ylen_bd k y
  unfold day; omega
/-- the days ascend by 354 at least -/
theorem ml_up {k m d fr to lo : Int} (hk : kB k = true) : ∀ (n i : Nat), i + 1 < (ml k m d fr to lo n).length → (ml k m d fr to lo n).getD i 0 + 354 ≤ (ml k m d fr to lo n).getD (i + 1) 0
  | 0, i, h => by simp [ml] at h
  | n + 1, i, h => by
    cases q : hit k m d fr to (lo + n)
    · rw [ml_no q] at h ⊢
      exact ml_up hk n i h
    · rw [ml_yes q] at h ⊢
      by_cases e : i + 1 < (ml k m d fr to lo n).length
      · have := ml_up hk n i e
        simp only [List.getD] at this ⊢
        rw [List.getElem?_append_left e, List.getElem?_append_left (show i < (ml k m d fr to lo n).length by omega)]; exact this
      · have e : i + 1 = (ml k m d fr to lo n).length := by simp at h; omega
        obtain ⟨j, a, b, _⟩ := ml_in k m d fr to lo n i (by omega)
        have h1 := day_354 (m := m) (d := d) hk (show lo + (j : Int) < lo + n by omega)
        have g1 : (ml k m d fr to lo n ++ [day k (lo + n) m d]).getD (i + 1) 0 = day k (lo + n) m d := by rw [e]; simp [List.getD]
        have g2 : (ml k m d fr to lo n ++ [day k (lo + n) m d]).getD i 0 = (ml k m d fr to lo n).getD i 0 := by simp only [List.getD]; rw [List.getElem?_append_left (by omega)]
        rw [g1, g2, b]; exact h1
theorem ml_mem (k m d fr to lo : Int) : ∀ (n j : Nat), j < n → hit k m d fr to (lo + j) = true → day k (lo + j) m d ∈ ml k m d fr to lo n
  | 0, j, h, _ => by omega
  | n + 1, j, h, hh => by
    by_cases e : j = n
    · subst e; rw [ml_yes hh]; simp
    · have := ml_mem k m d fr to lo n j (by omega) hh
      cases q : hit k m d fr to (lo + n)
      · rw [ml_no q]; exact this
      · rw [ml_yes q]; simp [this]
/-- at most two days in 366 -/
theorem ML_two {k m d fr to : Int} (hk : kB k = true) (h : to ≤ fr + 366) : (ML k m d fr to).length ≤ 2 := by
  unfold ML
  by_cases q : (ml k m d fr to 1 9600).length ≤ 2
  · exact q
  · have u1 : (ml k m d fr to 1 9600).getD 0 0 + 354 ≤ (ml k m d fr to 1 9600).getD 1 0 := ml_up hk 9600 0 (by omega)
    have u2 : (ml k m d fr to 1 9600).getD 1 0 + 354 ≤ (ml k m d fr to 1 9600).getD 2 0 := ml_up hk 9600 1 (by omega)
    obtain ⟨j0, _, b0, c0⟩ := ml_in k m d fr to 1 9600 0 (by omega)
    obtain ⟨j2, _, b2, c2⟩ := ml_in k m d fr to 1 9600 2 (by omega)
    obtain ⟨_, x0, _⟩ := hit_true c0
    obtain ⟨_, _, y2⟩ := hit_true c2
    rw [b0] at u1; rw [b2] at u2; omega
/-- a day of the list -/
theorem ML_get {k m d fr to : Int} {i : Nat} (h : i < (ML k m d fr to).length) : ∃ n, (ML k m d fr to).getD i 0 = n ∧ fr ≤ n ∧ n ≤ to ∧ ∃ y, okb k y m d = true ∧ n = day k y m d := by
  obtain ⟨j, a, b, c⟩ := ml_in k m d fr to 1 9600 i h
  obtain ⟨c1, c2, c3⟩ := hit_true c
  exact ⟨_, b, c2, c3, 1 + j, c1, rfl⟩
theorem ML_own {k n fr to : Int} (hk : kB k = true) (hr : rB k n = true) (h1 : fr ≤ n) (h2 : n ≤ to) : n ∈ ML k (mI k n) (aI k n) fr to := by
  obtain ⟨ho, hd⟩ := dt_spec hk hr
  have hy := yB_iff.1 ho.2.1
  have := ml_mem k (mI k n) (aI k n) fr to 1 9600 (yI k n - 1).toNat (by omega) (by
    rw [show 1 + (((yI k n - 1).toNat : Nat) : Int) = yI k n by omega]
    simp [hit, okb_iff.2 ho, hd, h1, h2])
  rw [show 1 + (((yI k n - 1).toNat : Nat) : Int) = yI k n by omega, hd] at this
  exact this
end Isl
namespace Gra
open Isl
theorem S_up {k : Int} (hk : kB k = true) (fr i : Int) : S k fr (i + 1) = S k fr i + len k (fr + i / 12) (i % 12 + 1) := by
  unfold S
  by_cases h : i % 12 = 11
  · rw [h, show (i + 1) / 12 = i / 12 + 1 by omega, show (i + 1) % 12 = 0 by omega, show fr + (i / 12 + 1) = fr + i / 12 + 1 by omega, first_succ hk, show (11 : Int) + 1 = 12 by rfl]
    have := before_12 k (fr + i / 12)
    have : before (0 + 1) = 0 := by rfl
    omega
  · rw [show (i + 1) / 12 = i / 12 by omega, show (i + 1) % 12 = i % 12 + 1 by omega, before_succ (m := i % 12 + 1) k (fr + i / 12) (by omega) (by omega)]
    omega
theorem islamic {k : Int} (hk : kB k = true) : Gr (S k 1) 360 10631 where
  n1 := by omega
  n2 := by omega
  p1 := by omega
  p2 := by omega
  zero := S_0 k 1
  up i := by have := S_up hk 1 i; have := len_bd k (1 + i / 12) (i % 12 + 1); omega
  per i := by
    have := first_30 k (1 + i / 12)
    unfold S
    rw [show (i + ((360 : Nat) : Int)) / 12 = i / 12 + 30 by omega, show (i + ((360 : Nat) : Int)) % 12 = i % 12 by omega, show 1 + (i / 12 + 30) = 1 + i / 12 + 30 by omega]
    omega
  least m h1 h2 h3 h4 := by
    have hm : 360 / m * m = 360 := Nat.div_mul_cancel (Nat.dvd_of_mod_eq_zero h3)
    generalize 360 / m = q at hm h4 ⊢
    have hq : q ∣ 360 := ⟨m, hm.symm⟩
    have hp : q ∣ 10631 := Int.ofNat_dvd.1 (Int.dvd_of_emod_eq_zero h4)
    have hg : q ∣ Nat.gcd 360 10631 := Nat.dvd_gcd hq hp
    have hg1 : Nat.gcd 360 10631 = 1 := by decide +kernel
    rw [hg1] at hg
    have hle := Nat.le_of_dvd (by omega) hg
    have hc : q = 0 ∨ q = 1 := by omega
    rcases hc with rfl | rfl <;> omega
/-- the list of the months is that of the groups of one month -/
theorem sp_fs (k : Int) : ∀ n : Nat, sp (S k 1) n = fs k 1 1 n
  | 0 => rfl
  | n + 1 => by simp [sp, fs, sp_fs k n]
/-- the month of a day -/
theorem islamic_of {k n : Int} (hk : kB k = true) (hr : rB k n = true) : S k 1 (12 * (yI k n - 1) + mI k n - 1) ≤ n - first k 1 ∧ n - first k 1 < S k 1 (12 * (yI k n - 1) + mI k n - 1 + 1) := by
  obtain ⟨ho, hd⟩ := dt_spec hk hr
  obtain ⟨_, hy, m1, m2, a1, a2⟩ := ho
  rw [S_up hk]
  unfold S
  rw [show 1 + (12 * (yI k n - 1) + mI k n - 1) / 12 = yI k n by omega, show (12 * (yI k n - 1) + mI k n - 1) % 12 + 1 = mI k n by omega]
  unfold day at hd
  omega
end Gra
