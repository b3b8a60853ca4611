/- The contract of islamic.Date. No conditions. -/
import Derived.Test.YtbfdmpjgdpglgaaIslC
import Derived.Deep.LoopGhost
namespace Isl
theorem first_9601 {k : Int} (hk : kB k = true) : first k 9601 = 2909772 := by have := cnt_1 hk; unfold first place; simp [this]
theorem date_start {k n : Int} (hk : kB k = true) (h1 : -492148 ≤ n) (h2 : n < first k 9601) : 1 ≤ (n + 492148) / 10631 * 30 + 1 ∧ (n + 492148) / 10631 * 30 + 1 ≤ 9600 ∧ first k ((n + 492148) / 10631 * 30 + 1) ≤ n := by
  rw [first_9601 hk] at h2
  refine ⟨by omega, by omega, ?_⟩
  unfold first place
  rw [show ((n + 492148) / 10631 * 30 + 1 - 1) % 30 = 0 by omega, show ((n + 492148) / 10631 * 30 + 1 - 1) / 30 = (n + 492148) / 10631 by omega]
  have := cnt_1 hk
  simp [this]; omega
theorem date_end {k n y m : Int} (hk : kB k = true) (h1 : 1 ≤ y) (h2 : y ≤ 9600) (m1 : 1 ≤ m) (m2 : m ≤ 12) (hn : n < first k (y + 1)) (hb : before m ≤ n - first k y) (hc : m = 12 ∨ n - first k y < before (m + 1)) :
    ok k y m (n - first k y - before m + 1) ∧ day k y m (n - first k y - before m + 1) = n := by
  rw [first_succ hk] at hn
  have h12 := before_12 k y
  refine ⟨⟨hk, yB_iff.2 ⟨h1, h2⟩, m1, m2, by omega, ?_⟩, by unfold day; omega⟩
  rcases hc with rfl | hc
  · omega
  · by_cases q : m = 12
    · subst q; omega
    · rw [before_succ k y m1 (by omega)] at hc; omega
end Isl
namespace Go.Proofs.Ytbfdmpjgdpglgaa
open Go.ChangeShapes Go.WideShapes Go.ChangeAt Go.RowKit

def YearRel (w : World) (k n y : Int) (wr : World) (g : Nat) : Prop := Below w.heap.size w wr ∧ Box3 wr w.heap.size (.int .i64 0) (.int .i64 0) (.int .i64 0) ∧ 1 ≤ y ∧ y ≤ 9600 ∧ Isl.first k y ≤ n ∧ (9600 - y).toNat ≤ g
set_option maxHeartbeats 1000000 in
theorem idate_any (k n : Int) (w : World) :
    Calls Try.prog 17 #[.int .i64 k, .int .i64 n] w fun e w' => e = .returned (.tuple #[.agg #[.int .i64 (Isl.yI k n), .int .i64 (Isl.mI k n), .int .i64 (Isl.aI k n)], .int .i64 (Isl.dtE k n)]) ∧ Below w.heap.size w w' := by
  by_cases hk : Isl.kB k = true
  · by_cases hr : Isl.rB k n = true
    · have hE : Isl.dtE k n = 0 := by simp [Isl.dtE, hk, hr]
      obtain ⟨i1, i2⟩ := Isl.rB_iff.1 hr
      obtain ⟨s1, s2, s3⟩ := Isl.date_start hk i1 i2
      have hkH := Lib.hid hk
      have hrH := Lib.hid hr
      have h96 := Isl.first_9601 hk
      have hn2 : n < 2909772 := by omega
      rw [hE]; clear hE h96
      go_enter Try.func17, Try.ntmps17
      go_wp2_with (first | (go_at_call 20; refine (ivalid_any _ _).mono ?_; rintro e w' ⟨rfl, rfl⟩) | (go_at_call 35; refine (ifirst_any _ _ _ hkH.out (by omega) (by omega)).mono ?_; rintro e w1 ⟨rfl, hb1⟩) | (go_at_call 38; refine (floor_any _ _ _ (by omega) (by omega) (by omega) (by omega)).mono ?_; rintro e w' ⟨rfl, q1, rfl⟩))
      have hR := Box3.born hb1
      have hb := below_box hb1
      clear hb1
      go_loopg [6] 9600 (fun g t6 wr => ∃ y : Int, t6 = .int .i64 y ∧ YearRel w k n y wr g)
      case atStart => exact ⟨_, rfl, below_drewN hb _, hR.drewN _, s1, s2, s3, by omega⟩
      case round =>
        clear hR hb s1 s2 s3
        obtain ⟨y, rfl, hb, hR, y1, y2, y3, hg⟩ := hrel
        have hRH := Lib.hid hR
        have hf2 := Isl.first_bd hkH.out y1 (by omega)
        by_cases hc : y < 9600 ∧ Isl.first k (y + 1) ≤ n
        · obtain ⟨c1, c2⟩ := hc
          clear hR
          go_wp2_with (go_at_call 35; refine (ifirst_any _ _ _ hkH.out (by omega) (by omega)).mono ?_; rintro e w2 ⟨rfl, hb2⟩)
          go_roundg (gk - 1)
          case measure => omega
          case rel => exact ⟨y + 1, rfl, below_then hb hb2, hRH.out.later hb2, by omega, by omega, c2, by omega⟩
        · have hz : n < Isl.first k (y + 1) := by
            by_cases e : y = 9600
            · subst e; exact i2
            · omega
          have hyl := Isl.ylen_bd k y
          have hsu := Isl.first_succ hkH.out y
          have hrest : n - Isl.first k y ≤ 354 := by omega
          have hzH := Lib.hid hz
          have hc2 : y < 9600 → n < Isl.first k (y + 1) := fun _ => hz
          clear hc hR hsu hz hyl
          by_cases hlt : y < 9600
          · have hc2 := hc2 hlt
            go_wp2_with fail
            refine (ifirst_any _ _ _ hkH.out (by omega) (by omega)).mono ?_; rintro e w2 ⟨rfl, hb2⟩
            have hb := below_then hb hb2
            have hRH := Lib.hid (hRH.out.later hb2)
            go_wp2_with fail
            refine (ifirst_any _ _ _ hkH.out (by omega) (by omega)).mono ?_; rintro e w3 ⟨rfl, hb3⟩
            have hb := below_then hb hb3
            obtain ⟨_, r0, r1, r2, g0, g1, g2⟩ := hRH.out.later hb3
            go_wp2_with fail
            go_loop [8] (fun t => ∃ m : Int, 1 ≤ m ∧ m ≤ 12 ∧ Isl.before m ≤ n - Isl.first k y ∧ t = .int .i64 m) (fun t => (12 - intOf t).toNat)
            case atStart => exact ⟨1, by omega, by omega, by simp [Isl.before]; omega, rfl⟩
            case round =>
              obtain ⟨m, k1, k2, k3, rfl⟩ := hrel
              have hbm : 0 ≤ Isl.before m ∧ Isl.before m ≤ 355 := by unfold Isl.before; omega
              by_cases hc : m < 12 ∧ Isl.before (m + 1) ≤ n - Isl.first k y
              · obtain ⟨hc1, hc2⟩ := hc
                go_wp2_with (go_at_call 36; refine (ibefore_any _ _ (by omega) (by omega)).mono ?_; rintro e w' ⟨rfl, rfl⟩)
                go_round
                case rel => exact ⟨m + 1, by omega, by omega, hc2, rfl⟩
                case measure => simp [intOf]; omega
              · have hd := Isl.date_end hkH.out y1 y2 k1 k2 hzH.out k3 (by omega)
                have hres := Lib.hid (Isl.dt_eq hrH.out hd.1 hd.2)
                have hz' : m < 12 → n - Isl.first k y < Isl.before (m + 1) := by omega
                clear hc hd
                by_cases hm : m < 12
                all_goals
                  try have hz' := hz' hm
                  go_wp2_with (go_at_call 36; refine (ibefore_any _ _ (by omega) (by omega)).mono ?_; rintro e w' ⟨rfl, rfl⟩)
                  obtain ⟨e1, e2, e3⟩ := hres.out
                  rw [← e1, ← e2, ← e3]
                  exact bodyPost_ret (v := .tuple #[.agg #[.int .i64 y, .int .i64 m, .int .i64 (n - Isl.first k y - Isl.before m + 1)], .int .i64 0]) (by simp [results, Try.results17, go_sem, r0, r1, r2]) rfl ⟨rfl, hb.trans (by go_grown)⟩
          · go_wp2_with fail
            refine (ifirst_any _ _ _ hkH.out (by omega) (by omega)).mono ?_; rintro e w3 ⟨rfl, hb3⟩
            have hb := below_then hb hb3
            obtain ⟨_, r0, r1, r2, g0, g1, g2⟩ := hRH.out.later hb3
            go_wp2_with fail
            go_loop [8] (fun t => ∃ m : Int, 1 ≤ m ∧ m ≤ 12 ∧ Isl.before m ≤ n - Isl.first k y ∧ t = .int .i64 m) (fun t => (12 - intOf t).toNat)
            case atStart => exact ⟨1, by omega, by omega, by simp [Isl.before]; omega, rfl⟩
            case round =>
              obtain ⟨m, k1, k2, k3, rfl⟩ := hrel
              have hbm : 0 ≤ Isl.before m ∧ Isl.before m ≤ 355 := by unfold Isl.before; omega
              by_cases hc : m < 12 ∧ Isl.before (m + 1) ≤ n - Isl.first k y
              · obtain ⟨hc1, hc2⟩ := hc
                go_wp2_with (go_at_call 36; refine (ibefore_any _ _ (by omega) (by omega)).mono ?_; rintro e w' ⟨rfl, rfl⟩)
                go_round
                case rel => exact ⟨m + 1, by omega, by omega, hc2, rfl⟩
                case measure => simp [intOf]; omega
              · have hd := Isl.date_end hkH.out y1 y2 k1 k2 hzH.out k3 (by omega)
                have hres := Lib.hid (Isl.dt_eq hrH.out hd.1 hd.2)
                have hz' : m < 12 → n - Isl.first k y < Isl.before (m + 1) := by omega
                clear hc hd
                by_cases hm : m < 12
                all_goals
                  try have hz' := hz' hm
                  go_wp2_with (go_at_call 36; refine (ibefore_any _ _ (by omega) (by omega)).mono ?_; rintro e w' ⟨rfl, rfl⟩)
                  obtain ⟨e1, e2, e3⟩ := hres.out
                  rw [← e1, ← e2, ← e3]
                  exact bodyPost_ret (v := .tuple #[.agg #[.int .i64 y, .int .i64 m, .int .i64 (n - Isl.first k y - Isl.before m + 1)], .int .i64 0]) (by simp [results, Try.results17, go_sem, r0, r1, r2]) rfl ⟨rfl, hb.trans (by go_grown)⟩
    · have hE : Isl.dtE k n = 2 := by simp [Isl.dtE, hk, hr]
      obtain ⟨e1, e2, e3⟩ := Isl.dt_out (k := k) (n := n) (by simp [hr])
      have hways : n < -492148 ∨ (-492148 ≤ n ∧ Isl.first k 9601 ≤ n) := by rw [Isl.rB_iff] at hr; omega
      have hkH := Lib.hid hk
      rw [hE, e1, e2, e3]; clear hE e1 e2 e3 hr
      rcases hways with q | ⟨q, q'⟩
      · go_enter Try.func17, Try.ntmps17
        go_wp2_with (first | (go_at_call 20; refine (ivalid_any _ _).mono ?_; rintro e w' ⟨rfl, rfl⟩))
        exact bodyPost_ret (v := .tuple #[.agg #[.int .i64 0, .int .i64 0, .int .i64 0], .int .i64 2]) (by simp [results, Try.results17, go_sem]) rfl ⟨rfl, by go_grown⟩
      · go_enter Try.func17, Try.ntmps17
        go_wp2_with (first | (go_at_call 20; refine (ivalid_any _ _).mono ?_; rintro e w' ⟨rfl, rfl⟩) | (go_at_call 35; refine (ifirst_any _ _ _ hkH.out (by omega) (by omega)).mono ?_; rintro e w1 ⟨rfl, hb1⟩; obtain ⟨_, r0, r1, r2, g0, g1, g2⟩ := Box3.born hb1))
        exact bodyPost_ret (v := .tuple #[.agg #[.int .i64 0, .int .i64 0, .int .i64 0], .int .i64 2]) (by simp [results, Try.results17, go_sem, r0, r1, r2]) rfl ⟨rfl, (below_box hb1).trans (by go_grown)⟩
  · have hE : Isl.dtE k n = 1 := by simp [Isl.dtE, hk]
    have hk' : Isl.kB k = false := by simpa using hk
    obtain ⟨e1, e2, e3⟩ := Isl.dt_out (k := k) (n := n) (by simp [hk'])
    rw [hE, e1, e2, e3]; clear hE e1 e2 e3 hk
    go_enter Try.func17, Try.ntmps17
    go_wp2_with (first | (go_at_call 20; refine (ivalid_any _ _).mono ?_; rintro e w' ⟨rfl, rfl⟩))
    exact bodyPost_ret (v := .tuple #[.agg #[.int .i64 0, .int .i64 0, .int .i64 0], .int .i64 1]) (by simp [results, Try.results17, go_sem]) rfl ⟨rfl, by go_grown⟩
end Go.Proofs.Ytbfdmpjgdpglgaa
