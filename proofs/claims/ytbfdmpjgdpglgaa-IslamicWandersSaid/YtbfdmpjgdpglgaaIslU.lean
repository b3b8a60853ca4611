/- The contract of the reference's Moved. No conditions. -/
import Derived.Test.YtbfdmpjgdpglgaaIslO
import Derived.Deep.Cut
import Derived.Deep.CutRange
namespace Isl
/-- the years that the reference asks -/
theorem ref_years {k fr tu : Int} (m d : Int) (hk : kB k = true) (h1 : -719162 ≤ fr) (h2 : fr ≤ 2932896) (h3 : tu ≤ fr + 365) : ∃ Y lo hi : Int, 0 ≤ Y ∧ Y ≤ 9660 ∧ ((fr < -492148 ∧ Y = 0) ∨ (-492148 ≤ fr ∧ Y = 30 * ((fr + 492148) / 10631))) ∧
    ((1 ≤ Y - 1 ∧ lo = Y - 1) ∨ (Y - 1 < 1 ∧ lo = 1)) ∧ ((Y + 35 ≤ 9600 ∧ hi = Y + 35) ∨ (9600 < Y + 35 ∧ hi = 9600)) ∧ 1 ≤ lo ∧ lo ≤ 9660 ∧ hi ≤ 9600 ∧
    (∀ y, 1 ≤ y → y ≤ 9600 → y < lo → hit k m d fr tu y = false) ∧ (∀ y, 1 ≤ y → y ≤ 9600 → hi < y → hit k m d fr tu y = false) := by
  by_cases h : fr < -492148
  · refine ⟨0, 1, 35, by omega, by omega, Or.inl ⟨h, rfl⟩, Or.inr ⟨by omega, rfl⟩, Or.inl ⟨by omega, rfl⟩, by omega, by omega, by omega, fun y a _ c => by omega, fun y a b c => ?_⟩
    exact ref_high (q := 0) hk (by omega) (by omega)
  · obtain ⟨q, hq⟩ : ∃ q, q = (fr + 492148) / 10631 := ⟨_, rfl⟩
    have q0 : 0 ≤ q := by omega
    have q1 : q ≤ 322 := by omega
    have hlow : ∀ y, y ≤ 30 * q → hit k m d fr tu y = false := fun y c => ref_low hk hq c
    have hhigh : ∀ y, 30 * q + 36 ≤ y → hit k m d fr tu y = false := fun y c => ref_high (q := q) hk (by omega) c
    by_cases a : 1 ≤ 30 * q - 1
    · by_cases b : 30 * q + 35 ≤ 9600
      · exact ⟨30 * q, 30 * q - 1, 30 * q + 35, by omega, by omega, Or.inr ⟨by omega, by omega⟩, Or.inl ⟨a, rfl⟩, Or.inl ⟨b, rfl⟩, by omega, by omega, by omega, fun y _ _ c => hlow y (by omega), fun y _ _ c => hhigh y (by omega)⟩
      · exact ⟨30 * q, 30 * q - 1, 9600, by omega, by omega, Or.inr ⟨by omega, by omega⟩, Or.inl ⟨a, rfl⟩, Or.inr ⟨by omega, rfl⟩, by omega, by omega, by omega, fun y _ _ c => hlow y (by omega), fun y _ _ c => by omega⟩
    · exact ⟨30 * q, 1, 30 * q + 35, by omega, by omega, Or.inr ⟨by omega, by omega⟩, Or.inr ⟨by omega, rfl⟩, Or.inl ⟨by omega, rfl⟩, by omega, by omega, by omega, fun y _ _ c => by omega, fun y _ _ c => hhigh y (by omega)⟩
end Isl
namespace Go.Proofs.Ytbfdmpjgdpglgaa
open Go.ChangeShapes Go.WideShapes Go.ChangeAt Go.RowKit

/-- the loop over years -/
def MvRelU (w : World) (y m d : Int) (L : List Int) (v : Value) (wr : World) (p : Prop) : Prop :=
  Below w.heap.size w wr ∧ Box3 wr w.heap.size (.int .i64 y) (.int .i64 m) (.int .i64 d) ∧ OwnN wr (w.heap.size + 1) v L ∧ p
theorem year_hidU {g : Int} (g1 : 1 ≤ g) (g2 : g ≤ 9999) : ∃ fr tu : Int, Cal.ysG g = fr ∧ Cal.ysG (g + 1) - 1 = tu ∧ Cal.dayGn g 1 1 = fr ∧ Cal.dayGe g 1 1 = 0 ∧ Cal.dayGn g 12 31 = tu ∧ Cal.dayGe g 12 31 = 0 ∧ -719162 ≤ fr ∧ fr + 364 ≤ tu ∧ tu ≤ fr + 365 ∧ tu ≤ 2932896 := by
  obtain ⟨a, b, c, d, e, f, h, i⟩ := Isl.year_days g1 g2
  exact ⟨_, _, rfl, rfl, a, b, c, d, e, f, h, i⟩
set_option maxHeartbeats 8000000 in
set_option maxRecDepth 100000 in
theorem rmoved_good (k y m d g : Int) (w : World) (hk : Isl.kB k = true) (m1 : 1 ≤ m) (m2 : m ≤ 12) (d1 : 1 ≤ d) (d2 : d ≤ 30) (g1 : 1 ≤ g) (g2 : g ≤ 9999) (hmd : d < 30 ∨ (d = 30 ∧ m % 2 = 1) ∨ (d = 30 ∧ m = 12)) :
    Calls Try.prog 31 #[.int .i64 k, .agg #[.int .i64 y, .int .i64 m, .int .i64 d], .int .i64 g] w fun e w' => ∃ v, e = .returned (.tuple #[v, .int .i64 0]) ∧ OwnN w' (w.heap.size + 1) v (Isl.ML k m d (Cal.ysG g) (Cal.ysG (g + 1) - 1)) ∧ Below w.heap.size w w' := by
  obtain ⟨i0, hi', hz0, hz1, hz2⟩ := info_parts infoInt
  obtain ⟨fr, tu, e1, e2, q1, q2, q3, q4, r1, r2, r3, r4⟩ := year_hidU g1 g2
  rw [e1, e2]
  have qH := Lib.hid (And.intro q1 (And.intro q2 (And.intro q3 q4)))
  have hkH := Lib.hid hk
  have hLen := Lib.hid (fun lo n => Isl.ml_len k m d fr tu lo n)
  have hWays := Lib.hid (fun Y => Isl.hit_ways k m d fr tu Y)
  obtain ⟨Y, lo, hi, y1, y2, yw, lw, hw, lo1, lo2, hi1, hLow, hHigh⟩ := Isl.ref_years m d hk r1 (show fr ≤ 2932896 by omega) r3
  have dways : (d == 30) = false ∨ ((d == 30) = true ∧ (m % 2 == 0) = false) ∨ ((d == 30) = true ∧ (m % 2 == 0) = true ∧ (m != 12) = false) := by
    rcases hmd with h | ⟨h, h2⟩ | ⟨h, h2⟩
    · exact Or.inl (by simp; omega)
    · exact Or.inr (Or.inl ⟨by simpa using h, by simp; omega⟩)
    · exact Or.inr (Or.inr ⟨by simpa using h, by simp; omega, by simpa using h2⟩)
  have ywH := Lib.hid yw
  have lwH := Lib.hid lw
  have hwH := Lib.hid hw
  have hLowH := Lib.hid hLow
  have hHighH := Lib.hid hHigh
  clear e1 e2 q1 q2 q3 q4 hmd yw lw hw hLow hHigh
  go_enter Try.func31, Try.ntmps31
  go_upto_region 1 with fail
  go_cut [55] from 17 (fun s wx => s = .bool false ∧ wx = w.alloc (Obj.cells #[.int .i64 y, .int .i64 m, .int .i64 d] 23))
  case first =>
    rcases dways with hmd | ⟨hmd, hme⟩ | ⟨hmd, hme, hmf⟩
    all_goals
      go_wp2_with (first | (go_at_call 21; refine (rvalidk_any _ _).mono ?_; rintro e w' ⟨rfl, rfl⟩))
      go_meet
      exact ⟨by simp; try omega, rfl⟩
  case rest =>
  obtain ⟨rfl, rfl⟩ := hcut
  clear dways
  go_wp2_with fail
  refine (qday_any _ _ _ _).mono ?_; rintro e w1 ⟨rfl, hb1⟩
  rw [qH.out.1, qH.out.2.1]
  have hD := Lib.hid (Box3.born hb1)
  have hb := below_box hb1
  clear hb1
  go_wp2_with fail
  refine (qday_any _ _ _ _).mono ?_; rintro e w2 ⟨rfl, hb2⟩
  rw [qH.out.2.2.1, qH.out.2.2.2]
  have hD2 := Lib.hid (hD.out.later hb2)
  have hb := below_then hb hb2
  clear hb2 hD
  go_upto_region 8 with fail
  go_cut [13] from 74 (fun s wx => ∃ X, s = .int .i64 X ∧ (-492148 ≤ fr → X = 30 * ((fr + 492148) / 10631)) ∧ wx = w2)
  case first =>
    by_cases hA : fr < -492148
    all_goals
      go_wp2_with fail
      go_meet
      exact ⟨_, rfl, fun _ => by omega, rfl⟩
  case rest =>
  obtain ⟨X, rfl, hX, hwc⟩ := hcut
  obtain rfl := hwc.symm
  have hXH := Lib.hid hX
  clear hX
  go_upto_if 79 with fail
  go_cut [13] from 78 (fun s wx => s = .int .i64 Y ∧ wx = w2)
  case first =>
    by_cases hA : fr < -492148
    · go_wp2_with fail
      go_meet
      exact ⟨val_int (by have := ywH.out; omega), rfl⟩
    · go_wp2_with fail
      go_meet
      exact ⟨val_int (by have := ywH.out; have := hXH.out (by omega); omega), rfl⟩
  case rest =>
  obtain ⟨rfl, hwc⟩ := hcut
  obtain rfl := hwc.symm
  go_upto_region 11 with fail
  go_cut [14] from 80 (fun s wx => s = .int .i64 lo ∧ wx = w2)
  case first =>
    rcases lwH.out with ⟨l1, l2⟩ | ⟨l1, l2⟩
    all_goals
      have lH := Lib.hid l2
      clear l2
      go_wp2_with fail
      go_meet
      exact ⟨val_int (by have := lH.out; omega), rfl⟩
  case rest =>
  obtain ⟨rfl, hwc⟩ := hcut
  obtain rfl := hwc.symm
  go_wp2_with fail
  go_loopg [12, 14] 9702 (fun g v t wr => ∃ j : Nat, lo + j ≤ 9701 ∧ (j = 0 ∨ lo + j ≤ hi + 1) ∧ t = .int .i64 (lo + j) ∧ MvRelU w y m d (Isl.ml k m d fr tu lo j) v wr ((9701 - lo - j).toNat ≤ g))
  case atStart => exact ⟨0, by omega, Or.inl rfl, val_int (by omega), hb, hD2.out, OwnN.nil _ _, by omega⟩
  case round =>
    clear hb hD2 r1 r2 r3 r4
    obtain ⟨j, hj1, hj2, rfl, hb, hD, hO, hg⟩ := hrel
    have hDH := Lib.hid hD
    have hOH := Lib.hid hO
    have hlen := hLen.out lo j
    clear hD hO
    go_upto_region 12 with fail
    go_cut [87] from 83 to 116 (fun s wx => s = .bool (decide (lo + j ≤ hi)) ∧ wx = wr)
    case first =>
      rcases hwH.out with ⟨l1, l2⟩ | ⟨l1, l2⟩
      all_goals
        have lH := Lib.hid l2
        clear l2
        go_wp2_with fail
        go_meet
        exact ⟨by rw [lH.out], rfl⟩
    case rest =>
    obtain ⟨rfl, hwc⟩ := hcut
    obtain rfl := hwc.symm
    by_cases hc : lo + j ≤ hi
    · obtain ⟨_, c0, c1, c2, _, _, _⟩ := hDH.out
      have hj : j ≤ 9600 := by omega
      rcases hWays.out (lo + j) with ⟨x1, x2⟩ | ⟨x1, x2, x3 | ⟨x3, x4⟩⟩ | ⟨x1, x2, x3, x4, x5⟩
      · have xH := Lib.hid x1
        clear x1
        go_wp2_with (first | (go_at_call 16; refine (rdayi_any _ _ _ _ _).mono ?_; rintro e w' ⟨rfl, hb4⟩))
        go_roundg (gk - 1)
        case measure => omega
        case rel => exact ⟨j + 1, by omega, by omega, by go_num, below_then hb hb4, hDH.out.later hb4, (by rw [Isl.ml_no xH.out]; exact hOH.out.later hb4), by omega⟩
      · have xH := Lib.hid x1
        have yH := Lib.hid x2
        clear x1 x2
        go_wp2_with (first | (go_at_call 16; refine (rdayi_any _ _ _ _ _).mono ?_; rintro e w' ⟨rfl, hb4⟩; rw [yH.out]))
        go_roundg (gk - 1)
        case measure => omega
        case rel => exact ⟨j + 1, by omega, by omega, by go_num, below_then hb hb4, hDH.out.later hb4, (by rw [Isl.ml_no xH.out]; exact hOH.out.later hb4), by omega⟩
      · have xH := Lib.hid x1
        have yH := Lib.hid x2
        clear x1 x2
        go_wp2_with (first | (go_at_call 16; refine (rdayi_any _ _ _ _ _).mono ?_; rintro e w' ⟨rfl, hb4⟩; rw [yH.out]))
        go_roundg (gk - 1)
        case measure => omega
        case rel => exact ⟨j + 1, by omega, by omega, by go_num, below_then hb hb4, hDH.out.later hb4, (by rw [Isl.ml_no xH.out]; exact hOH.out.later hb4), by omega⟩
      · have xH := Lib.hid x1
        have yH := Lib.hid x2
        have zH := Lib.hid x5
        clear x1 x2 x5
        generalize hn : (Isl.ml k m d fr tu lo j).length = n at *
        have hnH := Lib.hid hn
        clear hn
        go_wp2_with (first | (go_at_call 16; refine (rdayi_any _ _ _ _ _).mono ?_; rintro e w' ⟨rfl, hb4⟩; rw [yH.out]) | (at_builtin; refine wpList_append_own _ rfl _ _ 56 rfl (w.heap.size + 1) 3 i0 (.int .i64 0) 1 8 Try.underlying56 hi' hz0 hz1 hz2 rfl (by decide) _ n _ rfl (own_in (hOH.out.later hb4).1 hnH.out _) ⟨w'.heap.size, 0, none⟩ 1 1 [.int .i64 (Isl.dayN k (lo + j) m d)] rfl rfl (news1 _ _ _) (one1 _) (by unfold maxLen; omega) (by omega) (by have := (hDH.out.later hb4).lt; simp; omega) ?_; intro v' w5 hown hgrow _; have RH := Lib.hid (own_push hnH.out (below_then hb hb4) (Nat.le_succ _) (hDH.out.later hb4).lt (hOH.out.later hb4).1 hown hgrow); clear hown hgrow))
        go_roundg (gk - 1)
        case measure => omega
        case rel => exact ⟨j + 1, by omega, by omega, by go_num, RH.out.1, (hDH.out.later hb4).keep RH.out.2.1 (by omega), (by rw [Isl.ml_yes xH.out, ← zH.out]; exact RH.out.2.2), by omega⟩
    · have hL := Isl.ml_eq (k := k) (m := m) (d := d) (fr := fr) (n := j) lo1 (by omega) (fun Y h0 h1 h2 => hLowH.out Y h0 h1 h2) (fun Y h0 h1 h2 => hHighH.out Y h0 h1 (by omega))
      have hLH := Lib.hid hL
      clear hL
      go_wp2_with fail
      go_ret2
      exact ⟨_, rfl, (by rw [← hLH.out]; exact hOH.out), hb⟩
end Go.Proofs.Ytbfdmpjgdpglgaa
