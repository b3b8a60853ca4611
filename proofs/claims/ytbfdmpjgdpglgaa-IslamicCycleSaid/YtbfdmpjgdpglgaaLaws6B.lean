/- The walks of IslamicKinds and IslamicCycle. No conditions. -/
import Derived.Test.YtbfdmpjgdpglgaaLaws6A
namespace Go.Proofs.Ytbfdmpjgdpglgaa
open Go.ChangeShapes Go.WideShapes Go.ChangeAt Go.RowKit

theorem kinds_ways2 (a b y m d : Int) : (Isl.dayE a y m d == 0) = false ∨ (Isl.dayE a y m d = 0 ∧ (Isl.dayE b y m d == 0) = false) ∨ (Isl.dayE a y m d = 0 ∧ Isl.dayE b y m d = 0 ∧ Isl.dayN a y m d - Isl.dayN b y m d ≤ 1 ∧ Isl.dayN b y m d - Isl.dayN a y m d ≤ 1 ∧ -492148 ≤ Isl.dayN a y m d ∧ Isl.dayN a y m d ≤ 3000000 ∧ -492148 ≤ Isl.dayN b y m d ∧ Isl.dayN b y m d ≤ 3000000) := by
  by_cases h1 : Isl.okb a y m d = true
  · by_cases h2 : Isl.okb b y m d = true
    · refine Or.inr (Or.inr ⟨by simp [Isl.dayE, h1], by simp [Isl.dayE, h2], ?_⟩)
      have o1 := Isl.okb_iff.1 h1
      have o2 := Isl.okb_iff.1 h2
      have n1 := Isl.first_near o1.1 o2.1 y
      have n2 := Isl.first_near o2.1 o1.1 y
      have hy := Isl.yB_iff.1 o1.2.1
      have b1 := Isl.first_bd o1.1 hy.1 (by omega)
      have b2 := Isl.first_bd o2.1 hy.1 (by omega)
      have l1 := Isl.len_bd a y m
      obtain ⟨_, _, m1, m2, d1, d2⟩ := o1
      have hbf : 0 ≤ Isl.before m ∧ Isl.before m ≤ 355 := by unfold Isl.before; omega
      have e1 : Isl.dayN a y m d = Isl.day a y m d := by simp [Isl.dayN, h1]
      have e2 : Isl.dayN b y m d = Isl.day b y m d := by simp [Isl.dayN, h2]
      rw [e1, e2]; unfold Isl.day; omega
    · exact Or.inr (Or.inl ⟨by simp [Isl.dayE, h1], by simp [Isl.dayE, h2]⟩)
  · exact Or.inl (by simp [Isl.dayE, h1])
theorem place_first {y : Int} (h1 : 1 ≤ y) (h2 : y ≤ 9600) : 1 ≤ y - (y - 1) % 30 ∧ y - (y - 1) % 30 ≤ 9600 := by omega
set_option maxHeartbeats 2000000 in
theorem wIslamicKinds (a b y m d : Int) (w : World) (_ha : -9223372036854775808 ≤ a ∧ a ≤ 9223372036854775807) (_hb : -9223372036854775808 ≤ b ∧ b ≤ 9223372036854775807) (_hy : -9223372036854775808 ≤ y ∧ y ≤ 9223372036854775807) (_hm : -9223372036854775808 ≤ m ∧ m ≤ 9223372036854775807) (_hd : -9223372036854775808 ≤ d ∧ d ≤ 9223372036854775807) :
    Calls Try.prog 5 #[.int .i64 a, .int .i64 b, .agg #[.int .i64 y, .int .i64 m, .int .i64 d]] w fun e w' => e = .returned (.bool true) ∧ Below w.heap.size w w' := by
  have hw := Lib.hid (kinds_ways2 a b y m d)
  have ways : Isl.kB a = false ∨ (Isl.kB a = true ∧ Isl.kB b = false) ∨ (Isl.kB a = true ∧ Isl.kB b = true ∧ y < 1) ∨ (Isl.kB a = true ∧ Isl.kB b = true ∧ 1 ≤ y ∧ 9600 < y) ∨ (Isl.kB a = true ∧ Isl.kB b = true ∧ 1 ≤ y ∧ y ≤ 9600) := by
    by_cases ha : Isl.kB a = true
    · by_cases hb : Isl.kB b = true
      · by_cases h1 : y < 1
        · exact Or.inr (Or.inr (Or.inl ⟨ha, hb, h1⟩))
        · by_cases h2 : 9600 < y
          · exact Or.inr (Or.inr (Or.inr (Or.inl ⟨ha, hb, by omega, h2⟩)))
          · exact Or.inr (Or.inr (Or.inr (Or.inr ⟨ha, hb, by omega, by omega⟩)))
      · exact Or.inr (Or.inl ⟨ha, by simpa using hb⟩)
    · exact Or.inl (by simpa using ha)
  rcases ways with ka | ⟨ka, kb⟩ | ⟨ka, kb, y1⟩ | ⟨ka, kb, y1, y2⟩ | ⟨ka, kb, y1, y2⟩
  all_goals
    have hF : 1 ≤ y → y ≤ 9600 → Isl.kB a = true → Isl.kB b = true → Isl.newE a (y - (y - 1) % 30) = 0 ∧ Isl.newE b (y - (y - 1) % 30) = 0 ∧ Isl.newN a (y - (y - 1) % 30) = Isl.newN b (y - (y - 1) % 30) := by
      intro y1 y2 ka kb
      obtain ⟨p1, p2⟩ := place_first y1 y2
      refine ⟨by unfold Isl.newE; rw [if_pos ka, if_pos (by simp; omega)], by unfold Isl.newE; rw [if_pos kb, if_pos (by simp; omega)], ?_⟩
      unfold Isl.newN; rw [if_pos (by simp [ka]; omega), if_pos (by simp [kb]; omega), Isl.first_cyc ka, Isl.first_cyc kb]
    have hFH := Lib.hid hF
    clear hF
    rcases hw.out with q1 | ⟨q1, q2⟩ | ⟨q1, q2, q3, q4, q5, q6, q7, q8⟩
    all_goals
      go_enter Try.func5, Try.ntmps5
      go_wp2_with fail
      refine (awake_any _).mono ?_; rintro e w1 ⟨rfl, hb1⟩
      have hD := Lib.hid (Box3.born hb1)
      have hbb := below_box hb1
      obtain ⟨_, c0, c1, c2, _, _, _⟩ := hD.out
      clear hb1
      go_wp2_with fail
      refine (iday_any _ _ _ _ _).mono ?_; rintro e w2 ⟨rfl, hb2⟩
      have hD2 := Lib.hid (hD.out.later hb2)
      have hbb := below_then hbb hb2
      clear hb2 hD c0 c1 c2
      obtain ⟨_, c0, c1, c2, _, _, _⟩ := hD2.out
      go_wp2_with fail
      refine (iday_any _ _ _ _ _).mono ?_; rintro e w3 ⟨rfl, hb3⟩
      have hD3 := Lib.hid (hD2.out.later hb3)
      have hbb := below_then hbb hb3
      clear hb3 hD2 c0 c1 c2
      obtain ⟨_, c0, c1, c2, _, _, _⟩ := hD3.out
      go_wp2_with (go_at_call 20; refine (ivalid_any _ _).mono ?_; rintro e w' ⟨rfl, rfl⟩)
      first
        | (go_ret; exact ⟨rfl, hbb⟩)
        | (obtain ⟨f1, f2, f3⟩ := hFH.out (by assumption) (by assumption) (by assumption) (by assumption); refine (inew_any _ _ _).mono ?_; rintro e w4 ⟨rfl, hb4⟩; have hbb := below_then hbb hb4; go_wp2_with fail; refine (inew_any _ _ _).mono ?_; rintro e w5 ⟨rfl, hb5⟩; have hbb := below_then hbb hb5; go_wp2; go_ret; exact ⟨by simp, hbb⟩)

def CycRel (w wr : World) (y m d : Int) (p : Prop) : Prop := Below w.heap.size w wr ∧ Box3 wr w.heap.size (.int .i64 y) (.int .i64 m) (.int .i64 d) ∧ p
set_option maxHeartbeats 1000000 in
theorem wIslamicCycle (k y m d : Int) (w : World) (_hk : -9223372036854775808 ≤ k ∧ k ≤ 9223372036854775807) (_hy : -9223372036854775808 ≤ y ∧ y ≤ 9223372036854775807) (_hm : -9223372036854775808 ≤ m ∧ m ≤ 9223372036854775807) (_hd : -9223372036854775808 ≤ d ∧ d ≤ 9223372036854775807) :
    Calls Try.prog 7 #[.int .i64 k, .agg #[.int .i64 y, .int .i64 m, .int .i64 d]] w fun e w' => e = .returned (.bool true) ∧ Below w.heap.size w w' := by
  by_cases ho : Isl.okb k y m d = true
  · have hE : Isl.dayE k y m d = 0 := by simp [Isl.dayE, ho]
    by_cases hy : y ≤ 9570
    · have ok := Isl.okb_iff.1 ho
      have ok30 : Isl.okb k (y + 30) m d = true := by
        refine Isl.okb_iff.2 ⟨ok.1, ?_, ok.2.2.1, ok.2.2.2.1, ok.2.2.2.2.1, ?_⟩
        · have := Isl.yB_iff.1 ok.2.1; exact Isl.yB_iff.2 (by omega)
        · have : Isl.len k (y + 30) m = Isl.len k y m := by unfold Isl.len; rw [Isl.lp_30]
          rw [this]; exact ok.2.2.2.2.2
      have hE2 : Isl.dayE k (y + 30) m d = 0 := by simp [Isl.dayE, ok30]
      have hN : Isl.dayN k y m d = Isl.day k y m d := by simp [Isl.dayN, ho]
      have hN2 : Isl.dayN k (y + 30) m d = Isl.day k y m d + 10631 := by
        simp only [Isl.dayN, ok30, if_true]; unfold Isl.day; rw [Isl.first_30]; omega
      have hb := Isl.rB_iff.1 (Isl.day_in ok)
      rw [Isl.first_9601 ok.1] at hb
      obtain ⟨y1, y2⟩ := Isl.yB_iff.1 ok.2.1
      have hkH := Lib.hid ok.1
      have h30 := Lib.hid (Isl.first_30 k y)
      clear ho ok ok30
      go_enter Try.func7, Try.ntmps7
      go_wp2_with fail
      refine (awake_any _).mono ?_; rintro e w1 ⟨rfl, hb1⟩
      have hD := Lib.hid (Box3.born hb1)
      have hbb := below_box hb1
      obtain ⟨_, c0, c1, c2, _, _, _⟩ := hD.out
      clear hb1
      go_wp2_with fail
      refine (iday_any _ _ _ _ _).mono ?_; rintro e w2 ⟨rfl, hb2⟩
      have hD2 := Lib.hid (hD.out.later hb2)
      have hbb := below_then hbb hb2
      clear hb2 hD c0 c1 c2
      obtain ⟨_, c0, c1, c2, _, _, _⟩ := hD2.out
      go_wp2_with fail
      refine (iday_any _ _ _ _ _).mono ?_; rintro e w3 ⟨rfl, hb3⟩
      have hD3 := Lib.hid (hD2.out.later hb3)
      have hbb := below_then hbb hb3
      clear hb3 hD2 c0 c1 c2
      obtain ⟨_, c0, c1, c2, _, _, _⟩ := hD3.out
      go_wp2_with fail
      go_loopg [9, 10, 11] 30 (fun g t9 t10 t11 wr => ∃ c : Int, y ≤ c ∧ c ≤ y + 30 ∧ t11 = .int .i64 c ∧ t10 = .int .i64 (Isl.first k c - Isl.first k y) ∧ t9 = .int .i64 (Isl.first k c - Isl.first k y - 354 * (c - y)) ∧ CycRel w wr y m d ((y + 30 - c).toNat ≤ g))
      case atStart => exact ⟨y, by omega, by omega, rfl, val_int (by omega), val_int (by omega), hbb, hD3.out, by omega⟩
      case round =>
        clear hbb hD3 c0 c1 c2
        obtain ⟨c, z1, z2, rfl, rfl, rfl, hbb, hD, hg⟩ := hrel
        have hDH := Lib.hid hD
        obtain ⟨_, c0, c1, c2, _, _, _⟩ := hD
        have hf1 := Isl.first_bd hkH.out y1 (by omega)
        have hf2 := Isl.first_bd hkH.out (show 1 ≤ c by omega) (by omega)
        by_cases hlt : c < y + 30
        · have hlp : Isl.leap k c = Isl.lp k c := by simp [Isl.leap, hkH.out, Isl.yB_iff.2 (show 1 ≤ c ∧ c ≤ 9600 by omega)]
          have hyc : Isl.ylenc k c = Isl.ylen k c := by unfold Isl.ylenc; rw [if_pos ⟨hkH.out, Isl.yB_iff.2 (show 1 ≤ c ∧ c ≤ 9600 by omega)⟩]
          have hs := Lib.hid (Isl.first_succ hkH.out c)
          have hyl := Lib.hid (Isl.ylen_lp k c)
          have hyb := Isl.ylen_bd k c
          have hsm : Isl.first k c - Isl.first k y ≤ 4000000 ∧ -4000000 ≤ Isl.first k c - Isl.first k y := by omega
          by_cases hp : Isl.lp k c = true
          all_goals
            try have hp : Isl.lp k c = false := by simpa using hp
            go_wp2_with fail
            refine (ileap_any _ _ _).mono ?_; rintro e w4 ⟨rfl, hb4⟩
            obtain ⟨_, c0, c1, c2, _, _, _⟩ := hDH.out.later hb4
            go_wp2_with fail
            refine (iylen_any _ _ _).mono ?_; rintro e w5 ⟨rfl, hb5⟩
            go_wp2_with fail
            have hs' := hs.out
            have hyl' := hyl.out
            rw [hp] at hyl'
            simp at hyl'
            go_roundg (gk - 1)
            case measure => omega
            case rel => exact ⟨c + 1, by omega, by omega, rfl, val_int (by omega), val_int (by omega), below_then (below_then hbb hb4) hb5, (hDH.out.later hb4).later hb5, by omega⟩
        · obtain rfl : c = y + 30 := by omega
          have e1 : Isl.first k (y + 30) - Isl.first k y = 10631 := by rw [h30.out]; omega
          have e2 : Isl.first k (y + 30) - Isl.first k y - 354 * (y + 30 - y) = 11 := by rw [h30.out]; omega
          rw [e2, e1]
          clear e1 e2
          go_wp2
          go_ret
          exact ⟨by simp, hbb⟩
    · go_enter Try.func7, Try.ntmps7
      go_wp2_with fail
      refine (awake_any _).mono ?_; rintro e w1 ⟨rfl, hb1⟩
      have hD := Lib.hid (Box3.born hb1)
      have hbb := below_box hb1
      obtain ⟨_, c0, c1, c2, _, _, _⟩ := hD.out
      clear hb1
      go_wp2_with fail
      refine (iday_any _ _ _ _ _).mono ?_; rintro e w2 ⟨rfl, hb2⟩
      have hbb := below_then hbb hb2
      obtain ⟨_, c0, c1, c2, _, _, _⟩ := hD.out.later hb2
      go_wp2
      go_ret
      exact ⟨rfl, hbb⟩
  · have hE : Isl.dayE k y m d = 1 := by simp [Isl.dayE, ho]
    go_enter Try.func7, Try.ntmps7
    go_wp2_with fail
    refine (awake_any _).mono ?_; rintro e w1 ⟨rfl, hb1⟩
    have hD := Lib.hid (Box3.born hb1)
    have hbb := below_box hb1
    obtain ⟨_, c0, c1, c2, _, _, _⟩ := hD.out
    clear hb1
    go_wp2_with fail
    refine (iday_any _ _ _ _ _).mono ?_; rintro e w2 ⟨rfl, hb2⟩
    have hbb := below_then hbb hb2
    go_wp2
    go_ret
    exact ⟨rfl, hbb⟩
end Go.Proofs.Ytbfdmpjgdpglgaa
