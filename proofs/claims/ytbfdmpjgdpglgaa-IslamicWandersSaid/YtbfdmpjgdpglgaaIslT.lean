/- The contract of islamic.Moved where it has an answer. No conditions. -/
import Derived.Test.YtbfdmpjgdpglgaaIslO
namespace Go.Proofs.Ytbfdmpjgdpglgaa
open Go.ChangeShapes Go.WideShapes Go.ChangeAt Go.RowKit

/-- the loop over years -/
def MvRel (w : World) (y m d : Int) (L : List Int) (v : Value) (wr : World) (p : Prop) : Prop :=
  Below w.heap.size w wr ∧ Box3 wr w.heap.size (.int .i64 y) (.int .i64 m) (.int .i64 d) ∧ OwnN wr (w.heap.size + 1) v L ∧ p
theorem year_hid {g : Int} (g1 : 1 ≤ g) (g2 : g ≤ 9999) : ∃ fr to : Int, Cal.ysG g = fr ∧ Cal.ysG (g + 1) - 1 = to ∧ Cal.dayGn g 1 1 = fr ∧ Cal.dayGe g 1 1 = 0 ∧ Cal.dayGn g 12 31 = to ∧ Cal.dayGe g 12 31 = 0 ∧ -719162 ≤ fr ∧ fr + 364 ≤ to ∧ to ≤ fr + 365 ∧ to ≤ 2932896 := by
  obtain ⟨a, b, c, d, e, f, h, i⟩ := Isl.year_days g1 g2
  exact ⟨_, _, rfl, rfl, a, b, c, d, e, f, h, i⟩
set_option maxHeartbeats 8000000 in
set_option maxRecDepth 100000 in
theorem imoved_good (k y m d g : Int) (w : World) (hk : Isl.kB k = true) (m1 : 1 ≤ m) (m2 : m ≤ 12) (d1 : 1 ≤ d) (d2 : d ≤ 30) (g1 : 1 ≤ g) (g2 : g ≤ 9999) (hmd : d < 30 ∨ (d = 30 ∧ m % 2 = 1) ∨ (d = 30 ∧ m = 12)) :
    Calls Try.prog 30 #[.int .i64 k, .agg #[.int .i64 y, .int .i64 m, .int .i64 d], .int .i64 g] w fun e w' => ∃ v, e = .returned (.tuple #[v, .int .i64 0]) ∧ OwnN w' (w.heap.size + 1) v (Isl.ML k m d (Cal.ysG g) (Cal.ysG (g + 1) - 1)) ∧ Below w.heap.size w w' := by
  obtain ⟨i0, hi', hz0, hz1, hz2⟩ := info_parts infoInt
  obtain ⟨fr, to, e1, e2, q1, q2, q3, q4, r1, r2, r3, r4⟩ := year_hid g1 g2
  rw [e1, e2]
  have qH := Lib.hid (And.intro q1 (And.intro q2 (And.intro q3 q4)))
  have hkH := Lib.hid hk
  have hLen := Lib.hid (fun lo n => Isl.ml_len k m d fr to lo n)
  have hWays := Lib.hid (fun Y => Isl.hit_ways k m d fr to Y)
  have hFb := Lib.hid (fun (Y : Int) (h0 : 1 ≤ Y) (h1 : Y ≤ 9601) => Isl.first_bd hk h0 h1)
  have hLow := Lib.hid (fun (Y : Int) (h0 : 1 ≤ Y) (h : Y < (fr + 492148) / 355) => Isl.guess_low (m := m) (d := d) (to := to) hk h0 h)
  have hLate := Lib.hid (fun (a Y : Int) (h : to < Isl.first k a) (hy : a ≤ Y) => Isl.late (m := m) (d := d) (fr := fr) hk h hy)
  clear e1 e2 q1 q2 q3 q4
  have lways : (1 < (fr + 492148) / 355 ∧ max 1 ((fr + 492148) / 355) = (fr + 492148) / 355) ∨ (((fr + 492148) / 355) ≤ 1 ∧ max 1 ((fr + 492148) / 355) = 1) := by omega
  have dways : (d == 30) = false ∨ ((d == 30) = true ∧ (m % 2 == 0) = false) ∨ ((d == 30) = true ∧ (m % 2 == 0) = true ∧ (m != 12) = false) := by
    rcases hmd with h | ⟨h, h2⟩ | ⟨h, h2⟩
    · exact Or.inl (by simp; omega)
    · exact Or.inr (Or.inl ⟨by simpa using h, by simp; omega⟩)
    · exact Or.inr (Or.inr ⟨by simpa using h, by simp; omega, by simpa using h2⟩)
  clear hmd
  have hlo1 : 1 ≤ max 1 ((fr + 492148) / 355) := by omega
  have hlo2 : max 1 ((fr + 492148) / 355) ≤ 9700 := by omega
  obtain ⟨lo, hlo⟩ : ∃ lo, lo = max 1 ((fr + 492148) / 355) := ⟨_, rfl⟩
  rw [← hlo] at lways hlo1 hlo2
  have hloH := Lib.hid hlo
  clear hlo
  rcases lways with ⟨l1, l2⟩ | ⟨l1, l2⟩
  all_goals
    have lH := Lib.hid l2
    clear l2
    rcases dways with hmd | ⟨hmd, hme⟩ | ⟨hmd, hme, hmf⟩
    all_goals
      go_enter Try.func30, Try.ntmps30
      go_wp2_with (first | (go_at_call 20; refine (ivalid_any _ _).mono ?_; rintro e w' ⟨rfl, rfl⟩))
      refine (cday_any _ _ _ _).mono ?_; rintro e w1 ⟨rfl, hb1⟩
      rw [qH.out.1, qH.out.2.1]
      have hD := Lib.hid (Box3.born hb1)
      have hb := below_box hb1
      clear hb1
      go_wp2_with fail
      refine (cday_any _ _ _ _).mono ?_; rintro e w2 ⟨rfl, hb2⟩
      rw [qH.out.2.2.1, qH.out.2.2.2]
      have hD2 := Lib.hid (hD.out.later hb2)
      have hb := below_then hb hb2
      clear hb2 hD
      go_wp2_with (first | (go_at_call 38; refine (floor_any _ _ _ (by omega) (by omega) (by omega) (by omega)).mono ?_; rintro e w' ⟨rfl, kd, rfl⟩))
      go_loopg [12, 14] 9702 (fun g v t wr => ∃ j : Nat, lo + j ≤ 9701 ∧ (j = 0 ∨ lo + j ≤ 9601) ∧ t = .int .i64 (lo + j) ∧ MvRel w y m d (Isl.ml k m d fr to lo j) v wr ((9701 - lo - j).toNat ≤ g))
      case atStart => exact ⟨0, by omega, Or.inl rfl, val_int (by have := lH.out; omega), by (repeat (first | exact Below.refl _ _ | assumption | refine below_drewN ?_ _ | refine below_alloc1 ?_ _ | refine below_then ?_ (by assumption))), hD2.out.later (below_drewN (Below.refl _ _) _), OwnN.nil _ _, by omega⟩
      case round =>
        clear hb hD2 l1 r1 r2 r3 r4
        obtain ⟨j, hj1, hj2, rfl, hb, hD, hO, hg⟩ := hrel
        have hDH := Lib.hid hD
        have hOH := Lib.hid hO
        have hlen := hLen.out lo j
        clear hD hO
        by_cases h96 : lo + j ≤ 9600
        · have hf := hFb.out (lo + j) (by omega) (by omega)
          have hj : j ≤ 9600 := by omega
          by_cases hto : Isl.first k (lo + j) ≤ to
          · rcases hWays.out (lo + j) with ⟨x1, x2⟩ | ⟨x1, x2, x3 | ⟨x3, x4⟩⟩ | ⟨x1, x2, x3, x4, x5⟩
            · have xH := Lib.hid x1
              clear x1
              go_wp2_with (first | (go_at_call 35; refine (ifirst_any _ _ _ hkH.out (by omega) (by omega)).mono ?_; rintro e w' ⟨rfl, hb3⟩; obtain ⟨_, c0, c1, c2, _, _, _⟩ := hDH.out.later hb3) | (go_at_call 15; refine (iday_any _ _ _ _ _).mono ?_; rintro e w' ⟨rfl, hb4⟩))
              go_roundg (gk - 1)
              case measure => omega
              case rel => exact ⟨j + 1, by omega, by omega, by go_num, below_then (below_then hb hb3) hb4, (hDH.out.later hb3).later hb4, (by rw [Isl.ml_no xH.out]; exact (hOH.out.later hb3).later hb4), by omega⟩
            · have xH := Lib.hid x1
              have yH := Lib.hid x2
              clear x1 x2
              go_wp2_with (first | (go_at_call 35; refine (ifirst_any _ _ _ hkH.out (by omega) (by omega)).mono ?_; rintro e w' ⟨rfl, hb3⟩; obtain ⟨_, c0, c1, c2, _, _, _⟩ := hDH.out.later hb3) | (go_at_call 15; refine (iday_any _ _ _ _ _).mono ?_; rintro e w' ⟨rfl, hb4⟩; rw [yH.out]))
              go_roundg (gk - 1)
              case measure => omega
              case rel => exact ⟨j + 1, by omega, by omega, by go_num, below_then (below_then hb hb3) hb4, (hDH.out.later hb3).later hb4, (by rw [Isl.ml_no xH.out]; exact (hOH.out.later hb3).later hb4), by omega⟩
            · have xH := Lib.hid x1
              have yH := Lib.hid x2
              clear x1 x2
              go_wp2_with (first | (go_at_call 35; refine (ifirst_any _ _ _ hkH.out (by omega) (by omega)).mono ?_; rintro e w' ⟨rfl, hb3⟩; obtain ⟨_, c0, c1, c2, _, _, _⟩ := hDH.out.later hb3) | (go_at_call 15; refine (iday_any _ _ _ _ _).mono ?_; rintro e w' ⟨rfl, hb4⟩; rw [yH.out]))
              go_roundg (gk - 1)
              case measure => omega
              case rel => exact ⟨j + 1, by omega, by omega, by go_num, below_then (below_then hb hb3) hb4, (hDH.out.later hb3).later hb4, (by rw [Isl.ml_no xH.out]; exact (hOH.out.later hb3).later hb4), by omega⟩
            · have xH := Lib.hid x1
              have yH := Lib.hid x2
              have zH := Lib.hid x5
              clear x1 x2 x5
              generalize hn : (Isl.ml k m d fr to lo j).length = n at *
              have hnH := Lib.hid hn
              clear hn
              go_wp2_with (first | (go_at_call 35; refine (ifirst_any _ _ _ hkH.out (by omega) (by omega)).mono ?_; rintro e w' ⟨rfl, hb3⟩; obtain ⟨_, c0, c1, c2, _, _, _⟩ := hDH.out.later hb3) | (go_at_call 15; refine (iday_any _ _ _ _ _).mono ?_; rintro e w' ⟨rfl, hb4⟩; rw [yH.out]) | (at_builtin; refine wpList_append_own _ rfl _ _ 56 rfl (w.heap.size + 1) 3 i0 (.int .i64 0) 1 8 Try.underlying56 hi' hz0 hz1 hz2 rfl (by decide) _ n _ rfl (own_in ((hOH.out.later hb3).later hb4).1 hnH.out _) ⟨w'.heap.size, 0, none⟩ 1 1 [.int .i64 (Isl.dayN k (lo + j) m d)] rfl rfl (news1 _ _ _) (one1 _) (by unfold maxLen; omega) (by omega) (by have := ((hDH.out.later hb3).later hb4).lt; simp; omega) ?_; intro v' w5 hown hgrow _; have RH := Lib.hid (own_push hnH.out (below_then (below_then hb hb3) hb4) (Nat.le_succ _) ((hDH.out.later hb3).later hb4).lt ((hOH.out.later hb3).later hb4).1 hown hgrow); clear hown hgrow))
              go_roundg (gk - 1)
              case measure => omega
              case rel => exact ⟨j + 1, by omega, by omega, by go_num, RH.out.1, ((hDH.out.later hb3).later hb4).keep RH.out.2.1 (by omega), (by rw [Isl.ml_yes xH.out, ← zH.out]; exact RH.out.2.2), by omega⟩
          · have hL := Isl.ml_eq (k := k) (m := m) (d := d) (fr := fr) (to := to) (n := j) hlo1 hj2 (fun Y h0 _ h2 => hLow.out Y h0 (by have := hloH.out; omega)) (fun Y _ _ h2 => hLate.out (lo + j) Y (by omega) h2)
            have hLH := Lib.hid hL
            clear hL
            go_wp2_with (first | (go_at_call 35; refine (ifirst_any _ _ _ hkH.out (by omega) (by omega)).mono ?_; rintro e w' ⟨rfl, hb3⟩; obtain ⟨_, c0, c1, c2, _, _, _⟩ := hDH.out.later hb3))
            go_ret2
            exact ⟨_, rfl, (by rw [← hLH.out]; exact hOH.out.later hb3), below_then hb hb3⟩
        · have hL := Isl.ml_eq (k := k) (m := m) (d := d) (fr := fr) (to := to) (n := j) hlo1 hj2 (fun Y h0 _ h2 => hLow.out Y h0 (by have := hloH.out; omega)) (fun Y _ h1 h2 => by omega)
          have hLH := Lib.hid hL
          clear hL
          go_wp2_with (first | (go_at_call 35; refine (ifirst_any _ _ _ hkH.out (by omega) (by omega)).mono ?_; rintro e w' ⟨rfl, hb3⟩; obtain ⟨_, c0, c1, c2, _, _, _⟩ := hDH.out.later hb3))
          go_ret2
          exact ⟨_, rfl, (by rw [← hLH.out]; exact hOH.out), hb⟩
end Go.Proofs.Ytbfdmpjgdpglgaa
