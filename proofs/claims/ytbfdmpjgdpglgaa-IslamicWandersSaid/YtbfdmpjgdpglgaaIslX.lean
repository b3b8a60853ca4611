/- The walk of IslamicWanders. No conditions. -/
import Derived.Test.YtbfdmpjgdpglgaaIslW
import Derived.Test.YtbfdmpjgdpglgaaCivil
namespace Go.Proofs.Ytbfdmpjgdpglgaa
open Go.ChangeShapes Go.WideShapes Go.ChangeAt Go.RowKit

set_option maxHeartbeats 2000000 in
/-- a day that one of the calendars has not -/
theorem iwan_out (k y m d n : Int) (w : World) (h : (Cal.inE n != 0) = true ∨ ((Cal.inE n != 0) = false ∧ (Isl.dtE k n != 0) = true)) :
    Calls Try.prog 11 #[.int .i64 k, .agg #[.int .i64 y, .int .i64 m, .int .i64 d], .int .i64 n] w fun e w' => e = .returned (.bool true) ∧ Below w.heap.size w w' := by
  rcases h with h | ⟨h, h2⟩
  all_goals
    go_enter Try.func11, Try.ntmps11
    go_wp2_with fail
    refine (awake_any _).mono ?_; rintro e w1 ⟨rfl, hb1⟩
    have hb := below_box hb1
    clear hb1
    go_wp2_with fail
    refine (cdate_any _ _).mono ?_; rintro e w2 ⟨rfl, hb2⟩
    have hb := below_then hb hb2
    clear hb2
    go_wp2_with fail
    refine (idate_any _ _ _).mono ?_; rintro e w3 ⟨rfl, hb3⟩
    have hb := below_then hb (below_box hb3)
    clear hb3
    go_wp2_with fail
    go_ret
    exact ⟨rfl, below_alloc1 hb _⟩
/-- the boxes of the three dates -/
def WanRel (w wr : World) (gb xb : Nat) (y m d G M A X1 X2 X3 : Int) (p : Prop) : Prop :=
  Below w.heap.size w wr ∧ Box3 wr w.heap.size (.int .i64 y) (.int .i64 m) (.int .i64 d) ∧ Box3 wr gb (.int .i64 G) (.int .i64 M) (.int .i64 A) ∧ Box3 wr xb (.int .i64 X1) (.int .i64 X2) (.int .i64 X3) ∧ p
set_option maxHeartbeats 4000000 in
theorem iwan_none (k y m d n E : Int) (w : World) (h1 : Cal.inE n = 0) (h2 : Isl.dtE k n = 0) (h : ∀ w, Calls Try.prog 30 #[.int .i64 k, .agg #[.int .i64 y, .int .i64 m, .int .i64 d], .int .i64 (Cal.yG n)] w fun e w' => e = .returned (.tuple #[.slice none 0 0, .int .i64 E]) ∧ Below w.heap.size w w') (hE : (E != 0) = true) :
    Calls Try.prog 11 #[.int .i64 k, .agg #[.int .i64 y, .int .i64 m, .int .i64 d], .int .i64 n] w fun e w' => e = .returned (.bool true) ∧ Below w.heap.size w w' := by
  have hI := Lib.hid h
  have hH := Lib.hid (And.intro h1 h2)
  clear h h1 h2
  go_enter Try.func11, Try.ntmps11
  go_wp2_with fail
  refine (awake_any _).mono ?_; rintro e w1 ⟨rfl, hb1⟩
  have hD := Lib.hid (Box3.born hb1)
  have hb := below_box hb1
  clear hb1
  go_wp2_with fail
  refine (cdate_any _ _).mono ?_; rintro e w2 ⟨rfl, hb2⟩
  rw [hH.out.1]
  have hD2 := Lib.hid (hD.out.later hb2)
  have hb := below_then hb hb2
  clear hb2 hD
  go_wp2_with fail
  refine (idate_any _ _ _).mono ?_; rintro e w3 ⟨rfl, hb3⟩
  rw [hH.out.2]
  have hG := Lib.hid (Box3.born hb3)
  have hD3 := Lib.hid (hD2.out.later (below_box hb3))
  have hb := below_then hb (below_box hb3)
  clear hb3 hD2
  have a0 := fun o => (hD3.out.alloc o).c0
  have a1 := fun o => (hD3.out.alloc o).c1
  have a2 := fun o => (hD3.out.alloc o).c2
  have b0 := fun o => (hG.out.alloc o).c0
  go_wp2_with fail
  refine (hI.out _).mono ?_; rintro e w4 ⟨rfl, hb4⟩
  have hb := below_then hb (below_box hb4)
  clear hb4 a0 a1 a2 b0
  go_wp2_with fail
  go_ret
  exact ⟨by simp, hb⟩
set_option maxHeartbeats 8000000 in
set_option maxRecDepth 100000 in
theorem iwan_good (k y m d n : Int) (w : World) (G M A X1 X2 X3 : Int) (L L2 : List Int) (e1 : Cal.inE n = 0) (e2 : Isl.dtE k n = 0) (e3 : Cal.yG n = G) (e4 : Cal.mG n = M) (e5 : Cal.aG n = A) (e6 : Isl.yI k n = X1) (e7 : Isl.mI k n = X2) (e8 : Isl.aI k n = X3)
    (hI : ∀ w, Calls Try.prog 30 #[.int .i64 k, .agg #[.int .i64 y, .int .i64 m, .int .i64 d], .int .i64 G] w fun e w' => ∃ v, e = .returned (.tuple #[v, .int .i64 0]) ∧ OwnN w' (w.heap.size + 1) v L ∧ Below w.heap.size w w')
    (hJ : ∀ w, Calls Try.prog 30 #[.int .i64 k, .agg #[.int .i64 X1, .int .i64 X2, .int .i64 X3], .int .i64 G] w fun e w' => ∃ v, e = .returned (.tuple #[v, .int .i64 0]) ∧ OwnN w' (w.heap.size + 1) v L2 ∧ Below w.heap.size w w')
    (hget : ∀ i, i < L.length → ∃ x, L.getD i 0 = x ∧ Isl.dtE k x = 0 ∧ Isl.mI k x = m ∧ Isl.aI k x = d ∧ Cal.inE x = 0 ∧ Cal.yG x = G)
    (hup : ∀ i, i + 1 < L.length → L.getD i 0 < L.getD (i + 1) 0) (hlen : L.length ≤ 2) (hlen2 : L2.length ≤ 2) (hc : L2.contains n = true) (hp2 : 0 < L2.length) :
    Calls Try.prog 11 #[.int .i64 k, .agg #[.int .i64 y, .int .i64 m, .int .i64 d], .int .i64 n] w fun e w' => e = .returned (.bool true) ∧ Below w.heap.size w w' := by
  have eH := Lib.hid (And.intro e1 (And.intro e2 (And.intro e3 (And.intro e4 (And.intro e5 (And.intro e6 (And.intro e7 e8)))))))
  have hIH := Lib.hid hI
  have hJH := Lib.hid hJ
  have hgetH := Lib.hid hget
  have hupH := Lib.hid hup
  have hcH := Lib.hid hc
  have hp2H := Lib.hid (And.intro hp2 hlen2)
  obtain ⟨N, hN⟩ : ∃ N, L.length = N := ⟨_, rfl⟩
  have hNH := Lib.hid hN
  rw [hN] at hlen
  clear e1 e2 e3 e4 e5 e6 e7 e8 hI hJ hget hup hc hN hlen2 hp2
  go_enter Try.func11, Try.ntmps11
  go_wp2_with fail
  refine (awake_any _).mono ?_; rintro e w1 ⟨rfl, hb1⟩
  have hD := Lib.hid (Box3.born hb1)
  have hb := below_box hb1
  clear hb1
  go_wp2_with fail
  refine (cdate_any _ _).mono ?_; rintro e w2 ⟨rfl, hb2⟩
  rw [eH.out.1, eH.out.2.2.1, eH.out.2.2.2.1, eH.out.2.2.2.2.1]
  have hD2 := Lib.hid (hD.out.later hb2)
  have hb := below_then hb hb2
  clear hb2 hD
  go_wp2_with fail
  refine (idate_any _ _ _).mono ?_; rintro e w3 ⟨rfl, hb3⟩
  rw [eH.out.2.1, eH.out.2.2.2.2.2.1, eH.out.2.2.2.2.2.2.1, eH.out.2.2.2.2.2.2.2]
  have hG := Lib.hid (Box3.born hb3)
  have hD3 := Lib.hid (hD2.out.later (below_box hb3))
  have hb := below_then hb (below_box hb3)
  clear hb3 hD2
  have a0 := fun o => (hD3.out.alloc o).c0
  have a1 := fun o => (hD3.out.alloc o).c1
  have a2 := fun o => (hD3.out.alloc o).c2
  have b0 := fun o => (hG.out.alloc o).c0
  go_wp2_with fail
  refine (hIH.out _).mono ?_; rintro e w4 ⟨v, rfl, hO, hb4⟩
  have hs := hO.shape
  have hX := Lib.hid (Box3.born hb4)
  have hD4 := Lib.hid (hD3.out.later (below_box hb4))
  have hG4 := Lib.hid (hG.out.later (below_box hb4))
  have hb := below_then hb (below_box hb4)
  clear hb4 a0 a1 a2 b0 hO hD3 hG
  generalize w2.heap.size = gb at *
  generalize w3.heap.size = xb at *
  rcases hs with ⟨hx, rfl⟩ | ⟨hx, b, cap, rfl, hInts⟩
  · have hN0 : N = 0 := by rw [← hNH.out, hx]; rfl
    subst hN0
    clear hx
    go_wp2_with fail
    go_loopg [55] 1 (fun g t wr => t = .int .i64 0 ∧ WanRel w wr gb xb y m d G M A X1 X2 X3 True)
    case atStart => exact ⟨rfl, hb, hD4.out, hG4.out, hX.out, trivial⟩
    case round =>
      clear hb hD4 hG4 hX
      obtain ⟨rfl, hb, hD, hG, hX, _⟩ := hrel
      have hGH := Lib.hid hG
      have hXH := Lib.hid hX
      clear hD
      obtain ⟨_, g0, _, _, _, _, _⟩ := hG
      obtain ⟨_, x0, x1, x2, _, _, _⟩ := hX
      go_wp2_with fail
      refine (hJH.out _).mono ?_; rintro e w5 ⟨v2, rfl, hO2, hb5⟩
      have hs2 := hO2.shape
      rcases hs2 with ⟨hx2, _⟩ | ⟨hx2, b2, cap2, rfl, hI2⟩
      · exfalso; have := hp2H.out.1; rw [hx2] at this; simp at this
      · have hI2H := Lib.hid hI2
        clear hI2 hx2 hO2
        go_wp2_with (go_at_call 34; refine (contains_any _ _ L2 _ _ hI2H.out (by have := hp2H.out.2; omega)).mono ?_; rintro e w6 ⟨rfl, rfl⟩; rw [hcH.out])
        go_ret
        exact ⟨by simp, below_then hb hb5⟩
  · have hIn := Lib.hid hInts
    clear hInts
    rw [hNH.out] at hx ⊢
    have hn0 : ((N : Int) == 0) = false := by simp; omega
    go_wp2_with fail
    go_loopg [55] 4 (fun g t wr => ∃ j : Nat, j ≤ N ∧ t = .int .i64 j ∧ Ints wr b L ∧ WanRel w wr gb xb y m d G M A X1 X2 X3 (N - j ≤ g))
    case atStart => exact ⟨0, by omega, rfl, hIn.out, hb, hD4.out, hG4.out, hX.out, by omega⟩
    case round =>
      clear hb hD4 hG4 hX hIn
      obtain ⟨j, hj, rfl, hIn, hb, hD, hG, hX, hg⟩ := hrel
      have hInH := Lib.hid hIn
      have hDH := Lib.hid hD
      have hGH := Lib.hid hG
      have hXH := Lib.hid hX
      clear hIn hD hG hX
      by_cases hlt : j < N
      · obtain ⟨x, f1, f2, f3, f4, f5, f6⟩ := hgetH.out j (by rw [hNH.out]; exact hlt)
        have fH := Lib.hid (And.intro f2 (And.intro f3 (And.intro f4 (And.intro f5 f6))))
        have c := ints_get hInH.out (by rw [hNH.out]; exact hlt) f1
        have xH := Lib.hid f1
        clear f1 f2 f3 f4 f5 f6
        go_wp2_with fail
        refine (idate_any _ _ _).mono ?_; rintro e w5 ⟨rfl, hb5⟩
        rw [fH.out.1, fH.out.2.1, fH.out.2.2.1]
        clear c
        go_wp2_with fail
        refine (cdate_any _ _).mono ?_; rintro e w6 ⟨rfl, hb6⟩
        rw [fH.out.2.2.2.1, fH.out.2.2.2.2]
        have hY := Lib.hid (Box3.born hb6)
        have hb6' := below_box hb6
        have hIn6 := Lib.hid ((hInH.out.later hb5).later hb6')
        have hD6 := Lib.hid ((hDH.out.later hb5).later hb6')
        have hG6 := Lib.hid ((hGH.out.later hb5).later hb6')
        have hX6 := Lib.hid ((hXH.out.later hb5).later hb6')
        have hb := below_then (below_then hb hb5) hb6'
        clear hb5 hb6 hb6' hInH hDH hGH hXH
        have y1 := fun o => (hY.out.alloc o).c1
        have y2 := fun o => (hY.out.alloc o).c2
        have p1 := fun o => (hD6.out.alloc o).c1
        have p2 := fun o => (hD6.out.alloc o).c2
        have p3 := fun o => (hG6.out.alloc o).c0
        by_cases h0 : j = 0
        · subst h0
          go_wp2_with fail
          try go_region
          all_goals (try go_wp2_with fail)
          go_roundg (gk - 1)
          case measure => omega
          case rel => exact ⟨1, by omega, by go_num, hIn6.out.later (by (repeat (first | exact Below.refl _ _ | assumption | refine below_drewN ?_ _ | refine below_alloc1 ?_ _ | refine below_then ?_ (by assumption)))), by (repeat (first | exact Below.refl _ _ | assumption | refine below_drewN ?_ _ | refine below_alloc1 ?_ _ | refine below_then ?_ (by assumption))), hD6.out.alloc _, hG6.out.alloc _, hX6.out.alloc _, by omega⟩
        · obtain ⟨i, rfl⟩ : ∃ i, j = i + 1 := ⟨j - 1, by omega⟩
          obtain ⟨z, hz⟩ : ∃ z, L.getD i 0 = z := ⟨_, rfl⟩
          have hzx : z < x := by have := hupH.out i (by rw [hNH.out]; exact hlt); rw [hz, xH.out] at this; exact this
          have q0 : decide (((i + 1 : Nat) : Int) > 0) = true := by simp
          have q1 : IntKind.i64.wrap (((i + 1 : Nat) : Int) - 1) = i := by rw [show ((i + 1 : Nat) : Int) - 1 = i by omega]; exact IntWalk.i64_in _ (by omega)
          have q2 : decide (z ≥ x) = false := by simp; omega
          have l0 := fun o => ints_get (hIn6.out.later (below_alloc1 (Below.refl _ _) o)) (by rw [hNH.out]; omega) hz
          go_wp2_with fail
          try go_region
          all_goals (try go_wp2_with fail)
          go_roundg (gk - 1)
          case measure => omega
          case rel => exact ⟨i + 1 + 1, by omega, by go_num, hIn6.out.later (by (repeat (first | exact Below.refl _ _ | assumption | refine below_drewN ?_ _ | refine below_alloc1 ?_ _ | refine below_then ?_ (by assumption)))), by (repeat (first | exact Below.refl _ _ | assumption | refine below_drewN ?_ _ | refine below_alloc1 ?_ _ | refine below_then ?_ (by assumption))), hD6.out.alloc _, hG6.out.alloc _, hX6.out.alloc _, by omega⟩
      · obtain ⟨_, g0, _, _, _, _, _⟩ := hGH.out
        obtain ⟨_, x0, x1, x2, _, _, _⟩ := hXH.out
        go_wp2_with fail
        refine (hJH.out _).mono ?_; rintro e w5 ⟨v2, rfl, hO2, hb5⟩
        have hs2 := hO2.shape
        rcases hs2 with ⟨hx2, _⟩ | ⟨hx2, b2, cap2, rfl, hI2⟩
        · exfalso; have := hp2H.out.1; rw [hx2] at this; simp at this
        · have hI2H := Lib.hid hI2
          clear hI2 hx2 hO2
          go_wp2_with (go_at_call 34; refine (contains_any _ _ L2 _ _ hI2H.out (by have := hp2H.out.2; omega)).mono ?_; rintro e w6 ⟨rfl, rfl⟩; rw [hcH.out])
          go_ret
          exact ⟨by simp; try omega, below_then hb hb5⟩
theorem wIslamicWanders (k y m d n : Int) (w : World) (_hk : -9223372036854775808 ≤ k ∧ k ≤ 9223372036854775807) (_hy : -9223372036854775808 ≤ y ∧ y ≤ 9223372036854775807) (_hm : -9223372036854775808 ≤ m ∧ m ≤ 9223372036854775807) (_hd : -9223372036854775808 ≤ d ∧ d ≤ 9223372036854775807) (_hn : -9223372036854775808 ≤ n ∧ n ≤ 9223372036854775807) :
    Calls Try.prog 11 #[.int .i64 k, .agg #[.int .i64 y, .int .i64 m, .int .i64 d], .int .i64 n] w fun e w' => e = .returned (.bool true) ∧ Below w.heap.size w w' := by
  by_cases h1 : Cal.inE n = 0
  · by_cases h2 : Isl.dtE k n = 0
    · have hi : Cal.inB n = true := by
        cases q : Cal.inB n
        · simp [Cal.inE, q] at h1
        · rfl
      have hkr : Isl.kB k = true ∧ Isl.rB k n = true := by
        cases q : Isl.kB k
        · simp [Isl.dtE, q] at h2
        · cases r : Isl.rB k n
          · simp [Isl.dtE, q, r] at h2
          · exact ⟨rfl, rfl⟩
      obtain ⟨hk, hr⟩ := hkr
      obtain ⟨ho, hd⟩ := Cal.dtG_spec hi
      have g1 : 1 ≤ Cal.yG n := ho.1
      have g2 : Cal.yG n ≤ 9999 := ho.2.1
      have hb := Cal.dayG_bd ho
      rw [hd] at hb
      have hs := Cal.ysG_succ (Cal.yG n)
      have hl := Cal.lg_01 (Cal.yG n)
      rcases Isl.mo_ways k m d (Cal.yG n) with ⟨h, _⟩ | ⟨_, _, _, m1, m2, d1, d2, _, _, hmd⟩
      · exact iwan_none k y m d n _ w h1 h2 (fun w => imoved_bad k y m d _ _ w h) (Isl.MoBad_ne h)
      · obtain ⟨o1, o2, o3, o4, o5⟩ := Isl.own_ok hk hr
        have hmem := Isl.ML_own (fr := Cal.ysG (Cal.yG n)) hk hr (by omega) (show n ≤ Cal.ysG (Cal.yG n + 1) - 1 by omega)
        exact iwan_good k y m d n w _ _ _ _ _ _ _ _ h1 h2 rfl rfl rfl rfl rfl rfl (fun w => imoved_good k y m d _ w hk m1 m2 d1 d2 g1 g2 hmd) (fun w => imoved_good k _ _ _ _ w hk o1 o2 o3 o4 g1 g2 o5)
          (fun i h => Isl.wan_get hk g1 g2 h) (fun i h => Isl.wan_up hk h) (Isl.ML_two hk (by omega)) (Isl.ML_two hk (by omega)) (by simpa using hmem) (List.length_pos_of_mem hmem)
    · exact iwan_out k y m d n w (Or.inr ⟨by simp [h1], by simpa using h2⟩)
  · exact iwan_out k y m d n w (Or.inl (by simpa using h1))
end Go.Proofs.Ytbfdmpjgdpglgaa
