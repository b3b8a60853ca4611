/- The walk of IslamicGranules. No conditions. -/
import Derived.Test.YtbfdmpjgdpglgaaIslP
namespace Isl
theorem MonBad_ne {k fr n E : Int} (h : MonBad k fr n E) : (E != 0) = true := by
  rcases h with ⟨_, rfl⟩ | ⟨_, rfl, _⟩ | ⟨_, rfl, _⟩ <;> rfl
/-- the granule of a group -/
theorem gran {k fr n ku : Int} (hk : kB k = true) (n1 : 1 ≤ n) (n2 : n ≤ 360) (n3 : 360 % n = 0) (f1 : 1 ≤ fr) (f2 : fr ≤ 9571) (k0 : 0 ≤ ku) :
    ∃ (c i : Nat) (M A B : Int), (360 / n).toNat = c ∧ Int.tdiv 360 n = c ∧ Int.tmod ku c = i ∧ i < c ∧ c ≤ 360 ∧ (i : Int) * n = M ∧ 0 ≤ M ∧ M + n ≤ 360 ∧ -4000000 ≤ A ∧ A ≤ 4000000 ∧ -4000000 ≤ B ∧ B ≤ 4000000 ∧
      (fs k fr n c).getD (i * 2) 0 = A ∧ (fs k fr n c).getD (i * 2 + 1) 0 = B ∧ dayN k (fr + M / 12) (M % 12 + 1) 1 = first k fr + A ∧ dayE k (fr + M / 12) (M % 12 + 1) 1 = 0 ∧ newE k (fr + 30) = 0 ∧
      ((M + n < 360 ∧ dayN k (fr + (M + n) / 12) ((M + n) % 12 + 1) 1 = first k fr + B ∧ dayE k (fr + (M + n) / 12) ((M + n) % 12 + 1) 1 = 0) ∨ (¬ M + n < 360 ∧ newN k (fr + 30) = first k fr + B)) := by
  have hd : 360 / n * n = 360 := Int.ediv_mul_cancel (Int.dvd_of_emod_eq_zero n3)
  have hp : 1 ≤ 360 / n := by apply Int.le_ediv_of_mul_le (by omega); omega
  have hc : 360 / n ≤ 360 := Int.ediv_le_self _ (by omega)
  obtain ⟨c, hcc⟩ : ∃ c : Nat, (360 / n).toNat = c := ⟨_, rfl⟩
  have hci : (c : Int) = 360 / n := by omega
  have hcp : (0 : Int) < c := by omega
  obtain ⟨i, hi⟩ : ∃ i : Nat, ku % (c : Int) = i := ⟨(ku % (c : Int)).toNat, by have := Int.emod_nonneg ku (show (c : Int) ≠ 0 by omega); omega⟩
  have hlt : (i : Int) < c := by rw [← hi]; exact Int.emod_lt_of_pos _ hcp
  have hM0 : 0 ≤ (i : Int) * n := Int.mul_nonneg (by omega) (by omega)
  have hM1 : ((i : Int) + 1) * n ≤ 360 := by rw [← hd, ← hci]; exact Int.mul_le_mul_of_nonneg_right (by omega) (by omega)
  have hM2 : ((i : Int) + 1) * n = (i : Int) * n + n := by rw [Int.add_mul]; simp
  obtain ⟨g1, g2⟩ := fs_get k fr n c i (by omega)
  have a1 := S_bd hk f1 f2 hM0 (show (i : Int) * n ≤ 360 by omega)
  have a2 := S_bd hk f1 f2 (show 0 ≤ (i : Int) * n + n by omega) (by omega)
  obtain ⟨d1, d2⟩ := S_day hk f1 f2 hM0 (show (i : Int) * n < 360 by omega)
  obtain ⟨e1, e2⟩ := new_first hk (show 1 ≤ fr + 30 by omega) (show fr + 30 ≤ 9601 by omega)
  refine ⟨c, i, (i : Int) * n, S k fr ((i : Int) * n), S k fr ((i : Int) * n + n), hcc, by rw [Int.tdiv_eq_ediv_of_nonneg (by omega), hci], by rw [Int.tmod_eq_emod_of_nonneg k0, hi], by omega, by omega, rfl, hM0, by omega, a1.1, a1.2, a2.1, a2.2, by rw [Nat.mul_comm]; exact g1, by rw [Nat.mul_comm, ← hM2]; exact g2, d1, d2, e2, ?_⟩
  by_cases h : (i : Int) * n + n < 360
  · obtain ⟨x1, x2⟩ := S_day hk f1 f2 (show 0 ≤ (i : Int) * n + n by omega) h
    exact Or.inl ⟨h, x1, x2⟩
  · have h2 : (i : Int) * n + n = 360 := by omega
    refine Or.inr ⟨h, ?_⟩
    rw [e1, h2, S_360, first_30]
end Isl
namespace Go.Proofs.Ytbfdmpjgdpglgaa
open Go.ChangeShapes Go.WideShapes Go.ChangeAt Go.RowKit

set_option maxHeartbeats 8000000 in
set_option maxRecDepth 100000 in
theorem igran_good (k fr n ku : Int) (w : World) (hk : Isl.kB k = true) (n1 : 1 ≤ n) (n2 : n ≤ 360) (n3 : 360 % n = 0) (f1 : 1 ≤ fr) (f2 : fr ≤ 9571) (f3 : Isl.place fr = 1) (k0 : 0 ≤ ku) (k1 : ku ≤ 65535) :
    Calls Try.prog 8 #[.int .i64 k, .int .i64 fr, .int .i64 n, .int .u16 ku] w fun e w' => e = .returned (.bool true) ∧ Below w.heap.size w w' := by
  have hI := Lib.hid (fun w => imonths_good k fr n w hk n1 n2 n3 f1 f2 f3)
  have hO := Isl.first_bd hk f1 (show fr ≤ 9601 by omega)
  obtain ⟨c, i, M, A, B, g1, g2, g3, g4, g5, g6, g7, g8, a1, a2, a3, a4, g9, g10, g11, g12, g13, g14⟩ := Isl.gran hk n1 n2 n3 f1 f2 k0
  rw [g1] at hI
  clear g1
  generalize hxs : Isl.fs k fr n c = xs at *
  generalize hOO : Isl.first k fr = O at *
  have gH := Lib.hid (And.intro g11 (And.intro g12 g13))
  have xH := Lib.hid (And.intro g9 g10)
  clear g9 g10 g11 g12 g13 hxs hOO n3 f3 hk
  rcases g14 with ⟨q, q1, q2⟩ | ⟨q, q1⟩
  all_goals
    first
      | have qH := Lib.hid (And.intro q1 q2)
      | have qH := Lib.hid q1
    clear q1
    try clear q2
    go_enter Try.func8, Try.ntmps8
    go_wp2_with fail
    refine (awake_any _).mono ?_; rintro e w1 ⟨rfl, hb1⟩
    go_wp2_with fail
    refine (hI.out _).mono ?_; rintro e w2 ⟨v, rfl, hs, hb2⟩
    obtain ⟨b, cap, rfl, _, hl, hInts⟩ := hs.open (by omega)
    have hIH := Lib.hid hInts
    have hlH := Lib.hid hl
    have hX := Lib.hid (Box3.new w2 (.int .i64 O) (.int .i64 10631) (.slice (some ⟨b, 0, none⟩) c cap) 47)
    have hb := below_then hb1 hb2
    clear hs hInts hl hb1 hb2
    have hcn : ((c : Int) == 0) = false := by simp; omega
    go_wp2_with fail
    have hn1 : decide (n < 1) = false := by simp; omega
    go_quiet (fail)
    go_wp2_with fail
    refine (iday_any _ _ _ _ _).mono ?_; rintro e w3 ⟨rfl, hb3⟩
    rw [gH.out.1, gH.out.2.1]
    replace hb3 := below_then (below_drewN (Below.refl _ _) _) hb3
    have hX3 := Lib.hid (hX.out.later hb3)
    have hI3 := Lib.hid ((hIH.out.later (below_alloc2 (Below.refl _ _) _)).later hb3)
    have hb := below_then hb (below_box hb3)
    clear hb3 hX hIH
    go_wp2_with fail
    refine (inew_any _ _ _).mono ?_; rintro e w4 ⟨rfl, hb4⟩
    rw [gH.out.2.2]
    try rw [qH.out]
    have hX4 := Lib.hid (hX3.out.later hb4)
    have hI4 := Lib.hid (hI3.out.later hb4)
    have hb := below_then hb hb4
    clear hb4 hX3 hI3
    go_wp2_with fail
    try (refine (iday_any _ _ _ _ _).mono ?_; rintro e w5 ⟨rfl, hb5⟩; rw [qH.out.1, qH.out.2]; have hX4 := Lib.hid (hX4.out.later hb5); have hI4 := Lib.hid (hI4.out.later hb5); have hb := below_then hb hb5; clear hb5; go_wp2_with fail)
    obtain ⟨_, c0, c1, c2, _, _, _⟩ := hX4.out
    have l0 := ints_get hI4.out (by rw [hlH.out]; omega) xH.out.1
    have l1 := ints_get hI4.out (by rw [hlH.out]; omega) xH.out.2
    go_region
    all_goals (try go_wp2_with fail)
    go_ret
    exact ⟨by simp, by (repeat (first | exact Below.refl _ _ | assumption | refine below_drewN ?_ _ | refine below_alloc1 ?_ _ | refine below_then ?_ (by assumption)))⟩
set_option maxHeartbeats 2000000 in
theorem wIslamicGranules (k fr n ku : Int) (w : World) (_hk : -9223372036854775808 ≤ k ∧ k ≤ 9223372036854775807) (_hf : -9223372036854775808 ≤ fr ∧ fr ≤ 9223372036854775807) (_hn : -9223372036854775808 ≤ n ∧ n ≤ 9223372036854775807) (hu : 0 ≤ ku ∧ ku ≤ 65535) :
    Calls Try.prog 8 #[.int .i64 k, .int .i64 fr, .int .i64 n, .int .u16 ku] w fun e w' => e = .returned (.bool true) ∧ Below w.heap.size w w' := by
  rcases Isl.mon_ways k fr n with ⟨E, h⟩ | ⟨hk, n1, n2, n3, f1, f2, f3⟩
  · have hE := Isl.MonBad_ne h
    have hH := Lib.hid h
    clear h
    go_enter Try.func8, Try.ntmps8
    go_wp2_with fail
    refine (awake_any _).mono ?_; rintro e w1 ⟨rfl, hb1⟩
    go_wp2_with fail
    refine (imonths_bad _ _ _ _ _ hH.out).mono ?_; rintro e w2 ⟨rfl, hb2⟩
    go_wp2_with fail
    go_ret
    exact ⟨by simp, below_alloc2 (below_then hb1 hb2) _⟩
  · exact igran_good k fr n ku w hk n1 n2 n3 f1 f2 f3 hu.1 hu.2
end Go.Proofs.Ytbfdmpjgdpglgaa
