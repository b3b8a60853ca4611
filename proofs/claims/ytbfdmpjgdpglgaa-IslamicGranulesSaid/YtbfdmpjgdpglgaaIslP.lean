/- The contract of the reference's Months, and the walk of IslamicMonths. No conditions. -/
import Derived.Test.YtbfdmpjgdpglgaaIslN
namespace Isl
theorem mon_room {n q : Int} {j : Nat} (h0 : 1 ≤ n) (hn : 360 % n = 0) (hq : q = (j : Int) * n) (h : q < 360) : q + n ≤ 360 := by
  have hd : 360 / n * n = 360 := Int.ediv_mul_cancel (Int.dvd_of_emod_eq_zero hn)
  have a : (j : Int) < 360 / n := by
    apply Int.lt_of_mul_lt_mul_right (a := n) _ (by omega)
    rw [hd, ← hq]; exact h
  have b : ((j : Int) + 1) * n ≤ 360 / n * n := Int.mul_le_mul_of_nonneg_right (by omega) (by omega)
  rw [Int.add_mul, hd, ← hq] at b; omega
theorem new_first {k fr : Int} (hk : kB k = true) (f1 : 1 ≤ fr) (f2 : fr ≤ 9601) : newN k fr = first k fr ∧ newE k fr = 0 := by
  have h : decide (1 ≤ fr ∧ fr ≤ 9601) = true := decide_eq_true ⟨f1, f2⟩
  constructor
  · simp [newN, hk, f1, f2]
  · unfold newE; rw [hk, h]; rfl
end Isl
namespace Go.Proofs.Ytbfdmpjgdpglgaa
open Go.ChangeShapes Go.WideShapes Go.ChangeAt Go.RowKit

set_option maxHeartbeats 4000000 in
theorem rmonths_bad (k fr n E : Int) (w : World) (h : Isl.MonBad k fr n E) :
    Calls Try.prog 28 #[.int .i64 k, .int .i64 fr, .int .i64 n] w fun e w' => e = .returned (.tuple #[.agg #[.int .i64 0, .int .i64 0, .slice none 0 0], .int .i64 E]) ∧ Below w.heap.size w w' := by
  rcases h with ⟨hk, rfl⟩ | ⟨hk, rfl, h⟩ | ⟨hk, rfl, h1, h2, h3, h⟩
  · go_enter Try.func28, Try.ntmps28
    go_wp2_with (first | (go_at_call 21; refine (rvalidk_any _ _).mono ?_; rintro e w' ⟨rfl, rfl⟩))
    exact bodyPost_ret (v := .tuple #[.agg #[.int .i64 0, .int .i64 0, .slice none 0 0], .int .i64 1]) (by simp [results, Try.results28, go_sem]) rfl ⟨rfl, by go_grown⟩
  · rcases h with h | ⟨h1, h2⟩ | ⟨h1, h2, h3⟩
    · go_enter Try.func28, Try.ntmps28
      go_wp2_with (first | (go_at_call 21; refine (rvalidk_any _ _).mono ?_; rintro e w' ⟨rfl, rfl⟩))
      exact bodyPost_ret (v := .tuple #[.agg #[.int .i64 0, .int .i64 0, .slice none 0 0], .int .i64 1]) (by simp [results, Try.results28, go_sem]) rfl ⟨rfl, by go_grown⟩
    · go_enter Try.func28, Try.ntmps28
      go_wp2_with (first | (go_at_call 21; refine (rvalidk_any _ _).mono ?_; rintro e w' ⟨rfl, rfl⟩))
      exact bodyPost_ret (v := .tuple #[.agg #[.int .i64 0, .int .i64 0, .slice none 0 0], .int .i64 1]) (by simp [results, Try.results28, go_sem]) rfl ⟨rfl, by go_grown⟩
    · have e1 : Int.tmod 360 n = 360 % n := Int.tmod_eq_emod_of_nonneg (by omega)
      have h3b : (360 % n != 0) = true := by simpa using h3
      go_enter Try.func28, Try.ntmps28
      go_wp2_with (first | (go_at_call 21; refine (rvalidk_any _ _).mono ?_; rintro e w' ⟨rfl, rfl⟩))
      exact bodyPost_ret (v := .tuple #[.agg #[.int .i64 0, .int .i64 0, .slice none 0 0], .int .i64 1]) (by simp [results, Try.results28, go_sem]) rfl ⟨rfl, by go_grown⟩
  · have e1 : Int.tmod 360 n = 360 % n := Int.tmod_eq_emod_of_nonneg (by omega)
    rcases h with h | ⟨g1, g2⟩ | ⟨g1, g2, g3⟩
    · go_enter Try.func28, Try.ntmps28
      go_wp2_with (first | (go_at_call 21; refine (rvalidk_any _ _).mono ?_; rintro e w' ⟨rfl, rfl⟩))
      exact bodyPost_ret (v := .tuple #[.agg #[.int .i64 0, .int .i64 0, .slice none 0 0], .int .i64 2]) (by simp [results, Try.results28, go_sem]) rfl ⟨rfl, by go_grown⟩
    · go_enter Try.func28, Try.ntmps28
      go_wp2_with (first | (go_at_call 21; refine (rvalidk_any _ _).mono ?_; rintro e w' ⟨rfl, rfl⟩))
      exact bodyPost_ret (v := .tuple #[.agg #[.int .i64 0, .int .i64 0, .slice none 0 0], .int .i64 2]) (by simp [results, Try.results28, go_sem]) rfl ⟨rfl, by go_grown⟩
    · have g3b : ((fr - 1) % 30 != 0) = true := by unfold Isl.place at g3; simp; omega
      clear g3
      go_enter Try.func28, Try.ntmps28
      go_wp2_with (first | (go_at_call 21; refine (rvalidk_any _ _).mono ?_; rintro e w' ⟨rfl, rfl⟩))
      exact bodyPost_ret (v := .tuple #[.agg #[.int .i64 0, .int .i64 0, .slice none 0 0], .int .i64 2]) (by simp [results, Try.results28, go_sem]) rfl ⟨rfl, by go_grown⟩
set_option maxHeartbeats 8000000 in
set_option maxRecDepth 100000 in
theorem rmonths_good (k fr n : Int) (w : World) (hk : Isl.kB k = true) (n1 : 1 ≤ n) (n2 : n ≤ 360) (n3 : 360 % n = 0) (f1 : 1 ≤ fr) (f2 : fr ≤ 9571) (f3 : Isl.place fr = 1) :
    Calls Try.prog 28 #[.int .i64 k, .int .i64 fr, .int .i64 n] w fun e w' => ∃ v, e = .returned (.tuple #[.agg #[.int .i64 (Isl.first k fr), .int .i64 10631, v], .int .i64 0]) ∧ Seq2 w' v (360 / n).toNat (Isl.fs k fr n (360 / n).toNat) ∧ Below w.heap.size w w' := by
  obtain ⟨i0, hi', hz0, hz1, hz2⟩ := info_parts infoSpan
  have hkH := Lib.hid hk
  have n3H := Lib.hid n3
  have e1 : Int.tmod 360 n = 360 % n := Int.tmod_eq_emod_of_nonneg (by omega)
  have f3b : ((fr - 1) % 30 != 0) = false := by unfold Isl.place at f3; simp; omega
  have hfb := Isl.first_bd hk f1 (show fr ≤ 9601 by omega)
  have hSb := Lib.hid (fun (i : Int) (h0 : 0 ≤ i) (h1 : i ≤ 360) => Isl.S_bd hk f1 f2 h0 h1)
  have hSs := Lib.hid (fun (i : Int) (h0 : 0 ≤ i) (h1 : i < 360) => Isl.S_succ hk f1 f2 h0 h1)
  have hNH := Lib.hid (Isl.new_first hk f1 (show fr ≤ 9601 by omega))
  clear f3
  go_enter Try.func28, Try.ntmps28
  go_wp2_with (first | (go_at_call 21; refine (rvalidk_any _ _).mono ?_; rintro e w' ⟨rfl, rfl⟩))
  refine (rnew_any _ _ _).mono ?_; rintro e w1 ⟨rfl, hb1⟩
  rw [hNH.out.1, hNH.out.2]
  generalize hO0 : Isl.first k fr = O at *
  have hOH := Lib.hid hO0
  have hR := Lib.hid (Box3.born hb1)
  have hb := below_box hb1
  clear hb1 e1 f3b hk n3 hO0
  have hcb : w.heap.size < w1.heap.size := hR.out.lt
  go_wp2_with fail
  go_loopg [11, 12] 362 (fun g t11 t12 wr => ∃ (j : Nat) (q : Int), q ≤ 360 ∧ q = (j : Int) * n ∧ t12 = .int .i64 q ∧ t11 = .int .i64 (Isl.S k fr q) ∧ ∃ v, MonRel w wr w1.heap.size O v j (Isl.fs k fr n j) ((360 - q).toNat ≤ g))
  case atStart =>
    refine ⟨0, 0, by omega, by simp, rfl, val_int (Isl.S_0 _ _).symm, .slice none 0 0, hcb, ?_, hR.out.alloc _, Box3.new _ _ _ _ _, Own2.nil _ _, by omega⟩
    exact hb.alloc hb.size _
  case round =>
    clear hb hR hcb
    obtain ⟨j, q, hq1, hq, rfl, rfl, v, hcb, hb, hR, hC, hO, hg⟩ := hrel
    have hq0 : 0 ≤ q := by rw [hq]; exact Int.mul_nonneg (by omega) (by omega)
    have hj : (j : Int) ≤ q := by
      have h2 : (j : Int) * 1 ≤ (j : Int) * n := Int.mul_le_mul_of_nonneg_left n1 (by omega)
      omega
    have hqH := Lib.hid hq
    have hRH := Lib.hid hR
    have hCH := Lib.hid hC
    have hOwH := Lib.hid hO
    clear hR hC hO hq
    generalize hcbn : w1.heap.size = cb at *
    clear hcbn
    by_cases hlt : q < 360
    · have hroom := Isl.mon_room n1 n3H.out hqH.out hlt
      obtain ⟨gko, hgo⟩ : ∃ x, x = gk := ⟨_, rfl⟩
      go_wp2_with fail
      go_loopg [13, 14] 362 (fun g t13 t14 wx => ∃ i : Int, q ≤ i ∧ i ≤ q + n ∧ t14 = .int .i64 i ∧ t13 = .int .i64 (Isl.S k fr i - Isl.S k fr q) ∧ MonRel w wx cb O v j (Isl.fs k fr n j) ((q + n - i).toNat ≤ g))
      case atStart => exact ⟨q, by omega, by omega, rfl, val_int (by omega), hcb, hb, hRH.out, hCH.out, hOwH.out, by omega⟩
      case round =>
        clear hb hRH hCH hOwH hcb
        obtain ⟨i, hi1, hi2, rfl, rfl, hcb, hb, hR, hC, hO, hg2⟩ := hrel
        have hRH := Lib.hid hR
        have hCH := Lib.hid hC
        have hOwH := Lib.hid hO
        clear hR hC hO
        have s1 := hSb.out q (by omega) (by omega)
        have s2 := hSb.out i (by omega) (by omega)
        by_cases hil : i < q + n
        · have b2 := Isl.lenc_bd k (fr + i / 12) (i % 12 + 1)
          have hs := hSs.out i (by omega) (by omega)
          generalize hLn : Isl.lenc k (fr + i / 12) (i % 12 + 1) = Ln at *
          have LH := Lib.hid hLn
          have hsH := Lib.hid hs
          clear hLn hs
          go_wp2_with (first | (go_at_call 24; refine (rlengthi_any _ _ _ _).mono ?_; rintro e w3 ⟨he, hb3⟩; rw [LH.out] at he; subst he))
          go_roundg (gk - 1)
          case measure => omega
          case rel => exact ⟨i + 1, by omega, by omega, rfl, val_int (by have := hsH.out; omega), hcb, below_then hb hb3, hRH.out.later hb3, hCH.out.later hb3, hOwH.out.later hb3, by omega⟩
        · have ei : i = q + n := by omega
          subst hgo
          rw [ei] at s2 ⊢
          clear ei hi1 hi2 hg2 hil
          obtain ⟨X, hX⟩ : ∃ X, Isl.S k fr q = X := ⟨_, rfl⟩
          obtain ⟨Y, hY⟩ : ∃ Y, Isl.S k fr (q + n) = Y := ⟨_, rfl⟩
          rw [hX] at s1 ⊢
          rw [hY] at s2 ⊢
          have XH := Lib.hid (And.intro hX hY)
          clear hX hY
          have d2 := hCH.out.c2
          go_wp2_with (first | (at_builtin; refine wpList_append_own _ rfl _ _ 45 rfl (cb + 1) 51 i0 (.agg #[.int .i64 0, .int .i64 0]) 2 16 Try.underlying45 hi' hz0 hz1 hz2 rfl (by decide) _ j _ rfl (World.ownsRow.alloc hOwH.out _) ⟨wr.heap.size, 0, none⟩ 1 1 [.int .i64 X, .int .i64 (X + (Y - X))] rfl rfl (news2 _ _ _ _) (one2 _ _) (by unfold maxLen; omega) (by omega) (by have := hCH.out.lt; simp; omega) ?_; intro v' w4 hown hgrow _; obtain ⟨b', cap', rfl⟩ := row_shape hown (by omega); have RH := Lib.hid (mon_store hcb hb hRH.out hCH.out hOwH.out hown hgrow); clear hown hgrow d2; obtain ⟨lt, c0, c1, c2, g0, g1, g2⟩ := RH.out.1))
          go_roundg (gko - 1)
          case measure => omega
          case rel => exact ⟨j + 1, q + n, by omega, by rw [hqH.out]; simp [Int.add_mul], rfl, val_int (by rw [XH.out.2]; omega), _, hcb, RH.out.2.1, RH.out.2.2.1, RH.out.2.2.2.1, (by have h := RH.out.2.2.2.2; rw [show X + (Y - X) = Y by omega, ← XH.out.1, ← XH.out.2, show q + n = ((j : Int) + 1) * n by rw [hqH.out]; simp [Int.add_mul], hqH.out] at h; simpa [Isl.fs] using h), by omega⟩
    · obtain rfl : q = 360 := by omega
      obtain ⟨_, q2⟩ := Isl.mon_end n1 n3H.out hqH.out (by omega) (by omega)
      have ej : j = (360 / n).toNat := by omega
      have jp : 0 < j := by
        rcases Nat.eq_zero_or_pos j with h | h
        · have := hqH.out; subst h; simp at this
        · exact h
      have ejH := Lib.hid ej
      clear q2 ej
      obtain ⟨b, cap, rfl, hB, hcap, hI⟩ := hOwH.out.row jp
      have hIH := Lib.hid hI
      clear hI
      obtain ⟨lt, c0, c1, c2, g0, g1, g2⟩ := hCH.out
      obtain ⟨rt, r0, r1, r2, s0, s1, s2⟩ := hRH.out
      go_wp2_with fail
      have R3 := (((hRH.out.set0 (.int .i64 O)).set1 (.int .i64 10631)).set2 (.slice (some ⟨b, 0, none⟩) j cap))
      have O3 : Own2 _ (cb + 1) (.slice (some ⟨b, 0, none⟩) j cap) j (Isl.fs k fr n j) := ownsRow_setCell_below (ownsRow_setCell_below (ownsRow_setCell_below hOwH.out (a := ⟨w.heap.size, 0, none⟩) (by simp; omega) (.int .i64 O)) (a := ⟨w.heap.size, 1, none⟩) (by simp; omega) (.int .i64 10631)) (a := ⟨w.heap.size, 2, none⟩) (by simp; omega) (.slice (some ⟨b, 0, none⟩) j cap)
      have B3 := ((hb.setCell (p := ⟨w.heap.size, 0, none⟩) (Nat.le_refl _) (.int .i64 O)).setCell (p := ⟨w.heap.size, 1, none⟩) (Nat.le_refl _) (.int .i64 10631)).setCell (p := ⟨w.heap.size, 2, none⟩) (Nat.le_refl _) (.slice (some ⟨b, 0, none⟩) j cap)
      obtain ⟨_, z0, z1, z2, _, _, _⟩ := R3
      exact bodyPost_ret (v := .tuple #[.agg #[.int .i64 O, .int .i64 10631, .slice (some ⟨b, 0, none⟩) j cap], .int .i64 0]) (by simp [results, Try.results28, go_sem, z0, z1, z2]) rfl ⟨_, by rw [hOH.out], by have h := O3.shape jp; rw [ejH.out] at h ⊢; exact h, B3⟩
theorem Seq2.open {w : World} {v : Value} {n : Nat} {xs : List Int} (h : Seq2 w v n xs) (hn : 0 < n) : ∃ b cap, v = .slice (some ⟨b, 0, none⟩) n cap ∧ Seq2 w (.slice (some ⟨b, 0, none⟩) n cap) n xs ∧ xs.length = n * 2 ∧ Ints w b xs := by
  rcases h with ⟨h0, _⟩ | ⟨h0, hl, b, cap, rfl, hI⟩
  · omega
  · exact ⟨b, cap, rfl, Or.inr ⟨h0, hl, b, cap, rfl, hI⟩, hl, hI⟩
theorem count_pos {n : Int} (n1 : 1 ≤ n) (n2 : n ≤ 360) : 0 < (360 / n).toNat ∧ (360 / n).toNat ≤ 360 := by
  have a : 360 / n ≤ 360 := Int.ediv_le_self _ (by omega)
  have b : 1 ≤ 360 / n := by apply Int.le_ediv_of_mul_le (by omega); omega
  omega
set_option maxHeartbeats 2000000 in
theorem wIslamicMonths (k fr n : Int) (w : World) (_hk : -9223372036854775808 ≤ k ∧ k ≤ 9223372036854775807) (_hf : -9223372036854775808 ≤ fr ∧ fr ≤ 9223372036854775807) (_hn : -9223372036854775808 ≤ n ∧ n ≤ 9223372036854775807) :
    Calls Try.prog 9 #[.int .i64 k, .int .i64 fr, .int .i64 n] w fun e w' => e = .returned (.bool true) ∧ Below w.heap.size w w' := by
  rcases Isl.mon_ways k fr n with ⟨E, h⟩ | ⟨hk, n1, n2, n3, f1, f2, f3⟩
  · have hH := Lib.hid h
    clear h
    go_enter Try.func9, Try.ntmps9
    go_wp2_with fail
    refine (awake_any _).mono ?_; rintro e w1 ⟨rfl, hb1⟩
    go_wp2_with fail
    refine (imonths_bad _ _ _ _ _ hH.out).mono ?_; rintro e w2 ⟨rfl, hb2⟩
    go_wp2_with fail
    refine (rmonths_bad _ _ _ _ _ hH.out).mono ?_; rintro e w3 ⟨rfl, hb3⟩
    have hX := Lib.hid (Box3.born hb3)
    have hb := below_then (below_then hb1 hb2) (below_box hb3)
    clear hb1 hb2 hb3
    have d0 := fun o => (hX.out.alloc o).c0
    have d1 := fun o => (hX.out.alloc o).c1
    have d2 := fun o => (hX.out.alloc o).c2
    go_wp2_with fail
    refine (same_any 0 0 _ _ 0 [] _ (Or.inl ⟨rfl, rfl⟩) (Or.inl ⟨rfl, rfl⟩) (by omega)).mono ?_; rintro e w4 ⟨rfl, hb4⟩
    go_wp2_with fail
    go_ret
    exact ⟨by simp, below_then hb (below_box hb4)⟩
  · have hI := Lib.hid (fun w => imonths_good k fr n w hk n1 n2 n3 f1 f2 f3)
    have hJ := Lib.hid (fun w => rmonths_good k fr n w hk n1 n2 n3 f1 f2 f3)
    obtain ⟨hcp, hc⟩ := count_pos n1 n2
    clear n3 f3
    generalize hxs : Isl.fs k fr n (360 / n).toNat = xs at *
    generalize hcs : (360 / n).toNat = c at *
    clear hxs hcs
    go_enter Try.func9, Try.ntmps9
    go_wp2_with fail
    refine (awake_any _).mono ?_; rintro e w1 ⟨rfl, hb1⟩
    go_wp2_with fail
    refine (hI.out _).mono ?_; rintro e w2 ⟨v1, rfl, hs1, hb2⟩
    obtain ⟨b1, cap1, rfl, hs1, _, _⟩ := hs1.open hcp
    have hs1H := Lib.hid hs1
    clear hs1
    go_wp2_with fail
    refine (hJ.out _).mono ?_; rintro e w3 ⟨v2, rfl, hs2, hb3⟩
    obtain ⟨b2, cap2, rfl, hs2, _, _⟩ := hs2.open hcp
    have hs2H := Lib.hid (hs2.later (below_alloc2 (Below.refl _ _) (Obj.cells #[.int .i64 (Isl.first k fr), .int .i64 10631, .slice (some ⟨b2, 0, none⟩) c cap2] 47)))
    have hs3H := Lib.hid (((hs1H.out.later (below_alloc2 (Below.refl _ _) _)).later hb3).later (below_alloc2 (Below.refl _ _) (Obj.cells #[.int .i64 (Isl.first k fr), .int .i64 10631, .slice (some ⟨b2, 0, none⟩) c cap2] 47)))
    have hX := Lib.hid (Box3.born hb3)
    have hb := below_then (below_then hb1 hb2) (below_box hb3)
    clear hs2 hs1H hb1 hb2 hb3
    have d0 := fun o => (hX.out.alloc o).c0
    have d1 := fun o => (hX.out.alloc o).c1
    have d2 := fun o => (hX.out.alloc o).c2
    go_wp2_with fail
    refine (same_any _ _ _ _ c xs _ hs3H.out hs2H.out (by omega)).mono ?_; rintro e w4 ⟨rfl, hb4⟩
    go_wp2_with fail
    go_ret
    exact ⟨by simp, below_then hb (below_box hb4)⟩
end Go.Proofs.Ytbfdmpjgdpglgaa
