/- The contract of islamic.Months. No conditions. -/
import Derived.Test.YtehjjinlpilelaaGreatDoorMb
import Derived.Test.YtehjjinlpilelaaGreatDoorMd
namespace Isl
/-- where Months has no answer -/
def MonBad (k fr n E : Int) : Prop :=
  (kB k = false ∧ E = 1) ∨ (kB k = true ∧ E = 1 ∧ (n < 1 ∨ (1 ≤ n ∧ 360 < n) ∨ (1 ≤ n ∧ n ≤ 360 ∧ 360 % n ≠ 0))) ∨
  (kB k = true ∧ E = 2 ∧ 1 ≤ n ∧ n ≤ 360 ∧ 360 % n = 0 ∧ (fr < 1 ∨ (1 ≤ fr ∧ 9571 < fr) ∨ (1 ≤ fr ∧ fr ≤ 9571 ∧ place fr ≠ 1)))
theorem mon_ways (k fr n : Int) : (∃ E, MonBad k fr n E) ∨ (kB k = true ∧ 1 ≤ n ∧ n ≤ 360 ∧ 360 % n = 0 ∧ 1 ≤ fr ∧ fr ≤ 9571 ∧ place fr = 1) := by
  cases hk : kB k
  · exact Or.inl ⟨1, Or.inl ⟨hk, rfl⟩⟩
  · by_cases h1 : 1 ≤ n ∧ n ≤ 360 ∧ 360 % n = 0
    · by_cases h2 : 1 ≤ fr ∧ fr ≤ 9571 ∧ place fr = 1
      · exact Or.inr ⟨rfl, h1.1, h1.2.1, h1.2.2, h2.1, h2.2.1, h2.2.2⟩
      · refine Or.inl ⟨2, Or.inr (Or.inr ⟨hk, rfl, h1.1, h1.2.1, h1.2.2, ?_⟩)⟩
        by_cases a : fr < 1
        · exact Or.inl a
        · by_cases b : 9571 < fr
          · exact Or.inr (Or.inl ⟨by omega, b⟩)
          · exact Or.inr (Or.inr ⟨by omega, by omega, fun q => h2 ⟨by omega, by omega, q⟩⟩)
    · refine Or.inl ⟨1, Or.inr (Or.inl ⟨hk, rfl, ?_⟩)⟩
      by_cases a : n < 1
      · exact Or.inl a
      · by_cases b : 360 < n
        · exact Or.inr (Or.inl ⟨by omega, b⟩)
        · exact Or.inr (Or.inr ⟨by omega, by omega, fun q => h1 ⟨by omega, by omega, q⟩⟩)
/-- the place of a month in its group -/
theorem mod_in {n q i : Int} {j : Nat} (_hn : 1 ≤ n) (hq : q = (j : Int) * n) (h1 : q ≤ i) (h2 : i + 1 < q + n) : (i + 1) % n = i + 1 - q ∧ i + 1 - q ≠ 0 := by
  have e : i + 1 = (i + 1 - q) + (j : Int) * n := by omega
  refine ⟨?_, by omega⟩
  rw [e, Int.add_mul_emod_self_right, Int.emod_eq_of_lt (by omega) (by omega)]; omega
theorem mod_end {n q i : Int} {j : Nat} (hq : q = (j : Int) * n) (h2 : i + 1 = q + n) : (i + 1) % n = 0 ∧ i + 1 = ((j + 1 : Nat) : Int) * n := by
  have e : i + 1 = ((j + 1 : Nat) : Int) * n := by rw [h2, hq]; simp [Int.add_mul]
  exact ⟨by rw [e]; exact Int.mul_emod_left _ _, e⟩
/-- behind all months -/
theorem mon_end {n q : Int} {j : Nat} (h0 : 1 ≤ n) (hn : 360 % n = 0) (hq : q = (j : Int) * n) (h1 : q ≤ 360) (h2 : 360 < q + n) : q = 360 ∧ (j : Int) = 360 / n := by
  have hd : 360 / n * n = 360 := Int.ediv_mul_cancel (Int.dvd_of_emod_eq_zero hn)
  have h3 : (j : Int) = 360 / n := by
    have a : (j : Int) < 360 / n + 1 := by
      apply Int.lt_of_mul_lt_mul_right (a := n) _ (by omega)
      rw [Int.add_mul, hd, ← hq]; omega
    have b : 360 / n < (j : Int) + 1 := by
      apply Int.lt_of_mul_lt_mul_right (a := n) _ (by omega)
      rw [Int.add_mul, hd, ← hq]; omega
    omega
  exact ⟨by rw [hq, h3, hd], h3⟩
end Isl
namespace Go.Proofs.YtehjjinlpilelaaGreatDoor
open Go.ChangeShapes Go.WideShapes Go.ChangeAt Go.RowKit

set_option maxHeartbeats 4000000 in
theorem imonths_bad (k fr n E : Int) (w : World) (h : Isl.MonBad k fr n E) :
    Calls Tryz.prog 25 #[.int .i64 k, .int .i64 fr, .int .i64 n] w fun e w' => e = .returned (.tuple #[.agg #[.int .i64 0, .int .i64 0, .slice none 0 0], .int .i64 E]) ∧ Below w.heap.size w w' := by
  rcases h with ⟨hk, rfl⟩ | ⟨hk, rfl, h⟩ | ⟨hk, rfl, h1, h2, h3, h⟩
  · go_enter Tryz.func25, Tryz.ntmps25
    go_wp2_with (first | (go_at_call 64; refine (ivalid_any _ _).mono ?_; rintro e w' ⟨rfl, rfl⟩))
    exact bodyPost_ret (v := .tuple #[.agg #[.int .i64 0, .int .i64 0, .slice none 0 0], .int .i64 1]) (by simp [results, Tryz.results25, go_sem]) rfl ⟨rfl, by go_grown⟩
  · rcases h with h | ⟨h1, h2⟩ | ⟨h1, h2, h3⟩
    · go_enter Tryz.func25, Tryz.ntmps25
      go_wp2_with (first | (go_at_call 64; refine (ivalid_any _ _).mono ?_; rintro e w' ⟨rfl, rfl⟩))
      exact bodyPost_ret (v := .tuple #[.agg #[.int .i64 0, .int .i64 0, .slice none 0 0], .int .i64 1]) (by simp [results, Tryz.results25, go_sem]) rfl ⟨rfl, by go_grown⟩
    · go_enter Tryz.func25, Tryz.ntmps25
      go_wp2_with (first | (go_at_call 64; refine (ivalid_any _ _).mono ?_; rintro e w' ⟨rfl, rfl⟩))
      exact bodyPost_ret (v := .tuple #[.agg #[.int .i64 0, .int .i64 0, .slice none 0 0], .int .i64 1]) (by simp [results, Tryz.results25, go_sem]) rfl ⟨rfl, by go_grown⟩
    · have e1 : Int.tmod 360 n = 360 % n := Int.tmod_eq_emod_of_nonneg (by omega)
      have h3b : (360 % n != 0) = true := by simpa using h3
      go_enter Tryz.func25, Tryz.ntmps25
      go_wp2_with (first | (go_at_call 64; refine (ivalid_any _ _).mono ?_; rintro e w' ⟨rfl, rfl⟩))
      exact bodyPost_ret (v := .tuple #[.agg #[.int .i64 0, .int .i64 0, .slice none 0 0], .int .i64 1]) (by simp [results, Tryz.results25, go_sem]) rfl ⟨rfl, by go_grown⟩
  · have e1 : Int.tmod 360 n = 360 % n := Int.tmod_eq_emod_of_nonneg (by omega)
    rcases h with h | ⟨g1, g2⟩ | ⟨g1, g2, g3⟩
    · go_enter Tryz.func25, Tryz.ntmps25
      go_wp2_with (first | (go_at_call 64; refine (ivalid_any _ _).mono ?_; rintro e w' ⟨rfl, rfl⟩))
      exact bodyPost_ret (v := .tuple #[.agg #[.int .i64 0, .int .i64 0, .slice none 0 0], .int .i64 2]) (by simp [results, Tryz.results25, go_sem]) rfl ⟨rfl, by go_grown⟩
    · go_enter Tryz.func25, Tryz.ntmps25
      go_wp2_with (first | (go_at_call 64; refine (ivalid_any _ _).mono ?_; rintro e w' ⟨rfl, rfl⟩))
      exact bodyPost_ret (v := .tuple #[.agg #[.int .i64 0, .int .i64 0, .slice none 0 0], .int .i64 2]) (by simp [results, Tryz.results25, go_sem]) rfl ⟨rfl, by go_grown⟩
    · have g3b : (Isl.place fr != 1) = true := by simpa using g3
      go_enter Tryz.func25, Tryz.ntmps25
      go_wp2_with (first | (go_at_call 64; refine (ivalid_any _ _).mono ?_; rintro e w' ⟨rfl, rfl⟩) | (go_at_call 67; refine (iplace_any _ _ (by omega) (by omega)).mono ?_; rintro e w' ⟨rfl, rfl⟩))
      exact bodyPost_ret (v := .tuple #[.agg #[.int .i64 0, .int .i64 0, .slice none 0 0], .int .i64 2]) (by simp [results, Tryz.results25, go_sem]) rfl ⟨rfl, by go_grown⟩
/-- behind the append of a span: what lies below the base stands, and the list is longer -/
theorem span_push {w w1 w2 : World} {B n : Nat} {v v' : Value} {xs : List Int} {y z : Int} {x : Obj} (hb : Below w.heap.size w w1) (hB : w.heap.size ≤ B) (hB1 : B ≤ w1.heap.size) (hO : Own2 w1 B v n xs)
    (h1 : w2.ownsRow B 73 2 v' (n + 1) (xs.map (Value.int .i64) ++ [.int .i64 y, .int .i64 z])) (hg : (w1.alloc x).grownBy w2 v.ownBlock) :
    Below w.heap.size w w2 ∧ Below B w1 w2 ∧ Own2 w2 B v' (n + 1) (xs ++ [y, z]) := by
  have hr : ∀ q, v.ownBlock = some q → B ≤ q := fun q hq => (World.ownsRow.lt hO q hq).1
  have hA : Below B w1 (w1.alloc x) := (Below.refl _ _).alloc hB1 x
  have hBw : Below B w1 w2 := hA.trans ((Below.refl _ _).grown hg (Nat.le_trans hB1 (by simp)) hr)
  refine ⟨hb.trans (hBw.mono hB), hBw, ?_⟩
  unfold Own2; simpa using h1
theorem news2 (w : World) (x y : Int) (t : TypeId) : ∀ (j : Nat) (u : Value), [Value.int .i64 x, .int .i64 y][j]? = some u → (w.alloc (Obj.cells #[.int .i64 x, .int .i64 y] t)).cell? ((⟨w.heap.size, 0, none⟩ : Addr).add j) = some u := by
  intro j u hj
  match j, hj with
  | 0, hj => simp at hj; subst hj; simp [Addr.add]
  | 1, hj => simp at hj; subst hj; simp [Addr.add]
theorem one2 (x y : Int) : ∀ u ∈ [Value.int .i64 x, .int .i64 y], u.oneCell' = true := by intro u hu; simp at hu; rcases hu with rfl | rfl <;> rfl
/-- the cells of the result and of the calendar, and what is gathered -/
def MonRel (w wr : World) (cb : Nat) (o : Int) (v : Value) (n : Nat) (xs : List Int) (p : Prop) : Prop :=
  w.heap.size < cb ∧ Below w.heap.size w wr ∧ Box3 wr w.heap.size (.int .i64 0) (.int .i64 0) (.slice none 0 0) ∧ Box3 wr cb (.int .i64 o) (.int .i64 10631) v ∧ Own2 wr (cb + 1) v n xs ∧ p
/-- the calendar's list is stored -/
theorem mon_store {w w1 w2 : World} {cb n : Nat} {o : Int} {v v' : Value} {xs : List Int} {y z : Int} {x : Obj} (hcb : w.heap.size < cb) (hb : Below w.heap.size w w1) (hR : Box3 w1 w.heap.size (.int .i64 0) (.int .i64 0) (.slice none 0 0))
    (hC : Box3 w1 cb (.int .i64 o) (.int .i64 10631) v) (hO : Own2 w1 (cb + 1) v n xs)
    (h1 : w2.ownsRow (cb + 1) 73 2 v' (n + 1) (xs.map (Value.int .i64) ++ [.int .i64 y, .int .i64 z])) (hg : (w1.alloc x).grownBy w2 v.ownBlock) :
    Box3 w2 cb (.int .i64 o) (.int .i64 10631) v ∧ Below w.heap.size w (w2.setCell ⟨cb, 2, none⟩ v') ∧ Box3 (w2.setCell ⟨cb, 2, none⟩ v') w.heap.size (.int .i64 0) (.int .i64 0) (.slice none 0 0) ∧
      Box3 (w2.setCell ⟨cb, 2, none⟩ v') cb (.int .i64 o) (.int .i64 10631) v' ∧ Own2 (w2.setCell ⟨cb, 2, none⟩ v') (cb + 1) v' (n + 1) (xs ++ [y, z]) := by
  have hs : cb + 1 ≤ w1.heap.size := hC.lt
  obtain ⟨a, b, c⟩ := span_push hb (by omega) hs hO h1 hg
  have hC2 := hC.keep b (by omega)
  have hR2 := hR.keep b (by omega)
  exact ⟨hC2, a.setCell (by simp; omega) _, hR2.setFar _ _ (by simp; omega), hC2.set2 _, ownsRow_setCell_below c (by simp) _⟩
theorem row_shape {w : World} {B : Nat} {e : TypeId} {size n : Nat} {v : Value} {xs : List Value} (h : w.ownsRow B e size v n xs) (hn : 0 < n) : ∃ b cap, v = .slice (some ⟨b, 0, none⟩) n cap := by
  rcases h.2 with ⟨_, h0⟩ | ⟨g, cap, cur, e, _⟩
  · omega
  · exact ⟨g, cap, e⟩
set_option maxHeartbeats 8000000 in
set_option maxRecDepth 100000 in
theorem imonths_good (k fr n : Int) (w : World) (hk : Isl.kB k = true) (n1 : 1 ≤ n) (n2 : n ≤ 360) (n3 : 360 % n = 0) (f1 : 1 ≤ fr) (f2 : fr ≤ 9571) (f3 : Isl.place fr = 1) :
    Calls Tryz.prog 25 #[.int .i64 k, .int .i64 fr, .int .i64 n] w fun e w' => ∃ v, e = .returned (.tuple #[.agg #[.int .i64 (Isl.first k fr), .int .i64 10631, v], .int .i64 0]) ∧ Seq2 w' v (360 / n).toNat (Isl.fs k fr n (360 / n).toNat) ∧ Below w.heap.size w w' := by
  obtain ⟨i0, hi', hz0, hz1, hz2⟩ := info_parts infoSpan
  have hkH := Lib.hid hk
  have n3H := Lib.hid n3
  have e1 : Int.tmod 360 n = 360 % n := Int.tmod_eq_emod_of_nonneg (by omega)
  have f3b : (Isl.place fr != 1) = false := by simp [f3]
  have hfb := Isl.first_bd hk f1 (show fr ≤ 9601 by omega)
  have hFb := Lib.hid (fun (y : Int) (h0 : 1 ≤ y) (h1 : y ≤ 9601) => Isl.first_bd hk h0 h1)
  have hSs := Lib.hid (fun (i : Int) (h0 : 0 ≤ i) (h1 : i < 360) => Isl.S_succ hk f1 f2 h0 h1)
  go_enter Tryz.func25, Tryz.ntmps25
  go_wp2_with (first | (go_at_call 64; refine (ivalid_any _ _).mono ?_; rintro e w' ⟨rfl, rfl⟩) | (go_at_call 67; refine (iplace_any _ _ (by omega) (by omega)).mono ?_; rintro e w' ⟨rfl, rfl⟩))
  refine (ifirst_any _ _ _ hkH.out (by omega) (by omega)).mono ?_; rintro e w1 ⟨rfl, hb1⟩
  obtain ⟨O, hO0⟩ : ∃ O, Isl.first k fr = O := ⟨_, rfl⟩
  rw [hO0] at hfb ⊢
  have hOH := Lib.hid hO0
  have hR := Lib.hid (Box3.born hb1)
  have hb := below_box hb1
  clear hb1 e1 f3b hk n3 f3 hO0
  have hcb : w.heap.size < w1.heap.size := hR.out.lt
  go_wp2_with fail
  go_loopg [10, 49] 362 (fun g t10 t49 wr => ∃ (i j : Nat) (q : Int), i ≤ 360 ∧ q = (j : Int) * n ∧ q ≤ i ∧ (i : Int) < q + n ∧ t49 = .int .i64 i ∧ t10 = .int .i64 (Isl.S k fr q) ∧ ∃ v, MonRel w wr w1.heap.size O v j (Isl.fs k fr n j) (360 - i ≤ g))
  case atStart =>
    refine ⟨0, 0, 0, by omega, by simp, by omega, by omega, rfl, val_int (Isl.S_0 _ _).symm, .slice none 0 0, hcb, ?_, hR.out.alloc _, Box3.new _ _ _ _ _, Own2.nil _ _, by omega⟩
    exact hb.alloc hb.size _
  case round =>
    clear hb hR hcb
    obtain ⟨i, j, q, hi, hq, hq1, hq2, rfl, rfl, v, hcb, hb, hR, hC, hO, hg⟩ := hrel
    have hqH := Lib.hid hq
    have hRH := Lib.hid hR
    have hCH := Lib.hid hC
    have hOwH := Lib.hid hO
    clear hR hC hO hq
    generalize hcbn : w1.heap.size = cb at *
    clear hcbn
    by_cases hlt : i < 360
    · have b1 := hFb.out (fr + (i : Int) / 12) (by omega) (by omega)
      have b2 := Isl.lenc_bd k (fr + (i : Int) / 12) ((i : Int) % 12 + 1)
      have b3 : 0 ≤ Isl.before ((i : Int) % 12 + 1) ∧ Isl.before ((i : Int) % 12 + 1) ≤ 330 := by unfold Isl.before; omega
      have hs0 := hSs.out i (by omega) (by omega)
      have hs : Isl.first k (fr + (i : Int) / 12) - O + Isl.before ((i : Int) % 12 + 1) + Isl.lenc k (fr + (i : Int) / 12) ((i : Int) % 12 + 1) = Isl.S k fr (i + 1) := by
        rw [← hs0, ← hOH.out]; unfold Isl.S; omega
      have hsH := Lib.hid hs
      clear hs hs0
      have e2 : Int.tmod ((i : Int) + 1) n = ((i : Int) + 1) % n := Int.tmod_eq_emod_of_nonneg (by omega)
      obtain ⟨F, hF⟩ : ∃ F, Isl.first k (fr + (i : Int) / 12) = F := ⟨_, rfl⟩
      obtain ⟨Bf, hBf⟩ : ∃ Bf, Isl.before ((i : Int) % 12 + 1) = Bf := ⟨_, rfl⟩
      obtain ⟨Ln, hLn⟩ : ∃ Ln, Isl.lenc k (fr + (i : Int) / 12) ((i : Int) % 12 + 1) = Ln := ⟨_, rfl⟩
      rw [hF] at b1 hsH; rw [hBf] at b3 hsH; rw [hLn] at b2 hsH
      have FH := Lib.hid (And.intro hF (And.intro hBf hLn))
      clear hF hBf hLn
      by_cases hm : (i : Int) + 1 < q + n
      · obtain ⟨m1, m2⟩ := Isl.mod_in n1 hqH.out hq1 hm
        have m3 : (((i : Int) + 1) % n == 0) = false := by rw [m1]; simpa using m2
        clear m1 m2
        go_wp2_with (first | (go_at_call 65; refine (ifirst_any _ _ _ hkH.out (by omega) (by omega)).mono ?_; rintro e w2 ⟨he, hb2⟩; rw [FH.out.1] at he; subst he) | (go_at_call 66; refine (ibefore_any _ _ (by omega) (by omega)).mono ?_; rintro e w' ⟨he, rfl⟩; rw [FH.out.2.1] at he; subst he) | (go_at_call 68; refine (ilength_any _ _ _ _).mono ?_; rintro e w3 ⟨he, hb3⟩; rw [FH.out.2.2] at he; subst he))
        go_roundg (gk - 1)
        case measure => omega
        case rel => exact ⟨i + 1, j, q, by omega, hqH.out, by omega, by omega, by go_num, rfl, v, hcb, by (repeat (first | exact Below.refl _ _ | assumption | refine below_drewN ?_ _ | refine below_alloc1 ?_ _ | refine below_then ?_ (by assumption))), (hRH.out.later hb2).later hb3, (hCH.out.later hb2).later hb3, (hOwH.out.later hb2).later hb3, by omega⟩
      · obtain ⟨m1, m2⟩ := Isl.mod_end hqH.out (show (i : Int) + 1 = q + n by omega)
        have m2H := Lib.hid m2
        have m3 : (((i : Int) + 1) % n == 0) = true := by rw [m1]; rfl
        have hj : j ≤ 360 := by
          have := hqH.out
          have h2 : (j : Int) * 1 ≤ (j : Int) * n := Int.mul_le_mul_of_nonneg_left n1 (by omega)
          omega
        clear m1 m2
        go_wp2_with (first | (go_at_call 65; refine (ifirst_any _ _ _ hkH.out (by omega) (by omega)).mono ?_; rintro e w2 ⟨he, hb2⟩; rw [FH.out.1] at he; subst he) | (go_at_call 66; refine (ibefore_any _ _ (by omega) (by omega)).mono ?_; rintro e w' ⟨he, rfl⟩; rw [FH.out.2.1] at he; subst he) | (go_at_call 68; refine (ilength_any _ _ _ _).mono ?_; rintro e w3 ⟨he, hb3⟩; rw [FH.out.2.2] at he; subst he; have d2 := ((hCH.out.later hb2).later hb3).c2) | (at_builtin; refine wpList_append_own _ rfl _ _ 32 rfl (cb + 1) 73 i0 (.agg #[.int .i64 0, .int .i64 0]) 2 16 Tryz.underlying32 hi' hz0 hz1 hz2 rfl (by decide) _ j _ rfl (World.ownsRow.alloc ((hOwH.out.later hb2).later hb3) _) ⟨w3.heap.size, 0, none⟩ 1 1 [.int .i64 (Isl.S k fr q), .int .i64 (F - O + Bf + Ln)] rfl rfl (news2 _ _ _ _) (one2 _ _) (by unfold maxLen; omega) (by omega) (by have := ((hCH.out.later hb2).later hb3).lt; simp; omega) ?_; intro v' w4 hown hgrow _; obtain ⟨b', cap', rfl⟩ := row_shape hown (by omega); have RH := Lib.hid (mon_store hcb (below_then (below_then hb hb2) hb3) ((hRH.out.later hb2).later hb3) ((hCH.out.later hb2).later hb3) ((hOwH.out.later hb2).later hb3) hown hgrow); clear hown hgrow d2; obtain ⟨lt, c0, c1, c2, g0, g1, g2⟩ := RH.out.1))
        go_roundg (gk - 1)
        case measure => omega
        case rel => exact ⟨i + 1, j + 1, (i : Int) + 1, by omega, m2H.out, by omega, by omega, by go_num, val_int hsH.out, _, hcb, RH.out.2.1, RH.out.2.2.1, RH.out.2.2.2.1, (by have h := RH.out.2.2.2.2; rw [hsH.out, hqH.out, m2H.out] at h; simpa [Isl.fs] using h), by omega⟩
    · obtain rfl : i = 360 := by omega
      obtain ⟨q1, q2⟩ := Isl.mon_end n1 n3H.out hqH.out hq1 hq2
      have ej : j = (360 / n).toNat := by omega
      have jp : 0 < j := by have := hqH.out; rcases Nat.eq_zero_or_pos j with h | h; · subst h; simp at this; omega
                            · exact h
      have ejH := Lib.hid ej
      clear q1 q2 ej
      obtain ⟨b, cap, rfl, hB, hcap, hI⟩ := hOwH.out.row jp
      have hIH := Lib.hid hI
      clear hI
      obtain ⟨lt, c0, c1, c2, g0, g1, g2⟩ := hCH.out
      obtain ⟨rt, r0, r1, r2, s0, s1, s2⟩ := hRH.out
      go_wp2_with fail
      have R3 := (((hRH.out.set0 (.int .i64 O)).set1 (.int .i64 10631)).set2 (.slice (some ⟨b, 0, none⟩) j cap))
      have O3 : Own2 _ (cb + 1) (.slice (some ⟨b, 0, none⟩) j cap) j (Isl.fs k fr n j) := ownsRow_setCell_below (ownsRow_setCell_below (ownsRow_setCell_below hOwH.out (a := ⟨w.heap.size, 0, none⟩) (by simp; omega) (.int .i64 O)) (a := ⟨w.heap.size, 1, none⟩) (by simp; omega) (.int .i64 10631)) (a := ⟨w.heap.size, 2, none⟩) (by simp; omega) (.slice (some ⟨b, 0, none⟩) j cap)
      have B3 := ((hb.setCell (p := ⟨w.heap.size, 0, none⟩) (Nat.le_refl _) (.int .i64 O)).setCell (p := ⟨w.heap.size, 1, none⟩) (Nat.le_refl _) (.int .i64 10631)).setCell (p := ⟨w.heap.size, 2, none⟩) (Nat.le_refl _) (.slice (some ⟨b, 0, none⟩) j cap)
      obtain ⟨_, z0, z1, z2, _, _, _⟩ := R3
      exact bodyPost_ret (v := .tuple #[.agg #[.int .i64 O, .int .i64 10631, .slice (some ⟨b, 0, none⟩) j cap], .int .i64 0]) (by simp [results, Tryz.results25, go_sem, z0, z1, z2]) rfl ⟨_, by rw [hOH.out], by have h := O3.shape jp; rw [ejH.out] at h ⊢; exact h, B3⟩
end Go.Proofs.YtehjjinlpilelaaGreatDoor
