/- The walk of FeastEdges. Condition: the table of lengths. -/
import Derived.Test.YtaclggocacafaaaDoorFeaH
import Derived.BigQuiet
namespace Fea
open Cal
theorem mv0 {y : Int} (hy : yB y = true) : mvB y 0 = true ∧ mvN y 0 = east y ∧ inB (east y) = true := by
  obtain ⟨y1, y2⟩ := yB_iff.1 hy
  obtain ⟨_, _, i3, i4⟩ := east_in y1 y2
  have hi : inB (east y) = true := inB_iff.2 ⟨by omega, by omega⟩
  have h : mvB y 0 = true := by simp [mvB, hy, hi]
  exact ⟨h, by simp [mvN, h], hi⟩
theorem fits0 {m d y : Int} (h : fits 0 m d y = true) : yB y = true ∧ inB (east y) = true ∧ mG (east y) = m ∧ aG (east y) = d := by
  simp only [fits, Bool.and_eq_true, beq_iff_eq] at h
  obtain ⟨h1, h2, h3⟩ := h
  have hy : yB y = true := by simp only [mvB, Bool.and_eq_true] at h1; exact h1.1
  obtain ⟨_, e, hi⟩ := mv0 hy
  rw [e] at h2 h3
  exact ⟨hy, hi, h2, h3⟩
theorem fits_self {y : Int} (hy : yB y = true) : fits 0 (mG (east y)) (aG (east y)) y = true := by
  obtain ⟨h1, h2, _⟩ := mv0 hy
  simp [fits, h1, h2]
theorem edge_get {m d y : Int} {n i : Nat} (h : i < (fl 0 m d y n).length) : ∃ z, (fl 0 m d y n).getD i 0 = z ∧ y ≤ z ∧ z ≤ y + n - 1 ∧ yB z = true ∧ inB (east z) = true ∧ mG (east z) = m ∧ aG (east z) = d := by
  obtain ⟨j, a, b, c⟩ := fl_get 0 m d y n i h
  obtain ⟨c1, c2, c3, c4⟩ := fits0 c
  exact ⟨y + j, b, by omega, by omega, c1, c2, c3, c4⟩
theorem edge_next {m d y : Int} {n i : Nat} (h : i + 1 < (fl 0 m d y n).length) : ∃ zp z, (fl 0 m d y n).getD i 0 = zp ∧ (fl 0 m d y n).getD (i + 1) 0 = z ∧ zp < z ∧ y ≤ z ∧ z ≤ y + n - 1 ∧ yB z = true ∧ inB (east z) = true ∧ mG (east z) = m ∧ aG (east z) = d := by
  obtain ⟨z, a, b, c, r⟩ := edge_get h
  have := fl_up 0 m d y n i h
  exact ⟨_, z, rfl, a, by rw [← a]; exact this, b, c, r⟩
theorem edge_first {y : Int} {n : Nat} (hn : 0 < n) (hy : yB y = true) : 0 < (fl 0 (mG (east y)) (aG (east y)) y n).length ∧ (fl 0 (mG (east y)) (aG (east y)) y n).getD 0 0 = y := by
  have h := fl_at 0 (mG (east y)) (aG (east y)) y n 0 hn (by simpa using fits_self hy)
  simpa [fl] using h
end Fea
namespace Go.Proofs.YtaclggocacafaaaDoor
open Go.ChangeShapes Go.WideShapes Go.ChangeAt Go.RowKit

def EdRel (w wr : World) (b : Nat) (L : List Int) (x : Nat) (a0 a1 a2 : Int) (p : Prop) : Prop := Below w.heap.size w wr ∧ Ints wr b L ∧ Box3 wr x (.int .i64 a0) (.int .i64 a1) (.int .i64 a2) ∧ p
set_option maxHeartbeats 2000000 in
set_option maxRecDepth 100000 in
theorem fedges_early (y wd : Int) (w : World) (ht : Tab w) (ways : Fea.yB y = false ∨ (Fea.yB y = true ∧ wd < 0) ∨ (Fea.yB y = true ∧ 300 < wd)) :
    Calls Tryd.prog 10 #[.int .i64 y, .int .i64 wd] w fun e w' => e = .returned (.bool true) ∧ Below w.heap.size w w' := by
  rcases ways with hy | ⟨hy, hq⟩ | ⟨hy, hq⟩
  · obtain ⟨a1, a2, _⟩ := Fea.yB_false hy
    have aH := Lib.hid (And.intro a1 a2)
    clear a1 a2 hy
    go_enter Tryd.func10, Tryd.ntmps10
    go_wp2_with fail
    refine (awake_any _ ht).mono ?_; rintro e w1 ⟨rfl, hb1⟩
    go_wp2_with fail
    refine (feaster_any _ _).mono ?_; rintro e w2 ⟨rfl, hb2⟩
    rw [aH.out.1, aH.out.2]
    go_wp2_with fail
    go_ret
    exact ⟨rfl, by (repeat (first | exact Below.refl _ _ | assumption | refine below_drewN ?_ _ | refine below_alloc1 ?_ _ | refine below_then ?_ (by assumption)))⟩
  all_goals
    obtain ⟨a1, a2, _⟩ := Fea.yB_true hy
    have aH := Lib.hid (And.intro a1 a2)
    clear a1 a2 hy
    go_enter Tryd.func10, Tryd.ntmps10
    go_wp2_with fail
    refine (awake_any _ ht).mono ?_; rintro e w1 ⟨rfl, hb1⟩
    go_wp2_with fail
    refine (feaster_any _ _).mono ?_; rintro e w2 ⟨rfl, hb2⟩
    rw [aH.out.1, aH.out.2]
    go_wp2_with fail
    go_ret
    exact ⟨rfl, by (repeat (first | exact Below.refl _ _ | assumption | refine below_drewN ?_ _ | refine below_alloc1 ?_ _ | refine below_then ?_ (by assumption)))⟩
set_option maxHeartbeats 4000000 in
set_option maxRecDepth 100000 in
theorem fedges_law (y wd hi : Int) (w : World) (ht : Tab w) (hy : Fea.yB y = true) (wd0 : 0 ≤ wd) (wd3 : wd ≤ 300) (hhi : (y + wd ≤ 9999 ∧ hi = y + wd) ∨ (9999 < y + wd ∧ hi = 9999)) :
    Calls Tryd.prog 10 #[.int .i64 y, .int .i64 wd] w fun e w' => e = .returned (.bool true) ∧ Below w.heap.size w w' := by
  obtain ⟨y1, y2⟩ := Fea.yB_iff.1 hy
  obtain ⟨a1, a2, _⟩ := Fea.yB_true hy
  obtain ⟨_, _, hie⟩ := Fea.mv0 hy
  have hE : Cal.inE (Fea.east y) = 0 := by simp [Cal.inE, hie]
  have aH := Lib.hid (And.intro a1 (And.intro a2 hE))
  have hF := Lib.hid (fun z (h : Fea.yB z = true) => And.intro (Fea.yB_true h).1 (Fea.yB_true h).2.1)
  have hY := Lib.hid (fun w => fyears_any 0 (Cal.mG (Fea.east y)) (Cal.aG (Fea.east y)) y (y + wd) y hi w (Or.inr ⟨y1, rfl⟩) hhi (by omega) (by omega))
  have h1st := Fea.edge_first (n := (hi + 1 - y).toNat) (by omega) hy
  have hLen := Fea.fl_len 0 (Cal.mG (Fea.east y)) (Cal.aG (Fea.east y)) y (hi + 1 - y).toNat
  have hN := Lib.hid (fun i => Fea.edge_next (m := Cal.mG (Fea.east y)) (d := Cal.aG (Fea.east y)) (y := y) (n := (hi + 1 - y).toNat) (i := i))
  generalize hL : Fea.fl 0 (Cal.mG (Fea.east y)) (Cal.aG (Fea.east y)) y (hi + 1 - y).toNat = L at *
  have htop : y + ((hi + 1 - y).toNat : Int) - 1 ≤ y + wd := by omega
  obtain ⟨n, hn⟩ : ∃ n, n = L.length := ⟨_, rfl⟩
  have hnH := Lib.hid hn
  have n1 : 0 < n := by rw [hn]; exact h1st.1
  have n3 : n ≤ 301 := by rw [hn]; omega
  have hfH := Lib.hid h1st
  have htH := Lib.hid htop
  clear hn h1st hLen hL htop a1 a2 hE hie hy
  go_enter Tryd.func10, Tryd.ntmps10
  go_wp2_with fail
  refine (awake_any _ ht).mono ?_; rintro e w1 ⟨rfl, hb1⟩
  go_wp2_with fail
  refine (feaster_any _ _).mono ?_; rintro e w2 ⟨rfl, hb2⟩
  rw [aH.out.1, aH.out.2.1]
  go_wp2_with fail
  refine (cdate_any _ _).mono ?_; rintro e w3 ⟨rfl, hb3⟩
  rw [aH.out.2.2]
  go_wp2_with fail
  refine (hY.out _).mono ?_; rintro e w4 ⟨v, rfl, hO, hb4⟩
  have hX := (Box3.new w3 (.int .i64 (Cal.yG (Fea.east y))) (.int .i64 (Cal.mG (Fea.east y))) (.int .i64 (Cal.aG (Fea.east y))) 30).later hb4
  have hb : Below w.heap.size w w4 := by (repeat (first | exact Below.refl _ _ | assumption | refine below_drewN ?_ _ | refine below_alloc1 ?_ _ | refine below_then ?_ (by assumption)))
  clear hb1 hb2 hb3 hb4
  have hsh := hO.shape
  clear hO
  rcases hsh with ⟨hx, rfl⟩ | ⟨hx, b, cap, rfl, hI⟩
  · exfalso; have := hnH.out; rw [hx] at this; simp at this; omega
  rw [← hnH.out]
  have c0 := ints_get hI hfH.out.1 hfH.out.2
  generalize hxb : w3.heap.size = xb at *
  clear hxb hx
  have hIH := Lib.hid hI
  have hXH := Lib.hid hX
  clear hI hX
  have hn0 : ((n : Int) == 0) = false := by simp; omega
  go_wp2_with fail
  go_loopg [10] 303 (fun g t10 wr => ∃ j : Nat, j + 1 ≤ n ∧ t10 = .int .i64 (j + 1) ∧ EdRel w wr b L xb (Cal.yG (Fea.east y)) (Cal.mG (Fea.east y)) (Cal.aG (Fea.east y)) (n - j ≤ g))
  case atStart => exact ⟨0, by omega, val_int (by omega), hb, hIH.out, hXH.out, by omega⟩
  case round =>
    clear hb c0 hIH hXH
    obtain ⟨j, hj, rfl, hb, hI, hX, hg⟩ := hrel
    have hIH := Lib.hid hI
    have hXH := Lib.hid hX
    clear hI hX
    by_cases hlt : j + 1 < n
    · obtain ⟨zp, z, g1, g2, g3, g4, g5, g6, g7, g8, g9⟩ := hN.out j (by rw [← hnH.out]; exact hlt)
      have gE : Cal.inE (Fea.east z) = 0 := by simp [Cal.inE, g7]
      have zH := Lib.hid (And.intro (hF.out z g6) (And.intro gE (And.intro g8 g9)))
      have hc := ints_get hIH.out (by rw [← hnH.out]; exact hlt) g2
      have gH := Lib.hid (And.intro g1 g2)
      have g5' : z ≤ y + wd := by have := htH.out; omega
      obtain ⟨z1, z2⟩ := Fea.yB_iff.1 g6
      clear g1 g2 g6 g7 g8 g9 gE g5
      go_wp2_with fail
      refine (feaster_any _ _).mono ?_; rintro e w5 ⟨rfl, hb5⟩
      rw [zH.out.1.1, zH.out.1.2]
      clear hc
      go_wp2_with fail
      refine (cdate_any _ _).mono ?_; rintro e w6 ⟨rfl, hb6⟩
      rw [zH.out.2.1, zH.out.2.2.1, zH.out.2.2.2]
      have hX6 := ((hXH.out.later hb5).later hb6)
      have hI6 := ((hIH.out.later hb5).later hb6)
      have d1 := fun o => (hX6.alloc o).c1
      have d2 := fun o => (hX6.alloc o).c2
      have e1 := fun o => ints_get (hI6.later (below_alloc1 (Below.refl _ _) o)) (by rw [← hnH.out]; exact hlt) gH.out.2
      have e2 := fun o => ints_get (hI6.later (below_alloc1 (Below.refl _ _) o)) (by rw [← hnH.out]; omega) gH.out.1
      have q1 : decide (z ≤ zp) = false := by simp; omega
      have q2 : IntKind.i64.wrap ((j : Int) + 1 - 1) = j := by rw [show (j : Int) + 1 - 1 = j by omega]; exact IntWalk.i64_in _ (by omega)
      have q3 : IntKind.i64.wrap (y + wd) = y + wd := IntWalk.i64_in _ (by omega)
      have q4 : decide (z > y + wd) = false := by simp; omega
      go_wp2_with fail
      go_region
      all_goals (try go_wp2_with fail)

      go_roundg (gk - 1)
      case measure => omega
      case rel => exact ⟨j + 1, by omega, by go_num, by (repeat (first | exact Below.refl _ _ | assumption | refine below_drewN ?_ _ | refine below_alloc1 ?_ _ | refine below_then ?_ (by assumption))), Ints.drewN (hI6.later (below_alloc1 (Below.refl _ _) _)) 1, Box3.drewN (hX6.alloc _) 1, by omega⟩
    · have hee : j + 1 = n := by omega
      go_wp2_with fail
      go_ret
      exact ⟨by simp, hb⟩
theorem wFeastEdges (y wd : Int) (w : World) (_h1 : -9223372036854775808 ≤ y ∧ y ≤ 9223372036854775807) (_h2 : -9223372036854775808 ≤ wd ∧ wd ≤ 9223372036854775807) (ht : Tab w) :
    Calls Tryd.prog 10 #[.int .i64 y, .int .i64 wd] w fun e w' => e = .returned (.bool true) ∧ Below w.heap.size w w' := by
  cases hy : Fea.yB y
  · exact fedges_early y wd w ht (Or.inl hy)
  · by_cases h0 : wd < 0
    · exact fedges_early y wd w ht (Or.inr (Or.inl ⟨hy, h0⟩))
    · by_cases h3 : 300 < wd
      · exact fedges_early y wd w ht (Or.inr (Or.inr ⟨hy, h3⟩))
      · by_cases h9 : y + wd ≤ 9999
        · exact fedges_law y wd (y + wd) w ht hy (by omega) (by omega) (Or.inl ⟨h9, rfl⟩)
        · exact fedges_law y wd 9999 w ht hy (by omega) (by omega) (Or.inr ⟨by omega, rfl⟩)
end Go.Proofs.YtaclggocacafaaaDoor
