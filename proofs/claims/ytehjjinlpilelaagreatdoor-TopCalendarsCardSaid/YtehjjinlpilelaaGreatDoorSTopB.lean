/- Contracts of calendarsFollow and of its closure: the next day has the next date. Conditions: both are days. -/
import Derived.Test.YtehjjinlpilelaaGreatDoorMi
import Derived.Test.YtehjjinlpilelaaGreatDoorMj
import Derived.Test.YtehjjinlpilelaaGreatDoorMt
import Derived.Test.YtehjjinlpilelaaGreatDoorSJulDate
namespace Go.Proofs.YtehjjinlpilelaaGreatDoor
open Go.ChangeShapes Go.WideShapes Go.ChangeAt Go.RowKit

set_option maxHeartbeats 2000000 in
theorem tnext_any (a b c x y z : Int) (w : World) (h : Top.nxt a b c x y z) (a1 : -100000 ≤ a) (a2 : a ≤ 100000) (c1 : -100000 ≤ c) (c2 : c ≤ 100000) :
    Calls Tryz.prog 36 #[.agg #[.int .i64 a, .int .i64 b, .int .i64 c], .agg #[.int .i64 x, .int .i64 y, .int .i64 z]] w fun e w' => e = .returned (.bool true) ∧ Below w.heap.size w w' := by
  rcases h with ⟨rfl, h2, h3⟩ | ⟨h1, rfl, rfl, rfl⟩
  · have q1 : (b != y) = true := by simpa using h2
    rcases h3 with rfl | rfl
    · go_enter Tryz.func36, Tryz.ntmps36
      go_wp2_with fail
      go_ret
      exact ⟨by simp, by (repeat' (first | (with_reducible exact Below.refl _ _) | (with_reducible assumption) | (with_reducible refine below_drewN ?_ _) | (with_reducible refine Below.drew ?_) | (with_reducible refine Below.alloc ?_ ?_ _) | (with_reducible refine Below.setCell ?_ ?_ _) | (simp; done) | (simp; omega)))⟩
    · have q2 : (a == a + 1) = false := by simp; omega
      go_enter Tryz.func36, Tryz.ntmps36
      go_wp2_with fail
      go_ret
      exact ⟨by simp, by (repeat' (first | (with_reducible exact Below.refl _ _) | (with_reducible assumption) | (with_reducible refine below_drewN ?_ _) | (with_reducible refine Below.drew ?_) | (with_reducible refine Below.alloc ?_ ?_ _) | (with_reducible refine Below.setCell ?_ ?_ _) | (simp; done) | (simp; omega)))⟩
  · have q1 : (c + 1 == 1) = false := by simpa using h1
    go_enter Tryz.func36, Tryz.ntmps36
    go_wp2_with fail
    go_ret
    exact ⟨by simp, by (repeat' (first | (with_reducible exact Below.refl _ _) | (with_reducible assumption) | (with_reducible refine below_drewN ?_ _) | (with_reducible refine Below.drew ?_) | (with_reducible refine Below.alloc ?_ ?_ _) | (with_reducible refine Below.setCell ?_ ?_ _) | (simp; done) | (simp; omega)))⟩
theorem j_bd {n : Int} (h : Cal.inB n = true) : -100000 ≤ Cal.yJ n ∧ Cal.yJ n ≤ 100000 ∧ -100000 ≤ Cal.aJ n ∧ Cal.aJ n ≤ 100000 := by
  obtain ⟨⟨h1, h2, _, _, h5, h6⟩, _⟩ := Cal.dtJ_spec h
  have := Cal.lenJ_bd (Cal.yJ n) (Cal.mJ n)
  omega
theorem h_bd {n : Int} (h : Cal.inB n = true) : -100000 ≤ Heb.dY n ∧ Heb.dY n ≤ 100000 ∧ -100000 ≤ Heb.dA n ∧ Heb.dA n ≤ 100000 := by
  obtain ⟨⟨hy, _, _, h5, h6⟩, _⟩ := Heb.dt_spec (Heb.in_r h)
  have hy' := Heb.yB_iff.1 hy
  have := Heb.len_bd (Heb.yH n) (Heb.mH n)
  simp only [Heb.dY, Heb.dA, h, if_true]
  omega
theorem i_bd {k n : Int} (hk : Isl.kB k = true) (h : Isl.rB k n = true) : -100000 ≤ Isl.yI k n ∧ Isl.yI k n ≤ 100000 ∧ -100000 ≤ Isl.aI k n ∧ Isl.aI k n ≤ 100000 := by
  obtain ⟨⟨_, hy, _, _, h5, h6⟩, _⟩ := Isl.dt_spec hk h
  have hy' := Isl.yB_iff.1 hy
  have := Isl.len_bd k (Isl.yI k n) (Isl.mI k n)
  omega
/-- the boxes of the two dates -/
def T2 (w wr : World) (p q : Nat) (a b c x y z : Int) : Prop :=
  Below w.heap.size w wr ∧ Box3 wr p (.int .i64 a) (.int .i64 b) (.int .i64 c) ∧ Box3 wr q (.int .i64 x) (.int .i64 y) (.int .i64 z) ∧ p ≠ q ∧ q ≠ p ∧ w.heap.size ≤ p ∧ w.heap.size ≤ q
theorem T2.later {w wr w1 : World} {p q : Nat} {a b c x y z : Int} (h : T2 w wr p q a b c x y z) (hb : Below wr.heap.size wr w1) : T2 w w1 p q a b c x y z :=
  ⟨below_then h.1 hb, h.2.1.later hb, h.2.2.1.later hb, h.2.2.2⟩
theorem T2.setp {w wr : World} {p q : Nat} {a b c x y z : Int} (h : T2 w wr p q a b c x y z) (a' b' c' : Int) : T2 w (((wr.setCell ⟨p, 0, none⟩ (.int .i64 a')).setCell ⟨p, 1, none⟩ (.int .i64 b')).setCell ⟨p, 2, none⟩ (.int .i64 c')) p q a' b' c' x y z := by
  obtain ⟨h1, h2, h3, h4, h5, h6, h7⟩ := h
  exact ⟨((h1.setCell h6 _).setCell h6 _).setCell h6 _, ((h2.set0 _).set1 _).set2 _, ((h3.setFar _ _ h4).setFar _ _ h4).setFar _ _ h4, h4, h5, h6, h7⟩
theorem T2.setq {w wr : World} {p q : Nat} {a b c x y z : Int} (h : T2 w wr p q a b c x y z) (x' y' z' : Int) : T2 w (((wr.setCell ⟨q, 0, none⟩ (.int .i64 x')).setCell ⟨q, 1, none⟩ (.int .i64 y')).setCell ⟨q, 2, none⟩ (.int .i64 z')) p q a b c x' y' z' := by
  obtain ⟨h1, h2, h3, h4, h5, h6, h7⟩ := h
  exact ⟨((h1.setCell h7 _).setCell h7 _).setCell h7 _, ((h2.setFar _ _ h5).setFar _ _ h5).setFar _ _ h5, ((h3.set0 _).set1 _).set2 _, h4, h5, h6, h7⟩
set_option maxHeartbeats 8000000 in
set_option maxRecDepth 100000 in
theorem tfollow_any (n k : Int) (w : World) (h : Cal.inB n = true) (h' : Cal.inB (n + 1) = true) (hk : Isl.kB k = true) (ht : Tab w) :
    Calls Tryz.prog 5 #[.int .i64 n, .int .i64 k] w fun e w' => e = .returned (.bool true) ∧ Below w.heap.size w w' := by
  have hn := Cal.inB_iff.1 h
  have hT := Lib.hid ht
  have G := Lib.hid (And.intro (Top.g_fact h).1 (And.intro (Top.g_fact h').1 (Top.g_next h h')))
  have J := Lib.hid (Top.j_next h h')
  have H := Lib.hid (And.intro (Top.h_fact h).1 (And.intro (Top.h_fact h').1 (Top.h_next h h')))
  have bG := Lib.hid (Top.g_fact h)
  have BJ := Lib.hid (And.intro (j_bd h) (And.intro (h_bd h) h))
  have hin := Lib.hid (And.intro h h')
  clear h h' ht
  go_enter Tryz.func5, Tryz.ntmps5
  go_wp2_with fail
  refine (cdate_any _ _).mono ?_; rintro e w1 ⟨rfl, hb1⟩
  rw [G.out.1]
  have hb := hb1
  clear hb1
  go_wp2_with fail
  refine (cdate_any _ _).mono ?_; rintro e w2 ⟨rfl, hb2⟩
  rw [G.out.2.1]
  have hA := Lib.hid (Box3.born hb2)
  have hs1 := hb.size
  have hs2 := hb2.size
  simp only [World.size_alloc] at hs2
  have hb := below_then hb (below_box hb2)
  clear hb2
  have T0 : Hid (T2 w (w2.alloc (Obj.cells #[.int .i64 (Cal.yG (n + 1)), .int .i64 (Cal.mG (n + 1)), .int .i64 (Cal.aG (n + 1))] 25)) w1.heap.size w2.heap.size (Cal.yG n) (Cal.mG n) (Cal.aG n) (Cal.yG (n + 1)) (Cal.mG (n + 1)) (Cal.aG (n + 1))) :=
    Lib.hid ⟨hb.alloc hb.size _, hA.out.alloc _, Box3.new _ _ _ _ _, by omega, by omega, hs1, hb.size⟩
  obtain ⟨la, a0, a1, a2, fa0, fa1, fa2⟩ := hA.out
  generalize hp : w1.heap.size = p at *
  clear hA hp
  go_wp2_with fail
  generalize hq : w2.heap.size = q at T0 ⊢
  clear la a0 a1 a2 fa0 fa1 fa2 hb hs1 hs2
  have hgb := bG.out
  refine (tnext_any _ _ _ _ _ _ _ G.out.2.2 (by omega) (by omega) (by omega) (by omega)).mono ?_; rintro e w3 ⟨rfl, hb3⟩
  have T3 := Lib.hid (T0.out.later hb3)
  clear hb3 T0 hgb hq
  obtain ⟨_, ⟨_, a0, a1, a2, f0, f1, f2⟩, ⟨_, x0, x1, x2, g0, g1, g2⟩, ne1, ne2, _, _⟩ := T3.out
  go_wp2_with fail
  refine (jdate_any _ _ (hT.out.later T3.out.1)).mono ?_; rintro e w4 ⟨rfl, hb4⟩
  rw [G.out.1]
  have T4 := Lib.hid ((T3.out).later hb4)
  clear hb4
  clear a0 a1 a2 f0 f1 f2 x0 x1 x2 g0 g1 g2 ne1 ne2
  obtain ⟨_, ⟨_, a0, a1, a2, f0, f1, f2⟩, ⟨_, x0, x1, x2, g0, g1, g2⟩, ne1, ne2, _, _⟩ := T4.out
  go_wp2_with fail
  refine (jdate_any _ _ (hT.out.later (T4.out.setp _ _ _).1)).mono ?_; rintro e w5 ⟨rfl, hb5⟩
  rw [G.out.2.1]
  have T5 := Lib.hid ((T4.out.setp (Cal.yJ n) (Cal.mJ n) (Cal.aJ n)).later hb5)
  clear hb5
  clear a0 a1 a2 f0 f1 f2 x0 x1 x2 g0 g1 g2 ne1 ne2
  obtain ⟨_, ⟨_, a0, a1, a2, f0, f1, f2⟩, ⟨_, x0, x1, x2, g0, g1, g2⟩, ne1, ne2, _, _⟩ := T5.out
  go_wp2_with fail
  have hbj := BJ.out.1
  refine (tnext_any _ _ _ _ _ _ _ J.out (by omega) (by omega) (by omega) (by omega)).mono ?_; rintro e w6 ⟨rfl, hb6⟩
  have T6 := Lib.hid ((T5.out.setq (Cal.yJ (n + 1)) (Cal.mJ (n + 1)) (Cal.aJ (n + 1))).later hb6)
  clear hb6
  clear a0 a1 a2 f0 f1 f2 x0 x1 x2 g0 g1 g2 ne1 ne2
  obtain ⟨_, ⟨_, a0, a1, a2, f0, f1, f2⟩, ⟨_, x0, x1, x2, g0, g1, g2⟩, ne1, ne2, _, _⟩ := T6.out
  go_wp2_with fail
  refine (hDate_any _ _).mono ?_; rintro e w7 ⟨rfl, hb7⟩
  rw [H.out.1]
  have T7 := Lib.hid ((T6.out).later hb7)
  clear hb7
  clear a0 a1 a2 f0 f1 f2 x0 x1 x2 g0 g1 g2 ne1 ne2
  obtain ⟨_, ⟨_, a0, a1, a2, f0, f1, f2⟩, ⟨_, x0, x1, x2, g0, g1, g2⟩, ne1, ne2, _, _⟩ := T7.out
  go_wp2_with fail
  refine (hDate_any _ _).mono ?_; rintro e w8 ⟨rfl, hb8⟩
  rw [H.out.2.1]
  have T8 := Lib.hid ((T7.out.setp (Heb.dY n) (Heb.dM n) (Heb.dA n)).later hb8)
  clear hb8
  clear a0 a1 a2 f0 f1 f2 x0 x1 x2 g0 g1 g2 ne1 ne2
  obtain ⟨_, ⟨_, a0, a1, a2, f0, f1, f2⟩, ⟨_, x0, x1, x2, g0, g1, g2⟩, ne1, ne2, _, _⟩ := T8.out
  go_wp2_with fail
  have hbh := BJ.out.2.1
  refine (tnext_any _ _ _ _ _ _ _ H.out.2.2 (by omega) (by omega) (by omega) (by omega)).mono ?_; rintro e w9 ⟨rfl, hb9⟩
  have T9 := Lib.hid ((T8.out.setq (Heb.dY (n + 1)) (Heb.dM (n + 1)) (Heb.dA (n + 1))).later hb9)
  clear hb9
  clear a0 a1 a2 f0 f1 f2 x0 x1 x2 g0 g1 g2 ne1 ne2
  obtain ⟨_, ⟨_, a0, a1, a2, f0, f1, f2⟩, ⟨_, x0, x1, x2, g0, g1, g2⟩, ne1, ne2, _, _⟩ := T9.out
  go_wp2_with fail
  by_cases q1 : Isl.rB k n = true
  · have i1 := Lib.hid (Top.i_fact hk q1).1
    by_cases q2 : Isl.rB k (n + 1) = true
    · have i2 := Lib.hid (And.intro (Top.i_fact hk q2).1 (Top.i_next hk q1 q2))
      have hbi := i_bd hk q1
      clear q1 q2
      refine (idate_any _ _ _).mono ?_; rintro e w10 ⟨rfl, hb10⟩
      rw [i1.out]
      have T10 := Lib.hid ((T9.out).later hb10)
      clear hb10
      clear a0 a1 a2 f0 f1 f2 x0 x1 x2 g0 g1 g2 ne1 ne2
      obtain ⟨_, ⟨_, a0, a1, a2, f0, f1, f2⟩, ⟨_, x0, x1, x2, g0, g1, g2⟩, ne1, ne2, _, _⟩ := T10.out
      go_wp2_with fail
      refine (idate_any _ _ _).mono ?_; rintro e w11 ⟨rfl, hb11⟩
      rw [i2.out.1]
      have T11 := Lib.hid ((T10.out.setp (Isl.yI k n) (Isl.mI k n) (Isl.aI k n)).later hb11)
      clear hb11
      clear a0 a1 a2 f0 f1 f2 x0 x1 x2 g0 g1 g2 ne1 ne2
      obtain ⟨_, ⟨_, a0, a1, a2, f0, f1, f2⟩, ⟨_, x0, x1, x2, g0, g1, g2⟩, ne1, ne2, _, _⟩ := T11.out
      go_wp2_with fail
      refine (tnext_any _ _ _ _ _ _ _ i2.out.2 (by omega) (by omega) (by omega) (by omega)).mono ?_; rintro e w12 ⟨rfl, hb12⟩
      have T12 := Lib.hid ((T11.out.setq (Isl.yI k (n + 1)) (Isl.mI k (n + 1)) (Isl.aI k (n + 1))).later hb12)
      clear hb12
      clear a0 a1 a2 f0 f1 f2 x0 x1 x2 g0 g1 g2 ne1 ne2
      obtain ⟨_, ⟨_, a0, a1, a2, f0, f1, f2⟩, ⟨_, x0, x1, x2, g0, g1, g2⟩, ne1, ne2, _, _⟩ := T12.out
      go_wp2_with fail
      go_ret
      exact ⟨rfl, T12.out.1⟩
    · have i2 := Lib.hid (Top.i_none hk (Bool.eq_false_iff.2 q2))
      clear q1 q2
      refine (idate_any _ _ _).mono ?_; rintro e w10 ⟨rfl, hb10⟩
      rw [i1.out]
      have T10 := Lib.hid ((T9.out).later hb10)
      clear hb10
      clear a0 a1 a2 f0 f1 f2 x0 x1 x2 g0 g1 g2 ne1 ne2
      obtain ⟨_, ⟨_, a0, a1, a2, f0, f1, f2⟩, ⟨_, x0, x1, x2, g0, g1, g2⟩, ne1, ne2, _, _⟩ := T10.out
      go_wp2_with fail
      refine (idate_any _ _ _).mono ?_; rintro e w11 ⟨rfl, hb11⟩
      rw [i2.out]
      have T11 := Lib.hid ((T10.out.setp (Isl.yI k n) (Isl.mI k n) (Isl.aI k n)).later hb11)
      clear hb11
      clear a0 a1 a2 f0 f1 f2 x0 x1 x2 g0 g1 g2 ne1 ne2
      obtain ⟨_, ⟨_, a0, a1, a2, f0, f1, f2⟩, ⟨_, x0, x1, x2, g0, g1, g2⟩, ne1, ne2, _, _⟩ := T11.out
      go_wp2_with fail
      go_ret
      exact ⟨rfl, (T11.out.setq _ _ _).1⟩
  · have i1 := Lib.hid (Top.i_none hk (Bool.eq_false_iff.2 q1))
    clear q1
    refine (idate_any _ _ _).mono ?_; rintro e w10 ⟨rfl, hb10⟩
    rw [i1.out]
    have T10 := Lib.hid ((T9.out).later hb10)
    clear hb10
    clear a0 a1 a2 f0 f1 f2 x0 x1 x2 g0 g1 g2 ne1 ne2
    obtain ⟨_, ⟨_, a0, a1, a2, f0, f1, f2⟩, ⟨_, x0, x1, x2, g0, g1, g2⟩, ne1, ne2, _, _⟩ := T10.out
    go_wp2_with fail
    refine (idate_any _ _ _).mono ?_; rintro e w11 ⟨rfl, hb11⟩
    have T11 := Lib.hid ((T10.out.setp (Isl.yI k n) (Isl.mI k n) (Isl.aI k n)).later hb11)
    clear hb11
    clear a0 a1 a2 f0 f1 f2 x0 x1 x2 g0 g1 g2 ne1 ne2
    obtain ⟨_, ⟨_, a0, a1, a2, f0, f1, f2⟩, ⟨_, x0, x1, x2, g0, g1, g2⟩, ne1, ne2, _, _⟩ := T11.out
    go_wp2_with fail
    go_ret
    exact ⟨rfl, (T11.out.setq _ _ _).1⟩
end Go.Proofs.YtehjjinlpilelaaGreatDoor
