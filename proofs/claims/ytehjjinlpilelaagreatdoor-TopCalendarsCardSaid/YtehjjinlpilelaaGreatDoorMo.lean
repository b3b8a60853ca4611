/- Contracts of granule.Of and granule.row. Conditions: a calendar of granules that repeats, and sizes. -/
import Derived.Deep.RegionWith
import Derived.Test.YtehjjinlpilelaaGreatDoorMm
namespace Go.Proofs.YtehjjinlpilelaaGreatDoor
open Go.ChangeShapes Go.WideShapes Go.ChangeAt Go.RowKit

/-- behind the append of a span: what lies below the base stands, and the list is longer -/
theorem gspan_push {w w1 w2 : World} {B n : Nat} {v v' : Value} {xs : List Int} {y z : Int} {w1a : World} (ha : Below w1.heap.size w1 w1a) (hb : Below w.heap.size w w1) (hB : w.heap.size ≤ B) (hB1 : B ≤ w1.heap.size) (hO : Own2 w1 B v n xs)
    (h1 : w2.ownsRow B 73 2 v' (n + 1) (xs.map (Value.int .i64) ++ [.int .i64 y, .int .i64 z])) (hg : w1a.grownBy w2 v.ownBlock) :
    Below w.heap.size w w2 ∧ Below B w1 w2 ∧ Own2 w2 B v' (n + 1) (xs ++ [y, z]) := by
  have hr : ∀ q, v.ownBlock = some q → B ≤ q := fun q hq => (World.ownsRow.lt hO q hq).1
  have hA : Below B w1 w1a := ha.mono hB1
  have hBw : Below B w1 w2 := hA.trans ((Below.refl _ _).grown hg (Nat.le_trans hB1 ha.size) hr)
  refine ⟨hb.trans (hBw.mono hB), hBw, ?_⟩
  unfold Own2; simpa using h1
theorem gnews2 (w : World) (x y : Int) (t : TypeId) : ∀ (j : Nat) (u : Value), [Value.int .i64 x, .int .i64 y][j]? = some u → (w.alloc (Obj.cells #[.int .i64 x, .int .i64 y] t)).cell? ((⟨w.heap.size, 0, none⟩ : Addr).add j) = some u := by
  intro j u hj
  match j, hj with
  | 0, hj => simp at hj; subst hj; simp [Addr.add]
  | 1, hj => simp at hj; subst hj; simp [Addr.add]
theorem gone2 (x y : Int) : ∀ u ∈ [Value.int .i64 x, .int .i64 y], u.oneCell' = true := by intro u hu; simp at hu; rcases hu with rfl | rfl <;> rfl
theorem grow_shape {w : World} {B : Nat} {e : TypeId} {size n : Nat} {v : Value} {xs : List Value} (h : w.ownsRow B e size v n xs) (hn : 0 < n) : ∃ b cap, v = .slice (some ⟨b, 0, none⟩) n cap := by
  rcases h.2 with ⟨_, h0⟩ | ⟨g, cap, cur, e, _⟩
  · omega
  · exact ⟨g, cap, e⟩
theorem Ints.setFar {w : World} {b : Nat} {xs : List Int} (h : Ints w b xs) (a : Addr) (v : Value) (hne : a.block ≠ b) : Ints (w.setCell a v) b xs :=
  ⟨by simpa using h.1, fun i hi => by rw [World.cell?_setCell_other _ _ _ _ (fun e => hne (by rw [e]))]; exact h.2 i hi⟩
/-- the cells of the result and of the calendar, and what is gathered -/
def OfRelG (w wr : World) (cb : Nat) (O P : Int) (b : Nat) (ys : List Int) (v : Value) (j : Nat) (xs : List Int) (p : Prop) : Prop :=
  w.heap.size < cb ∧ Below w.heap.size w wr ∧ Box3 wr w.heap.size (.int .i64 0) (.int .i64 0) (.slice none 0 0) ∧ Box3 wr cb (.int .i64 O) (.int .i64 P) v ∧ Own2 wr (cb + 1) v j xs ∧ Ints wr b ys ∧ b < w.heap.size ∧ p
/-- the calendar's list is stored -/
theorem of_store {w w1 w1a w2 : World} {cb b j : Nat} {ys : List Int} {O P : Int} {v v' : Value} {xs : List Int} {y z : Int} (hcb : w.heap.size < cb) (ha : Below w1.heap.size w1 w1a) (hb : Below w.heap.size w w1) (hR : Box3 w1 w.heap.size (.int .i64 0) (.int .i64 0) (.slice none 0 0))
    (hC : Box3 w1 cb (.int .i64 O) (.int .i64 P) v) (hO : Own2 w1 (cb + 1) v j xs) (hI : Ints w1 b ys) (hlt : b < w.heap.size)
    (h1 : w2.ownsRow (cb + 1) 73 2 v' (j + 1) (xs.map (Value.int .i64) ++ [.int .i64 y, .int .i64 z])) (hg : w1a.grownBy w2 v.ownBlock) :
    Box3 w2 cb (.int .i64 O) (.int .i64 P) v ∧ Below w.heap.size w (w2.setCell ⟨cb, 2, none⟩ v') ∧ Box3 (w2.setCell ⟨cb, 2, none⟩ v') w.heap.size (.int .i64 0) (.int .i64 0) (.slice none 0 0) ∧
      Box3 (w2.setCell ⟨cb, 2, none⟩ v') cb (.int .i64 O) (.int .i64 P) v' ∧ Own2 (w2.setCell ⟨cb, 2, none⟩ v') (cb + 1) v' (j + 1) (xs ++ [y, z]) ∧ Ints (w2.setCell ⟨cb, 2, none⟩ v') b ys := by
  have hs : cb + 1 ≤ w1.heap.size := hC.lt
  obtain ⟨a, bb, c⟩ := gspan_push ha hb (by omega) hs hO h1 hg
  have hC2 := hC.keep bb (by omega)
  have hR2 := hR.keep bb (by omega)
  have hA : Below w.heap.size w (w2.setCell ⟨cb, 2, none⟩ v') := a.setCell (by simp <;> omega) _
  refine ⟨hC2, hA, hR2.setFar _ _ (by simp <;> omega), hC2.set2 _, ownsRow_setCell_below c (by simp) _, ?_⟩
  refine ⟨Nat.lt_of_lt_of_le hlt hA.size, fun i hi => ?_⟩
  have h0 := hI.2 i hi
  have h2 := keep1 bb (by omega) h0
  rw [World.cell?_setCell_other _ _ _ _ (by simp <;> omega)]; exact h2
theorem gnews2' (w : World) (o : Obj) (x y : Int) (t : TypeId) : ∀ (j : Nat) (u : Value), [Value.int .i64 x, .int .i64 y][j]? = some u → ((w.alloc o).alloc (Obj.cells #[.int .i64 x, .int .i64 y] t)).cell? ((⟨w.heap.size + 1, 0, none⟩ : Addr).add j) = some u := by
  have h := gnews2 (w.alloc o) x y t
  simpa using h
set_option maxHeartbeats 8000000 in
set_option maxRecDepth 100000 in
theorem gof_any (f : Int → Int) (n : Nat) (P O : Int) (b cap : Nat) (w : World) (g : Gra.Gr f n P) (hI : Ints w b (Gra.sp f n)) (o1 : -2199023255552 ≤ O) (o2 : O ≤ 2199023255552) :
    Calls Tryz.prog 85 #[.int .i64 O, .int .i64 P, .slice (some ⟨b, 0, none⟩) n cap] w fun e w' => ∃ b', e = .returned (.tuple #[.agg #[.int .i64 O, .int .i64 P, .slice (some ⟨b', 0, none⟩) n n], .int .i64 0]) ∧ Ints w' b' (Gra.sp f n) ∧ w.heap.size ≤ b' ∧ Below w.heap.size w w' := by
  obtain ⟨i0, hi', hz0, hz1, hz2⟩ := info_parts infoSpan
  have n1 := g.n1
  have n2 := g.n2
  have p1 := g.p1
  have p2 := g.p2
  obtain ⟨m, rfl⟩ : ∃ m, n = m + 1 := ⟨n - 1, by omega⟩
  have hIw := hI.alloc (Obj.cells #[.int .i64 0, .int .i64 0, .slice none 0 0] 34)
  obtain ⟨c1, _⟩ := row_at hIw (show 0 < m + 1 by omega)
  obtain ⟨_, c2⟩ := row_at hIw (show m < m + 1 by omega)
  rw [show ((0 : Nat) : Int) = 0 by rfl, g.zero] at c1
  rw [show ((m : Nat) : Int) + 1 = ((m + 1 : Nat) : Int) by omega, g.end] at c2
  have hlt := hI.1
  have gH := Lib.hid g
  have hIH := Lib.hid hIw
  have hR0 := Lib.hid (Box3.new w (.int .i64 0) (.int .i64 0) (.slice none 0 0) 34)
  clear g hI hIw
  have q1 : decide (P < 1) = false := decide_eq_false (by omega)
  have q2 : decide ((12622780800 : Int) < P) = false := decide_eq_false (by omega)
  have q3 : decide ((5000 : Int) < (m : Int) + 1) = false := decide_eq_false (by omega)
  have q5 : IntKind.i64.wrap ((m : Int) + 1 - 1) = m := by rw [show (m : Int) + 1 - 1 = m by omega]; exact IntWalk.i64_in _ (by omega)
  have q6 : IntKind.i64.wrap (m : Int) = m := IntWalk.i64_in _ (by omega)
  have q7 : 0 ≤ (m : Int) ∧ (m : Int) < (m : Int) + 1 := by omega
  have q8 : IntKind.i64.wrap (P - 0) = P := by rw [Int.sub_zero]; exact IntWalk.i64_in _ (by omega)
  have q9 : IntKind.i64.wrap P = P := IntWalk.i64_in _ (by omega)
  go_enter Tryz.func85, Tryz.ntmps85
  go_wp2_with fail
  go_region_held3 (fun w' => w'.cell? ⟨b, 0, none⟩ = some (.int .i64 0) ∧ w'.cell? ⟨b, m * 2 + 1, none⟩ = some (.int .i64 P))
    (first | go_keep | (go_split_ands; exact ⟨keep1 hb9 (by simp <;> omega) (by assumption), keep1 hb9 (by simp <;> omega) (by assumption)⟩))
    (first | (go_at_call 87; refine (gascend_any f _ P b cap _ gH.out (hIH.out.drew)).mono ?_; rintro e w9 ⟨rfl, hb9⟩))
  rename_i hS
  obtain ⟨z0, _⟩ := hS
  have hb := below_box (below_undrewG hb9)
  have hR := Lib.hid ((hR0.out.drewN 1).later hb9)
  have hJ := Lib.hid (hIH.out.drew.later hb9)
  clear hb9
  go_wp2_with fail
  refine (gline_any _ _ (by omega) (by omega)).mono ?_; rintro e w2 ⟨rfl, rfl⟩
  go_wp2_with fail
  refine (ghalf_any _ _ (by omega) (by omega)).mono ?_; rintro e w2 ⟨rfl, rfl⟩
  go_wp2_with fail
  have hcb : w.heap.size < w9.heap.size := hR.out.lt
  go_loopg [67] 4802 (fun g t67 wr => ∃ j : Nat, j ≤ m + 1 ∧ t67 = .int .i64 j ∧ ∃ v, OfRelG w wr w9.heap.size O P b (Gra.sp f (m + 1)) v j (Gra.sp f j) (m + 1 - j ≤ g))
  case atStart => exact ⟨0, by omega, rfl, .slice none 0 0, hcb, hb.alloc hb.size _, hR.out.alloc _, Box3.new _ _ _ _ _, Own2.nil _ _, hJ.out.alloc _, hlt, by omega⟩
  case round =>
    clear hb hR hcb hJ z0 hlt c1 c2
    obtain ⟨j, hj, rfl, v, hcb, hb, hR, hC, hO, hI, hlt, hg⟩ := hrel
    have hRH := Lib.hid hR
    have hCH := Lib.hid hC
    have hOH := Lib.hid hO
    have hIr := Lib.hid hI
    generalize hcbn : w9.heap.size = cb at *
    clear hR hC hO hI hcbn
    by_cases hjn : j < m + 1
    · obtain ⟨l1, l2⟩ := row_at hIr.out hjn
      have b1 := gH.out.bd (i := j) (by omega) (by omega)
      have b2 := gH.out.bd (i := j + 1) (by omega) (by omega)
      obtain ⟨A, hA⟩ : ∃ A, f (j : Int) = A := ⟨_, rfl⟩
      obtain ⟨B, hB⟩ : ∃ B, f ((j : Int) + 1) = B := ⟨_, rfl⟩
      rw [hA] at l1 b1
      rw [hB] at l2 b2
      have fH := Lib.hid (And.intro hA hB)
      clear hA hB
      have hs : cb + 1 ≤ wr.heap.size := hCH.out.lt
      obtain ⟨d, d0, d1, d2, _, _, _⟩ := hCH.out
      go_wp2_with (at_builtin; refine wpList_append_own _ rfl _ _ 32 rfl (cb + 1) 73 i0 (.agg #[.int .i64 0, .int .i64 0]) 2 16 Tryz.underlying32 hi' hz0 hz1 hz2 rfl (by decide) _ j _ rfl (World.ownsRow.alloc (World.ownsRow.alloc hOH.out _) _) ⟨wr.heap.size + 1, 0, none⟩ 1 1 [.int .i64 A, .int .i64 B] rfl rfl (gnews2' _ _ _ _ _) (gone2 _ _) (by unfold maxLen; omega) (by omega) (by simp; omega) ?_; intro v' w4 hown hgrow _; obtain ⟨b', cap', rfl⟩ := grow_shape hown (by omega); have RH := Lib.hid (of_store hcb (((Below.refl _ _).alloc (Nat.le_refl _) _).alloc (by simp) _) hb hRH.out hCH.out hOH.out hIr.out hlt hown hgrow); clear hown hgrow d d0 d1 d2; obtain ⟨d, d0, d1, d2, f0, f1, f2⟩ := RH.out.1)
      go_roundg (gk - 1)
      case measure => omega
      case rel => exact ⟨j + 1, by omega, by go_num, _, hcb, RH.out.2.1, RH.out.2.2.1, RH.out.2.2.2.1, (by have h := RH.out.2.2.2.2.1; rw [← fH.out.1, ← fH.out.2] at h; exact h), RH.out.2.2.2.2.2, hlt, by omega⟩
    · obtain rfl : j = m + 1 := by omega
      obtain ⟨b', cap', rfl, hB, hcap, hI⟩ := hOH.out.row (by omega)
      have hIH' := Lib.hid hI
      obtain ⟨d, d0, d1, d2, f0, f1, f2⟩ := hCH.out
      have hbl := hI.1
      clear hI
      go_wp2_with fail
      refine (gleast_any f (m + 1) P b' cap' _ gH.out hIH'.out).mono ?_; rintro e w5 ⟨rfl, hb5⟩
      have hR5 := Lib.hid (hRH.out.later hb5)
      have hC5 := Lib.hid (hCH.out.later hb5)
      have hI5 := Lib.hid (hIH'.out.later hb5)
      have hb := below_then hb hb5
      clear hb5 d d0 d1 d2 f0 f1 f2
      obtain ⟨d, d0, d1, d2, f0, f1, f2⟩ := hC5.out
      have t1 : Int.tdiv ((m : Int) + 1) ((m : Int) + 1) = 1 := Int.tdiv_self (by omega)
      have t2 : P.tdiv 1 = P := Int.tdiv_one P
      have t3 : (((m : Int) + 1) == 0) = false := by simp; omega
      obtain ⟨r, r0, r1, r2, s0, s1, s2⟩ := hR5.out
      have ne1 : w.heap.size ≠ cb := by omega
      have ne2 : cb ≠ w.heap.size := by omega
      go_wp2_with fail
      go_region
      all_goals (try go_wp2_with fail)
      have Z0 := ((hR5.out.setFar ⟨cb, 1, none⟩ (.int .i64 P) ne2).setFar ⟨cb, 2, none⟩ (.slice (some ⟨b', 0, none⟩) (m + 1) (m + 1)) ne2).set0 (.int .i64 O)
      have Z1 := Z0.set1 (.int .i64 P)
      have Z2 := Z1.set2 (.slice (some ⟨b', 0, none⟩) (m + 1) (m + 1))
      have z0 := Z0.c0
      have z1 := Z1.c1
      have z2 := Z2.c2
      have hs5 := hb.size
      have ne3 : cb ≠ b' := by omega
      have ne4 : w.heap.size ≠ b' := by omega
      refine bodyPost_ret (v := .tuple #[.agg #[.int .i64 O, .int .i64 P, .slice (some ⟨b', 0, none⟩) (m + 1) (m + 1)], .int .i64 0]) (by simp [results, Tryz.results85, go_sem, z0, z1, z2]) rfl ⟨b', rfl, ?_, by omega, ?_⟩
      · exact (((((hI5.out.setFar _ _ ne3).setFar _ _ ne3).setFar _ _ ne4).setFar _ _ ne4).setFar _ _ ne4).drewN 1
      · (repeat' (first | (with_reducible exact Below.refl _ _) | (with_reducible assumption) | (with_reducible refine below_drewN ?_ _) | (with_reducible refine Below.drew ?_) | (with_reducible refine Below.alloc ?_ ?_ _) | (with_reducible refine Below.setCell ?_ ?_ _) | (simp; done) | (simp; omega)))
end Go.Proofs.YtehjjinlpilelaaGreatDoor
namespace Gra
/-- the lengths of the first n granules -/
def lens (f : Int → Int) : Nat → List Int
  | 0 => []
  | j + 1 => lens f j ++ [f (j + 1) - f j]
theorem lens_len (f : Int → Int) : ∀ j, (lens f j).length = j
  | 0 => rfl
  | j + 1 => by simp [lens, lens_len f j]
theorem lens_get (f : Int → Int) : ∀ (j i : Nat), i < j → (lens f j).getD i 0 = f (i + 1) - f i
  | 0, i, h => by omega
  | j + 1, i, h => by
    have hl := lens_len f j
    by_cases e : i = j
    · subst e
      simp only [lens, List.getD]; rw [List.getElem?_append_right (by omega), show i - (lens f i).length = 0 by omega]; rfl
    · have a := lens_get f j i (by omega)
      rw [← a]
      simp only [lens, List.getD]; rw [List.getElem?_append_left (by omega)]
end Gra
namespace Go.Proofs.YtehjjinlpilelaaGreatDoor
open Go.ChangeShapes Go.WideShapes Go.ChangeAt Go.RowKit

/-- what is gathered -/
def RowRel (w wr : World) (v : Value) (j : Nat) (xs : List Int) (b : Nat) (ys : List Int) (p : Prop) : Prop :=
  Below w.heap.size w wr ∧ Box3 wr w.heap.size (.int .i64 0) (.int .i64 0) (.slice none 0 0) ∧ Own2 wr (w.heap.size + 1) v j xs ∧ Ints wr b ys ∧ p
theorem Ints.keep {w w' : World} {b B : Nat} {xs : List Int} (h : Ints w b xs) (hb : Below B w w') (hB : b < B) : Ints w' b xs :=
  ⟨Nat.lt_of_lt_of_le h.1 hb.size, fun i hi => keep1 hb hB (h.2 i hi)⟩
/-- a span is appended -/
theorem row_push {w w1 w2 : World} {b j : Nat} {ys : List Int} {v v' : Value} {xs : List Int} {y z : Int} {o : Obj} (hb : Below w.heap.size w w1) (hR : Box3 w1 w.heap.size (.int .i64 0) (.int .i64 0) (.slice none 0 0))
    (hO : Own2 w1 (w.heap.size + 1) v j xs) (hI : Ints w1 b ys) (hlt : b < w.heap.size)
    (h1 : w2.ownsRow (w.heap.size + 1) 73 2 v' (j + 1) (xs.map (Value.int .i64) ++ [.int .i64 y, .int .i64 z])) (hg : (w1.alloc o).grownBy w2 v.ownBlock) :
    Below w.heap.size w w2 ∧ Box3 w2 w.heap.size (.int .i64 0) (.int .i64 0) (.slice none 0 0) ∧ Own2 w2 (w.heap.size + 1) v' (j + 1) (xs ++ [y, z]) ∧ Ints w2 b ys := by
  obtain ⟨a, bb, c⟩ := gspan_push ((Below.refl _ _).alloc (Nat.le_refl _) o) hb (by omega) hR.lt hO h1 hg
  exact ⟨a, hR.keep bb (by omega), c, hI.keep bb (by omega)⟩
set_option maxHeartbeats 8000000 in
set_option maxRecDepth 100000 in
theorem grow_any (f : Int → Int) (n : Nat) (P O : Int) (b cap : Nat) (w : World) (g : Gra.Gr f n P) (hI : Ints w b (Gra.lens f n)) (o1 : -2199023255552 ≤ O) (o2 : O ≤ 2199023255552) :
    Calls Tryz.prog 44 #[.int .i64 O, .slice (some ⟨b, 0, none⟩) n cap] w fun e w' => ∃ b', e = .returned (.agg #[.int .i64 O, .int .i64 P, .slice (some ⟨b', 0, none⟩) n n]) ∧ Ints w' b' (Gra.sp f n) ∧ w.heap.size ≤ b' ∧ Below w.heap.size w w' := by
  obtain ⟨i0, hi', hz0, hz1, hz2⟩ := info_parts infoSpan
  have n1 := g.n1
  have n2 := g.n2
  have p1 := g.p1
  have p2 := g.p2
  have hlt := hI.1
  have gH := Lib.hid g
  have hz := Lib.hid g.zero
  have hIH := Lib.hid hI
  clear hI g
  go_enter Tryz.func44, Tryz.ntmps44
  go_wp2_with fail
  go_loopg [5, 6, 13] 4802 (fun g t5 t6 t13 wr => ∃ j : Nat, j ≤ n ∧ t13 = .int .i64 j ∧ t6 = .int .i64 (f j) ∧ RowRel w wr t5 j (Gra.sp f j) b (Gra.lens f n) (n - j ≤ g))
  case atStart => exact ⟨0, by omega, rfl, val_int hz.out.symm, by (repeat' (first | (with_reducible exact Below.refl _ _) | (with_reducible assumption) | (with_reducible refine below_drewN ?_ _) | (with_reducible refine Below.drew ?_) | (with_reducible refine Below.alloc ?_ ?_ _) | (with_reducible refine Below.setCell ?_ ?_ _) | (simp; done) | (simp; omega))), Box3.new _ _ _ _ _, Own2.nil _ _, hIH.out.alloc _, by omega⟩
  case round =>
    obtain ⟨j, hj, rfl, rfl, hb, hR, hO, hI, hg⟩ := hrel
    have hRH := Lib.hid hR
    have hOH := Lib.hid hO
    have hIr := Lib.hid hI
    have hs := hR.lt
    have hl0 := Gra.lens_len f n
    have hIl := hI.1
    clear hR hO hI
    by_cases hjn : j < n
    · have l1 := hIr.out.2 j (by omega)
      rw [Gra.lens_get f n j hjn] at l1
      have b1 := gH.out.bd (i := j) (by omega) (by omega)
      have b2 := gH.out.bd (i := j + 1) (by omega) (by omega)
      obtain ⟨A, hA⟩ : ∃ A, f (j : Int) = A := ⟨_, rfl⟩
      obtain ⟨L, hL⟩ : ∃ L, f ((j : Int) + 1) - f j = L := ⟨_, rfl⟩
      rw [hL] at l1
      have b3 : 0 ≤ A + L ∧ A + L ≤ P ∧ 0 ≤ A ∧ A ≤ P ∧ -P ≤ L ∧ L ≤ P := by omega
      have hAL : A + L = f ((j + 1 : Nat) : Int) := by rw [show ((j + 1 : Nat) : Int) = (j : Int) + 1 by omega]; omega
      rw [hA]
      have fH := Lib.hid (And.intro hA hAL)
      clear hA hL hl0 b1 b2 hAL
      go_wp2_with (at_builtin; refine wpList_append_own _ rfl _ _ 32 rfl (w.heap.size + 1) 73 i0 (.agg #[.int .i64 0, .int .i64 0]) 2 16 Tryz.underlying32 hi' hz0 hz1 hz2 rfl (by decide) _ j _ rfl (World.ownsRow.alloc hOH.out _) ⟨wr.heap.size, 0, none⟩ 1 1 [.int .i64 A, .int .i64 (A + L)] rfl rfl (gnews2 _ _ _ _) (gone2 _ _) (by unfold maxLen; omega) (by omega) (by simp; omega) ?_; intro v' w4 hown hgrow _; obtain ⟨b', cap', rfl⟩ := grow_shape hown (by omega); have RH := Lib.hid (row_push hb hRH.out hOH.out hIr.out hlt hown hgrow); clear hown hgrow)
      go_roundg (gk - 1)
      case measure => omega
      case rel => exact ⟨j + 1, by omega, by go_num, val_int fH.out.2, RH.out.1, RH.out.2.1, (by have h := RH.out.2.2.1; rw [fH.out.2, ← fH.out.1] at h; simpa [Gra.sp] using h), RH.out.2.2.2, by omega⟩
    · obtain rfl : j = n := by omega
      obtain ⟨b', cap', rfl, hB, hcap, hI⟩ := hOH.out.row (by omega)
      have hIH' := Lib.hid hI
      have hend := gH.out.end
      clear hI hl0
      go_wp2_with fail
      refine (gof_any f j P O b' cap' _ gH.out hIH'.out o1 o2).mono ?_; rintro e w5 ⟨b2, rfl, hI2, hB2, hb5⟩
      have hR5 := Lib.hid (hRH.out.later hb5)
      have hI5 := Lib.hid hI2
      have hb := below_then hb hb5
      clear hb5 hI2
      obtain ⟨r, r0, r1, r2, s0, s1, s2⟩ := hR5.out
      go_wp2_with fail
      have Z0 := hR5.out.set0 (.int .i64 O)
      have Z1 := Z0.set1 (.int .i64 P)
      have Z2 := (Z1.set2 (.slice (some ⟨b2, 0, none⟩) j j)).alloc (Obj.cells #[.int .i64 O, .int .i64 P, .slice (some ⟨b2, 0, none⟩) j j] 34)
      have z0 := Z2.c0
      have z1 := Z2.c1
      have z2 := Z2.c2
      have ne4 : w.heap.size ≠ b2 := by omega
      have hs5 := hb.size
      refine bodyPost_ret (v := .agg #[.int .i64 O, .int .i64 P, .slice (some ⟨b2, 0, none⟩) j j]) (by simp [results, Tryz.results44, go_sem, z0, z1, z2]) rfl ⟨b2, rfl, ?_, by omega, ?_⟩
      · exact (((hI5.out.setFar _ _ ne4).setFar _ _ ne4).setFar _ _ ne4).alloc _
      · (repeat' (first | (with_reducible exact Below.refl _ _) | (with_reducible assumption) | (with_reducible refine below_drewN ?_ _) | (with_reducible refine Below.drew ?_) | (with_reducible refine Below.alloc ?_ ?_ _) | (with_reducible refine Below.setCell ?_ ?_ _) | (simp; done) | (simp; omega)))
end Go.Proofs.YtehjjinlpilelaaGreatDoor
