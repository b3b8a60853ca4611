/- Contracts of the closure of group.Groups, of group.made and of group.collect. Conditions: the calendar of months lies in memory. -/
import Derived.Test.YtehjjinlpilelaaGreatDoorMm
import Derived.Test.YtehjjinlpilelaaGreatDoorMo
import Derived.Test.YtehjjinlpilelaaGreatDoorMq
namespace Go.Proofs.YtehjjinlpilelaaGreatDoor
open Go.ChangeShapes Go.WideShapes Go.ChangeAt Go.RowKit

/-- the captured variables: the calendar of the months, 0 and 12 -/
def Cap3 (w : World) (cb b cap : Nat) : Prop := CalC w cb 0 146097 b 4800 cap ∧ cb + 2 < w.heap.size ∧ w.cell? ⟨cb + 1, 0, none⟩ = some (.int .i64 0) ∧ w.cell? ⟨cb + 2, 0, none⟩ = some (.int .i64 12) ∧ Ints w b (Gra.sp Gra.ms 4800)
theorem Cap3.later {w w1 : World} {cb b cap : Nat} (h : Cap3 w cb b cap) (hb : Below w.heap.size w w1) : Cap3 w1 cb b cap :=
  ⟨h.1.later hb, Nat.lt_of_lt_of_le h.2.1 hb.size, keep1 hb (by have := h.2.1; omega) h.2.2.1, keep1 hb h.2.1 h.2.2.2.1, h.2.2.2.2.later hb⟩
theorem Cap3.keep {w w1 : World} {cb b cap B : Nat} (h : Cap3 w cb b cap) (hb : Below B w w1) (h1 : cb + 2 < B) (h2 : b < B) : Cap3 w1 cb b cap :=
  ⟨⟨Nat.lt_of_lt_of_le h.1.1 hb.size, keep1 hb (by omega) h.1.2.1, keep1 hb (by omega) h.1.2.2.1, keep1 hb (by omega) h.1.2.2.2⟩, Nat.lt_of_lt_of_le h.2.1 hb.size, keep1 hb (by omega) h.2.2.1, keep1 hb h1 h.2.2.2.1, h.2.2.2.2.keep hb h2⟩
theorem Cap3.alloc {w : World} {cb b cap : Nat} (h : Cap3 w cb b cap) (o : Obj) : Cap3 (w.alloc o) cb b cap := h.later ((Below.refl _ _).alloc (Nat.le_refl _) _)
theorem years_of (j : Int) : Gra.ms (j * 12) + 0 = Gra.yr j ∧ Gra.ms ((j + 1) * 12 - 1 + 1) + 0 = Gra.yr (j + 1) := by
  rw [Gra.year_ms, Gra.year_ms, show 12 * j = j * 12 by omega, show 12 * (j + 1) = (j + 1) * 12 by omega, show (j + 1) * 12 - 1 + 1 = (j + 1) * 12 by omega]
  omega
set_option maxHeartbeats 4000000 in
set_option maxRecDepth 100000 in
theorem ugroup_any (j cb b cap : Nat) (w : World) (hC : Cap3 w cb b cap) (hj : j < 400) :
    Calls Tryz.prog 81 #[.int .i64 j, .pointer (some ⟨cb, 0, none⟩), .pointer (some ⟨cb + 1, 0, none⟩), .pointer (some ⟨cb + 2, 0, none⟩)] w fun e w' => e = .returned (.tuple #[.agg #[.int .i64 (Gra.yr j), .int .i64 (Gra.yr (j + 1))], .bool true]) ∧ Below w.heap.size w w' := by
  have w1 : IntKind.i64.wrap ((j : Int) * 12) = (j : Int) * 12 := IntWalk.i64_in _ (by omega)
  have w2 : IntKind.i64.wrap ((j : Int) + 1) = (j : Int) + 1 := IntWalk.i64_in _ (by omega)
  have w3 : IntKind.i64.wrap (((j : Int) + 1) * 12) = ((j : Int) + 1) * 12 := IntWalk.i64_in _ (by omega)
  have w4 : IntKind.i64.wrap (((j : Int) + 1) * 12 - 1) = ((j : Int) + 1) * 12 - 1 := IntWalk.i64_in _ (by omega)
  obtain ⟨y1, y2⟩ := years_of j
  obtain ⟨A, hA⟩ : ∃ A, Gra.yr j = A := ⟨_, rfl⟩
  obtain ⟨B, hB⟩ : ∃ B, Gra.yr (j + 1) = B := ⟨_, rfl⟩
  rw [hA] at y1 ⊢
  rw [hB] at y2 ⊢
  have Y1 := Lib.hid y1
  have Y2 := Lib.hid y2
  have hI0 := Lib.hid (hC.2.2.2.2.alloc (Obj.cells #[.int .i64 0, .int .i64 0] 73)).drew
  have hR0 := Lib.hid (BoxS.new w (.int .i64 0) (.int .i64 0) 73)
  obtain ⟨⟨l0, c0, c1, c2⟩, l1, d0, d1, _⟩ := hC.alloc (Obj.cells #[.int .i64 0, .int .i64 0] 73)
  have hl := hC.2.1
  have hfd0 := fun (a b : Int) (w : World) => field0_any a b w
  have hfd1 := fun (a b : Int) (w : World) => field1_any a b w
  clear y1 y2 hA hB hC l0
  have m0 : w.heap.size ≠ cb := by omega
  have m1 : w.heap.size ≠ cb + 1 := by omega
  have m2 : w.heap.size ≠ cb + 2 := by omega
  have m3 : cb ≠ w.heap.size := by omega
  have m4 : cb + 1 ≠ w.heap.size := by omega
  have m5 : cb + 2 ≠ w.heap.size := by omega
  go_enter Tryz.func81, Tryz.ntmps81
  go_wp2_with fail
  go_region_held3 (fun w' => (((w'.cell? ⟨cb, 0, none⟩ = some (.int .i64 0) ∧ w'.cell? ⟨cb, 1, none⟩ = some (.int .i64 146097)) ∧ w'.cell? ⟨cb, 2, none⟩ = some (.slice (some ⟨b, 0, none⟩) 4800 cap)) ∧ (w'.cell? ⟨cb + 1, 0, none⟩ = some (.int .i64 0) ∧ w'.cell? ⟨cb + 2, 0, none⟩ = some (.int .i64 12))))
    (first | go_keep | (go_split_ands; exact ⟨⟨⟨keep1 hb9 (by first | omega | (simp; done) | (simp; omega)) (by assumption), keep1 hb9 (by first | omega | (simp; done) | (simp; omega)) (by assumption)⟩, keep1 hb9 (by first | omega | (simp; done) | (simp; omega)) (by assumption)⟩, ⟨keep1 hb9 (by first | omega | (simp; done) | (simp; omega)) (by assumption), keep1 hb9 (by first | omega | (simp; done) | (simp; omega)) (by assumption)⟩⟩))
    (first | (go_at_call 82; refine (uat_any Gra.ms 4800 146097 0 _ b cap _ Gra.months (by first | exact hI0.out | exact hI0.out.later hb9) (by omega) (by omega) (by omega) (by omega)).mono ?_; rintro e w9 ⟨he, hb9⟩; (first | rw [Y1.out] at he | rw [Y2.out] at he); subst he; have hs9 : w.heap.size + 1 ≤ w9.heap.size := (by have := hb9.size; (try simp at this); omega); have hR9 : BoxS w9 w.heap.size (.int .i64 0) (.int .i64 0) := (by first | exact hR9.later hb9 | exact (hR0.out.drewN 1).later hb9); obtain ⟨_, z0, z1, z2, z3⟩ := id hR9; have hB9 : Below w.heap.size w w9 := (by first | exact below_then hB9 hb9 | exact below_box (below_undrewG hb9))))
  go_wp2_with fail
  obtain ⟨_, x0, x1, _, _⟩ := (hR9.set0 (.int .i64 A)).set1 (.int .i64 B)
  refine bodyPost_ret (v := .tuple #[.agg #[.int .i64 A, .int .i64 B], .bool true]) (by simp [results, Tryz.results81, go_sem, x0, x1]) rfl ⟨rfl, ?_⟩
  (repeat' (first | (with_reducible exact Below.refl _ _) | (with_reducible assumption) | (with_reducible refine below_drewN ?_ _) | (with_reducible refine Below.drew ?_) | (with_reducible refine Below.alloc ?_ ?_ _) | (with_reducible refine Below.setCell ?_ ?_ _) | (simp; done) | (simp; omega)))
end Go.Proofs.YtehjjinlpilelaaGreatDoor
namespace Go.Proofs.YtehjjinlpilelaaGreatDoor
open Go.ChangeShapes Go.WideShapes Go.ChangeAt Go.RowKit

/-- a span is appended behind a call and two new blocks -/
theorem made_push {w w1 w1a w2 : World} {b j : Nat} {ys : List Int} {v v' : Value} {xs : List Int} {y z : Int} (ha : Below w1.heap.size w1 w1a) (hb : Below w.heap.size w w1) (hR : Box3 w1 w.heap.size (.int .i64 0) (.int .i64 0) (.slice none 0 0))
    (hO : Own2 w1 (w.heap.size + 1) v j xs) (hI : Ints w1 b ys) (hlt : b < w.heap.size)
    (h1 : w2.ownsRow (w.heap.size + 1) 73 2 v' (j + 1) (xs.map (Value.int .i64) ++ [.int .i64 y, .int .i64 z])) (hg : w1a.grownBy w2 v.ownBlock) :
    Below w.heap.size w w2 ∧ Box3 w2 w.heap.size (.int .i64 0) (.int .i64 0) (.slice none 0 0) ∧ Own2 w2 (w.heap.size + 1) v' (j + 1) (xs ++ [y, z]) ∧ Ints w2 b ys := by
  obtain ⟨a, bb, c⟩ := gspan_push ha hb (by omega) hR.lt hO h1 hg
  exact ⟨a, hR.keep bb (by omega), c, hI.keep bb (by omega)⟩
set_option maxHeartbeats 8000000 in
set_option maxRecDepth 100000 in
theorem umade_any (f : Int → Int) (n : Nat) (P : Int) (b cap : Nat) (w : World) (g : Gra.Gr f n P) (hI : Ints w b (Gra.sp f n)) :
    Calls Tryz.prog 104 #[.int .i64 P, .slice (some ⟨b, 0, none⟩) n cap] w fun e w' => ∃ b', e = .returned (.tuple #[.agg #[.int .i64 0, .int .i64 P, .slice (some ⟨b', 0, none⟩) n n], .int .i64 0]) ∧ Ints w' b' (Gra.sp f n) ∧ w.heap.size ≤ b' ∧ Below w.heap.size w w' := by
  obtain ⟨i0, hi', hz0, hz1, hz2⟩ := info_parts infoSpan
  have n1 := g.n1
  have n2 := g.n2
  have p1 := g.p1
  have p2 := g.p2
  have hIw := hI.alloc (Obj.cells #[.int .i64 0, .int .i64 0, .slice none 0 0] 34)
  obtain ⟨c1, _⟩ := row_at hIw (show 0 < n by omega)
  rw [show ((0 : Nat) : Int) = 0 by rfl, g.zero] at c1
  have hlt := hI.1
  have gH := Lib.hid g
  have hIH := Lib.hid hIw
  have hR0 := Lib.hid (Box3.new w (.int .i64 0) (.int .i64 0) (.slice none 0 0) 34)
  clear g hI hIw
  have q7 : 0 ≤ (0 : Int) ∧ (0 : Int) < (n : Int) := by omega
  go_enter Tryz.func104, Tryz.ntmps104
  go_wp2_with (at_make; refine wpList_make_own _ rfl _ _ 32 rfl (w.heap.size + 1) 73 i0 (.agg #[.int .i64 0, .int .i64 0]) 2 Tryz.underlying32 hi' hz0 hz1 .i64 .i64 _ n rfl rfl rfl (by rw [hz2]; omega) (by unfold maxLen; omega) (by simp) ?_; intro w0 hown0 hgrow0)
  have hb0 : Below (w.heap.size + 1) (w.alloc (Obj.cells #[.int .i64 0, .int .i64 0, .slice none 0 0] 34)) w0 := (Below.refl _ _).grown hgrow0 (by simp) (fun q hq => by cases hq)
  have hb : Below w.heap.size w w0 := ((Below.refl _ _).alloc (Nat.le_refl _) _).trans (hb0.mono (by omega))
  have hR := Lib.hid (hR0.out.keep hb0 (by omega))
  have hJ := Lib.hid (hIH.out.keep hb0 (by omega))
  have hO0 : Hid (Own2 w0 (w.heap.size + 1) (.slice (some ⟨w.heap.size + 1, 0, none⟩) 0 n) 0 []) := Lib.hid (by have h := hown0; simp only [World.size_alloc] at h; exact h)
  clear hown0 hgrow0 hb0 hR0 c1 hIH
  go_loopg [7, 19] 4802 (fun g t7 t19 wr => ∃ j : Nat, j ≤ n ∧ t19 = .int .i64 j ∧ RowRel w wr t7 j (Gra.sp f j) b (Gra.sp f n) (n - j ≤ g))
  case atStart => exact ⟨0, by omega, rfl, hb, hR.out, hO0.out, hJ.out, by omega⟩
  case round =>
    clear hb hR hJ hO0
    obtain ⟨j, hj, rfl, hb, hR, hO, hI, hg⟩ := hrel
    have hRH := Lib.hid hR
    have hOH := Lib.hid hO
    have hIr := Lib.hid hI
    have hs := hR.lt
    have hIl := hI.1
    clear hR hO hI
    by_cases hjn : j < n
    · obtain ⟨l1, l2⟩ := row_at hIr.out hjn
      have b1 := gH.out.bd (i := j) (by omega) (by omega)
      have b2 := gH.out.bd (i := j + 1) (by omega) (by omega)
      obtain ⟨A, hA⟩ : ∃ A, f (j : Int) = A := ⟨_, rfl⟩
      obtain ⟨B, hB⟩ : ∃ B, f ((j : Int) + 1) = B := ⟨_, rfl⟩
      rw [hA] at l1 b1
      rw [hB] at l2 b2
      have fH := Lib.hid (And.intro hA hB)
      clear hA hB
      go_wp2_with (at_builtin; refine wpList_append_own _ rfl _ _ 32 rfl (w.heap.size + 1) 73 i0 (.agg #[.int .i64 0, .int .i64 0]) 2 16 Tryz.underlying32 hi' hz0 hz1 hz2 rfl (by decide) _ j _ rfl (World.ownsRow.alloc (World.ownsRow.alloc hOH.out _) _) ⟨wr.heap.size + 1, 0, none⟩ 1 1 [.int .i64 A, .int .i64 B] rfl rfl (gnews2' _ _ _ _ _) (gone2 _ _) (by unfold maxLen; omega) (by omega) (by simp; omega) ?_; intro v' w4 hown hgrow _; obtain ⟨b', cap', rfl⟩ := grow_shape hown (by omega); have RH := Lib.hid (made_push (((Below.refl _ _).alloc (Nat.le_refl _) _).alloc (by simp) _) hb hRH.out hOH.out hIr.out hlt hown hgrow); clear hown hgrow)
      go_roundg (gk - 1)
      case measure => omega
      case rel => exact ⟨j + 1, by omega, by go_num, RH.out.1, RH.out.2.1, (by have h := RH.out.2.2.1; rw [← fH.out.1, ← fH.out.2] at h; exact h), RH.out.2.2.2, by omega⟩
    · obtain rfl : j = n := by omega
      obtain ⟨b', cap', rfl, hB, hcap, hI⟩ := hOH.out.row (by omega)
      have hIH' := Lib.hid hI
      clear hI
      go_wp2_with fail
      refine (gof_any f j P 0 b' cap' _ gH.out hIH'.out (by omega) (by omega)).mono ?_; rintro e w5 ⟨b2, rfl, hI2, hB2, hb5⟩
      have hR5 := Lib.hid (hRH.out.later hb5)
      have hI5 := Lib.hid hI2
      have hb := below_then hb hb5
      clear hb5 hI2
      obtain ⟨r, r0, r1, r2, s0, s1, s2⟩ := hR5.out
      go_wp2_with fail
      have Z0 := hR5.out.set0 (.int .i64 0)
      have Z1 := Z0.set1 (.int .i64 P)
      have Z2 := Z1.set2 (.slice (some ⟨b2, 0, none⟩) j j)
      have z0 := Z2.c0
      have z1 := Z2.c1
      have z2 := Z2.c2
      have ne4 : w.heap.size ≠ b2 := by omega
      have hs5 := hb.size
      refine bodyPost_ret (v := .tuple #[.agg #[.int .i64 0, .int .i64 P, .slice (some ⟨b2, 0, none⟩) j j], .int .i64 0]) (by simp [results, Tryz.results104, go_sem, z0, z1, z2]) rfl ⟨b2, rfl, ?_, by omega, ?_⟩
      · exact ((hI5.out.setFar _ _ ne4).setFar _ _ ne4).setFar _ _ ne4
      · (repeat' (first | (with_reducible exact Below.refl _ _) | (with_reducible assumption) | (with_reducible refine below_drewN ?_ _) | (with_reducible refine Below.drew ?_) | (with_reducible refine Below.alloc ?_ ?_ _) | (with_reducible refine Below.setCell ?_ ?_ _) | (simp; done) | (simp; omega)))
end Go.Proofs.YtehjjinlpilelaaGreatDoor
namespace Go.Proofs.YtehjjinlpilelaaGreatDoor
open Go.ChangeShapes Go.WideShapes Go.ChangeAt Go.RowKit

/-- what is gathered -/
def ColRel (w wr : World) (v : Value) (j : Nat) (cb b cap : Nat) (p : Prop) : Prop :=
  Below w.heap.size w wr ∧ Box3 wr w.heap.size (.int .i64 0) (.int .i64 0) (.slice none 0 0) ∧ Own2 wr (w.heap.size + 1) v j (Gra.sp Gra.yr j) ∧ Cap3 wr cb b cap ∧ p
theorem col_push {w w1 w1a w2 : World} {cb b cap j : Nat} {v v' : Value} {xs : List Int} {y z : Int} (ha : Below w1.heap.size w1 w1a) (hb : Below w.heap.size w w1) (hR : Box3 w1 w.heap.size (.int .i64 0) (.int .i64 0) (.slice none 0 0))
    (hO : Own2 w1 (w.heap.size + 1) v j xs) (hC : Cap3 w1 cb b cap) (hlt : b < w.heap.size) (hcb : cb + 2 < w.heap.size)
    (h1 : w2.ownsRow (w.heap.size + 1) 73 2 v' (j + 1) (xs.map (Value.int .i64) ++ [.int .i64 y, .int .i64 z])) (hg : w1a.grownBy w2 v.ownBlock) :
    Below w.heap.size w w2 ∧ Box3 w2 w.heap.size (.int .i64 0) (.int .i64 0) (.slice none 0 0) ∧ Own2 w2 (w.heap.size + 1) v' (j + 1) (xs ++ [y, z]) ∧ Cap3 w2 cb b cap := by
  obtain ⟨a, bb, c⟩ := gspan_push ha hb (by omega) hR.lt hO h1 hg
  exact ⟨a, hR.keep bb (by omega), c, hC.keep bb (by omega) (by omega)⟩
set_option maxHeartbeats 8000000 in
set_option maxRecDepth 100000 in
theorem ucollect_any (cb b cap : Nat) (w : World) (hC : Cap3 w cb b cap) :
    Calls Tryz.prog 80 #[.int .i64 146097, .int .i64 400, .func (.func 81) #[] #[.pointer (some ⟨cb, 0, none⟩), .pointer (some ⟨cb + 1, 0, none⟩), .pointer (some ⟨cb + 2, 0, none⟩)]] w fun e w' => ∃ b', e = .returned (.tuple #[.agg #[.int .i64 0, .int .i64 146097, .slice (some ⟨b', 0, none⟩) 400 400], .int .i64 0]) ∧ Ints w' b' (Gra.sp Gra.yr 400) ∧ w.heap.size ≤ b' ∧ Below w.heap.size w w' := by
  obtain ⟨i0, hi', hz0, hz1, hz2⟩ := info_parts infoSpan
  have hlt := hC.2.2.2.2.1
  have hcb := hC.2.1
  have hCH := Lib.hid hC
  clear hC
  go_enter Tryz.func80, Tryz.ntmps80
  go_wp2_with fail
  go_loopg [8, 13] 402 (fun g t8 t13 wr => ∃ j : Nat, j ≤ 400 ∧ t13 = .int .i64 j ∧ ColRel w wr t8 j cb b cap (400 - j ≤ g))
  case atStart => exact ⟨0, by omega, rfl, by (repeat' (first | (with_reducible exact Below.refl _ _) | (with_reducible assumption) | (with_reducible refine below_drewN ?_ _) | (with_reducible refine Below.drew ?_) | (with_reducible refine Below.alloc ?_ ?_ _) | (with_reducible refine Below.setCell ?_ ?_ _) | (simp; done) | (simp; omega))), Box3.new _ _ _ _ _, Own2.nil _ _, hCH.out.alloc _, by omega⟩
  case round =>
    obtain ⟨j, hj, rfl, hb, hR, hO, hC, hg⟩ := hrel
    have hRH := Lib.hid hR
    have hOH := Lib.hid hO
    have hCr := Lib.hid hC
    have hs := hR.lt
    clear hR hO hC
    by_cases hjn : j < 400
    · obtain ⟨A, hA⟩ : ∃ A, Gra.yr (j : Int) = A := ⟨_, rfl⟩
      obtain ⟨B, hB⟩ : ∃ B, Gra.yr ((j : Int) + 1) = B := ⟨_, rfl⟩
      have fH := Lib.hid (And.intro hA hB)
      clear hA hB
      go_wp2_with fail
      refine (ugroup_any j cb b cap _ hCr.out hjn).mono ?_; rintro e w2 ⟨rfl, hb2⟩
      rw [fH.out.1, fH.out.2]
      have hR2 := Lib.hid (hRH.out.later hb2)
      have hO2 := Lib.hid (hOH.out.later hb2)
      have hC2 := Lib.hid (hCr.out.later hb2)
      have hb := below_then hb hb2
      have hs2 := hR2.out.lt
      clear hb2 hs
      go_wp2_with (at_builtin; refine wpList_append_own _ rfl _ _ 32 rfl (w.heap.size + 1) 73 i0 (.agg #[.int .i64 0, .int .i64 0]) 2 16 Tryz.underlying32 hi' hz0 hz1 hz2 rfl (by decide) _ j _ rfl (World.ownsRow.alloc (World.ownsRow.alloc hO2.out _) _) ⟨w2.heap.size + 1, 0, none⟩ 1 1 [.int .i64 A, .int .i64 B] rfl rfl (gnews2' _ _ _ _ _) (gone2 _ _) (by unfold maxLen; omega) (by omega) (by simp; omega) ?_; intro v' w4 hown hgrow _; obtain ⟨b', cap', rfl⟩ := grow_shape hown (by omega); have RH := Lib.hid (col_push (((Below.refl _ _).alloc (Nat.le_refl _) _).alloc (by simp) _) hb hR2.out hO2.out hC2.out hlt hcb hown hgrow); clear hown hgrow)
      go_roundg (gk - 1)
      case measure => omega
      case rel => exact ⟨j + 1, by omega, by go_num, RH.out.1, RH.out.2.1, (by have h := RH.out.2.2.1; rw [← fH.out.1, ← fH.out.2] at h; exact h), RH.out.2.2.2, by omega⟩
    · obtain rfl : j = 400 := by omega
      obtain ⟨b', cap', rfl, hB, hcap, hI⟩ := hOH.out.row (by omega)
      have hIH' := Lib.hid hI
      clear hI
      go_wp2_with fail
      refine (umade_any Gra.yr 400 146097 b' cap' _ Gra.years hIH'.out).mono ?_; rintro e w5 ⟨b2, rfl, hI2, hB2, hb5⟩
      have hR5 := Lib.hid (hRH.out.later hb5)
      have hI5 := Lib.hid hI2
      have hb := below_then hb hb5
      clear hb5 hI2
      obtain ⟨r, r0, r1, r2, s0, s1, s2⟩ := hR5.out
      go_wp2_with fail
      have Z0 := hR5.out.set0 (.int .i64 0)
      have Z1 := Z0.set1 (.int .i64 146097)
      have Z2 := Z1.set2 (.slice (some ⟨b2, 0, none⟩) 400 400)
      have z0 := Z2.c0
      have z1 := Z2.c1
      have z2 := Z2.c2
      have ne4 : w.heap.size ≠ b2 := by omega
      have hs5 := hb.size
      refine bodyPost_ret (v := .tuple #[.agg #[.int .i64 0, .int .i64 146097, .slice (some ⟨b2, 0, none⟩) 400 400], .int .i64 0]) (by simp [results, Tryz.results80, go_sem, z0, z1, z2]) rfl ⟨b2, rfl, ?_, by omega, ?_⟩
      · exact ((hI5.out.setFar _ _ ne4).setFar _ _ ne4).setFar _ _ ne4
      · (repeat' (first | (with_reducible exact Below.refl _ _) | (with_reducible assumption) | (with_reducible refine below_drewN ?_ _) | (with_reducible refine Below.drew ?_) | (with_reducible refine Below.alloc ?_ ?_ _) | (with_reducible refine Below.setCell ?_ ?_ _) | (simp; done) | (simp; omega)))
end Go.Proofs.YtehjjinlpilelaaGreatDoor
