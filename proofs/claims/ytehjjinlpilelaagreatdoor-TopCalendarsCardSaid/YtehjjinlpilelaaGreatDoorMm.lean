/- Contracts of granule.Find, granule.Span, conversion.reach, place, near and inside. Conditions: a calendar of granules that repeats, and sizes. -/
import Derived.Test.YtehjjinlpilelaaGreatDoorMl
namespace Go.Proofs.YtehjjinlpilelaaGreatDoor
open Go.ChangeShapes Go.WideShapes Go.ChangeAt Go.RowKit

/-- block b of the world w holds the two values, and may be written -/
structure BoxS (w : World) (b : Nat) (x y : Value) : Prop where
  lt : b < w.heap.size
  c0 : w.cell? ⟨b, 0, none⟩ = some x
  c1 : w.cell? ⟨b, 1, none⟩ = some y
  f0 : w.frozen? ⟨b, 0, none⟩ = false
  f1 : w.frozen? ⟨b, 1, none⟩ = false
theorem BoxS.later {w w' : World} {b : Nat} {x y : Value} (h : BoxS w b x y) (hb : Below w.heap.size w w') : BoxS w' b x y :=
  ⟨Nat.lt_of_lt_of_le h.lt hb.size, keep1 hb h.lt h.c0, keep1 hb h.lt h.c1, keepf hb h.lt h.f0, keepf hb h.lt h.f1⟩
theorem BoxS.alloc {w : World} {b : Nat} {x y : Value} (h : BoxS w b x y) (o : Obj) : BoxS (w.alloc o) b x y := h.later ((Below.refl _ _).alloc (Nat.le_refl _) _)
theorem BoxS.new (w : World) (x y : Value) (t : TypeId) : BoxS (w.alloc (.cells #[x, y] t)) w.heap.size x y := by
  refine ⟨by simp, ?_, ?_, ?_, ?_⟩ <;> simp
theorem BoxS.born {w w1 : World} {x y : Value} {t : TypeId} (hb : Below (w.alloc (.cells #[x, y] t)).heap.size (w.alloc (.cells #[x, y] t)) w1) : BoxS w1 w.heap.size x y := (BoxS.new w x y t).later hb
theorem BoxS.set0 {w : World} {b : Nat} {x y : Value} (h : BoxS w b x y) (v : Value) : BoxS (w.setCell ⟨b, 0, none⟩ v) b v y :=
  ⟨by simpa using h.lt, World.cell?_setCell_same _ _ _ h.c0, by rw [World.cell?_setCell_other _ _ _ _ (by simp)]; exact h.c1, by simpa using h.f0, by simpa using h.f1⟩
theorem BoxS.set1 {w : World} {b : Nat} {x y : Value} (h : BoxS w b x y) (v : Value) : BoxS (w.setCell ⟨b, 1, none⟩ v) b x v :=
  ⟨by simpa using h.lt, by rw [World.cell?_setCell_other _ _ _ _ (by simp)]; exact h.c0, World.cell?_setCell_same _ _ _ h.c1, by simpa using h.f0, by simpa using h.f1⟩
set_option maxHeartbeats 2000000 in
set_option maxRecDepth 100000 in
theorem gspan_any (f : Int → Int) (n : Nat) (P O k : Int) (b cap : Nat) (w : World) (g : Gra.Gr f n P) (hI : Ints w b (Gra.sp f n)) (o1 : -2199023255552 ≤ O) (o2 : O ≤ 2199023255552) (k1 : -10000000 ≤ k) (k2 : k ≤ 10000000) (r1 : -4398046511104 ≤ f k + O) (r2 : f (k + 1) + O ≤ 4398046511104) :
    Calls Tryz.prog 89 #[.agg #[.int .i64 O, .int .i64 P, .slice (some ⟨b, 0, none⟩) n cap], .int .i64 k] w fun e w' => e = .returned (.tuple #[.agg #[.int .i64 (f k + O), .int .i64 (f (k + 1) + O)], .int .i64 0]) ∧ Below w.heap.size w w' := by
  have n1 := g.n1
  have n2 := g.n2
  have p1 := g.p1
  obtain ⟨h1, h2, _, _, _, _, _⟩ := g.quo k1 k2
  obtain ⟨q, hq⟩ : ∃ q : Int, k / n = q := ⟨_, rfl⟩
  rw [hq] at h1 h2
  obtain ⟨t1, t2⟩ := g.reach
  obtain ⟨T, hT⟩ : ∃ T : Int, (8796093022208 : Int) / P = T := ⟨_, rfl⟩
  rw [hT] at t1 t2
  have tb : T ≤ 8796093022208 := by rw [← hT]; exact Int.ediv_le_self _ (by omega)
  have t3 : (8796093022208 : Int).tdiv P = T := by rw [Int.tdiv_eq_ediv_of_nonneg (by omega)]; exact hT
  have r3 := g.up k
  have hP0 : (P == 0) = false := by simp; omega
  obtain ⟨A, hA⟩ : ∃ A, f k + O = A := ⟨_, rfl⟩
  obtain ⟨B, hB⟩ : ∃ B, f (k + 1) + O = B := ⟨_, rfl⟩
  have r4 : A < B := by omega
  rw [hA] at r1 ⊢
  rw [hB] at r2 ⊢
  have E := Lib.hid (And.intro hq (And.intro hA hB))
  have gH := Lib.hid g
  have hIH := Lib.hid hI
  have q1 : decide (T < q) = false := decide_eq_false (by omega)
  have q2 : decide (q < -T - 1) = false := decide_eq_false (by omega)
  clear hI hq hA hB hT r3 g
  go_enter Tryz.func89, Tryz.ntmps89
  go_wp2_with fail
  refine (gvalid_any f n P O b cap _ gH.out ((hIH.out.alloc _).alloc _) o1 o2).mono ?_; rintro e w1 ⟨rfl, hb1⟩
  have hC1 := ((CalC.new w O P b n cap).alloc (Obj.cells #[.int .i64 0, .int .i64 0] 73)).later hb1
  have hC1H := Lib.hid hC1
  have hI1 := Lib.hid (((hIH.out.alloc _).alloc _).later hb1)
  have hB1 : Hid (BoxS w1 (w.heap.size + 1) (.int .i64 0) (.int .i64 0)) := Lib.hid (by have := BoxS.born hb1; simpa using this)
  have hb := below_box (below_box hb1)
  obtain ⟨d, c0, c1, c2⟩ := hC1
  clear hb1
  go_wp2_with fail
  refine (floor_b _ _ _ (by omega) (by omega) (by omega) (by omega)).mono ?_; rintro e w3 ⟨rfl, hb3⟩
  rw [E.out.1]
  have hC3 := hC1H.out.later hb3
  have hI3 := Lib.hid (hI1.out.later hb3)
  have hB3 := Lib.hid (hB1.out.later hb3)
  have hb := below_then hb hb3
  clear hb3 d c0 c1 c2 hC1H hI1 hB1
  obtain ⟨d, c0, c1, c2⟩ := hC3
  go_wp2_with fail
  refine (gat_any f n P O k b cap _ gH.out hI3.out o1 o2 k1 k2).mono ?_; rintro e w4 ⟨rfl, hb4⟩
  rw [E.out.2.1, E.out.2.2]
  have hB4 := hB3.out.later hb4
  have hB4H := Lib.hid hB4
  have hb := below_then hb hb4
  clear hb4 d c0 c1 c2 hB3
  go_wp2_with fail
  refine (gline_any _ _ (by omega) (by omega)).mono ?_; rintro e w5 ⟨rfl, rfl⟩
  go_wp2_with fail
  refine (gline_any _ _ (by omega) (by omega)).mono ?_; rintro e w5 ⟨rfl, rfl⟩
  obtain ⟨_, z0, z1, z2, z3⟩ := hB4
  go_wp2_with fail
  obtain ⟨_, y0, y1, _, _⟩ := ((hB4H.out.set0 (.int .i64 A)).set1 (.int .i64 B)).alloc (Obj.cells #[.int .i64 A, .int .i64 B] 73)
  have hs := hb.size
  refine bodyPost_ret (v := .tuple #[.agg #[.int .i64 A, .int .i64 B], .int .i64 0]) (by simp [results, Tryz.results89, go_sem, y0, y1]) rfl ⟨rfl, ?_⟩
  (repeat' (first | (with_reducible exact Below.refl _ _) | (with_reducible assumption) | (with_reducible refine below_drewN ?_ _) | (with_reducible refine Below.drew ?_) | (with_reducible refine Below.alloc ?_ ?_ _) | (with_reducible refine Below.setCell ?_ ?_ _) | (simp; done) | (simp; omega)))
end Go.Proofs.YtehjjinlpilelaaGreatDoor
namespace Go.Proofs.YtehjjinlpilelaaGreatDoor
open Go.ChangeShapes Go.WideShapes Go.ChangeAt Go.RowKit

theorem field0_any (a b : Int) (w : World) : (Instr.field 73 (.agg #[.int .i64 a, .int .i64 b]) 0).run Tryz.prog w = .ok (.int .i64 a) w := by kernel_rfl
theorem field1_any (a b : Int) (w : World) : (Instr.field 73 (.agg #[.int .i64 a, .int .i64 b]) 1).run Tryz.prog w = .ok (.int .i64 b) w := by kernel_rfl
set_option maxHeartbeats 2000000 in
set_option maxRecDepth 100000 in
theorem gfind_any (f : Int → Int) (n : Nat) (P O x k : Int) (b cap : Nat) (w : World) (g : Gra.Gr f n P) (hI : Ints w b (Gra.sp f n)) (o1 : -2199023255552 ≤ O) (o2 : O ≤ 2199023255552) (k1 : -10000000 ≤ k) (k2 : k ≤ 10000000) (x1 : -4398046511104 ≤ x) (x2 : x ≤ 4398046511104) (h1 : f k ≤ x - O) (h2 : x - O < f (k + 1)) :
    Calls Tryz.prog 26 #[.agg #[.int .i64 O, .int .i64 P, .slice (some ⟨b, 0, none⟩) n cap], .int .i64 x] w fun e w' => e = .returned (.tuple #[.int .i64 k, .bool true]) ∧ Below w.heap.size w w' := by
  have H := Lib.hid (And.intro h1 h2)
  have gH := Lib.hid g
  have hIH := Lib.hid hI
  have e1 : ¬ f (k + 1) + O ≤ x := by omega
  obtain ⟨F, hF⟩ : ∃ F, f (k + 1) + O = F := ⟨_, rfl⟩
  rw [hF] at e1
  have hFH := Lib.hid hF
  clear h1 h2 hI hF g
  go_enter Tryz.func26, Tryz.ntmps26
  go_wp2_with fail
  refine (gvalid_any f n P O b cap _ gH.out (hIH.out.alloc _) o1 o2).mono ?_; rintro e w1 ⟨rfl, hb1⟩
  have hC1 := (CalC.new w O P b n cap).later hb1
  have hC1H := Lib.hid hC1
  have hI1 := Lib.hid ((hIH.out.alloc _).later hb1)
  have hb := below_box hb1
  obtain ⟨d, c0, c1, c2⟩ := hC1
  clear hb1
  go_wp2_with fail
  refine (gline_any _ _ (by omega) (by omega)).mono ?_; rintro e w2 ⟨rfl, rfl⟩
  go_wp2_with fail
  refine (gnear_any f n P O x k b cap _ gH.out hI1.out o1 o2 k1 k2 x1 x2 H.out.1 H.out.2).mono ?_; rintro e w3 ⟨rfl, hb3⟩
  have hC3 := hC1H.out.later hb3
  have hI3 := Lib.hid (hI1.out.later hb3)
  have hb := below_then hb hb3
  clear hb3 d c0 c1 c2 hC1H hI1
  obtain ⟨d, c0, c1, c2⟩ := hC3
  go_wp2_with fail
  refine (gat_any f n P O k b cap _ gH.out hI3.out o1 o2 k1 k2).mono ?_; rintro e w4 ⟨rfl, hb4⟩
  rw [hFH.out]
  have hb := below_then hb hb4
  clear hb4
  have hfd := fun (a b : Int) (w : World) => field1_any a b w
  go_wp2_with fail
  go_ret2
  exact ⟨rfl, hb⟩
end Go.Proofs.YtehjjinlpilelaaGreatDoor
namespace Go.Proofs.YtehjjinlpilelaaGreatDoor
open Go.ChangeShapes Go.WideShapes Go.ChangeAt Go.RowKit

set_option maxHeartbeats 2000000 in
set_option maxRecDepth 100000 in
theorem nreach_any (f : Int → Int) (n : Nat) (P O k : Int) (b cap : Nat) (w : World) (g : Gra.Gr f n P) (hI : Ints w b (Gra.sp f n)) (o1 : -2199023255552 ≤ O) (o2 : O ≤ 2199023255552) (k1 : -10000000 ≤ k) (k2 : k ≤ 10000000) (r1 : -4398046511103 ≤ f k + O) (r2 : f (k + 1) + O ≤ 4398046511103) :
    Calls Tryz.prog 47 #[.agg #[.int .i64 O, .int .i64 P, .slice (some ⟨b, 0, none⟩) n cap], .int .i64 k] w fun e w' => e = .returned (.tuple #[.agg #[.int .i64 (f k + O), .int .i64 (f (k + 1) + O)], .bool true]) ∧ Below w.heap.size w w' := by
  have H := Lib.hid (gspan_any f n P O k b cap ((w.alloc (Obj.cells #[.int .i64 O, .int .i64 P, .slice (some ⟨b, 0, none⟩) n cap] 34)).alloc (Obj.cells #[.int .i64 0, .int .i64 0] 73)) g ((hI.alloc _).alloc _) o1 o2 k1 k2 (by omega) (by omega))
  obtain ⟨A, hA⟩ : ∃ A, f k + O = A := ⟨_, rfl⟩
  obtain ⟨B, hB⟩ : ∃ B, f (k + 1) + O = B := ⟨_, rfl⟩
  rw [hA] at r1 H ⊢
  rw [hB] at r2 H ⊢
  have hlt := hI.1
  clear hA hB g hI
  have q1 : decide (-4398046511103 ≤ A) = true := decide_eq_true r1
  have q2 : decide (B ≤ 4398046511103) = true := decide_eq_true r2
  go_enter Tryz.func47, Tryz.ntmps47
  go_wp2_with fail
  refine H.out.mono ?_; rintro e w1 ⟨rfl, hb1⟩
  have hB1 : BoxS w1 (w.heap.size + 1) (.int .i64 0) (.int .i64 0) := by have := BoxS.born hb1; simpa using this
  have hB1H := Lib.hid hB1
  have hb := below_box (below_box hb1)
  obtain ⟨_, z0, z1, z2, z3⟩ := hB1
  have hs := hb.size
  clear hb1
  go_wp2_with fail
  obtain ⟨_, y0, y1, _, _⟩ := (((hB1H.out.set0 (.int .i64 A)).set1 (.int .i64 B)).set0 (.int .i64 A)).set1 (.int .i64 B)
  refine bodyPost_ret (v := .tuple #[.agg #[.int .i64 A, .int .i64 B], .bool true]) (by simp [results, Tryz.results47, go_sem, y0, y1]) rfl ⟨rfl, ?_⟩
  (repeat' (first | (with_reducible exact Below.refl _ _) | (with_reducible assumption) | (with_reducible refine below_drewN ?_ _) | (with_reducible refine Below.drew ?_) | (with_reducible refine Below.alloc ?_ ?_ _) | (with_reducible refine Below.setCell ?_ ?_ _) | (simp; done) | (simp; omega)))
end Go.Proofs.YtehjjinlpilelaaGreatDoor
namespace Go.Proofs.YtehjjinlpilelaaGreatDoor
open Go.ChangeShapes Go.WideShapes Go.ChangeAt Go.RowKit

set_option maxHeartbeats 4000000 in
set_option maxRecDepth 100000 in
theorem nplace_any (f : Int → Int) (n : Nat) (P O k : Int) (b cap : Nat) (w : World) (g : Gra.Gr f n P) (hI : Ints w b (Gra.sp f n)) (o1 : -2199023255552 ≤ O) (o2 : O ≤ 2199023255552) (k1 : -10000000 ≤ k) (k2 : k ≤ 10000000) :
    Calls Tryz.prog 48 #[.agg #[.int .i64 O, .int .i64 P, .slice (some ⟨b, 0, none⟩) n cap], .int .i64 k] w fun e w' => e = .returned (.agg #[.int .i64 (f k + O), .int .i64 (f (k + 1) + O)]) ∧ Below w.heap.size w w' := by
  have n1 := g.n1
  have n2 := g.n2
  have p1 := g.p1
  have p2 := g.p2
  obtain ⟨h1, h2, h3, h4, h5, h6, h7⟩ := g.quo k1 k2
  obtain ⟨a1, a2⟩ := g.at k
  obtain ⟨r, hr⟩ : ∃ r : Nat, k % n = r := ⟨(k % n).toNat, by omega⟩
  obtain ⟨q, hq⟩ : ∃ q : Int, k / n = q := ⟨_, rfl⟩
  rw [hr] at h5 h6 h7 a1 a2
  rw [hq] at h1 h2 h3 h4 h7 a1 a2
  have hrn : r < n := by omega
  obtain ⟨c1, c2⟩ := row_at ((hI.alloc (Obj.cells #[.int .i64 O, .int .i64 P, .slice (some ⟨b, 0, none⟩) n cap] 34)).alloc (Obj.cells #[.int .i64 0, .int .i64 0] 73)) hrn
  have hlt := hI.1
  have b1 := g.bd (i := r) (by omega) (by omega)
  have b2 := g.bd (i := r + 1) (by omega) (by omega)
  obtain ⟨A, hA⟩ : ∃ A, f (r : Int) = A := ⟨_, rfl⟩
  obtain ⟨B, hB⟩ : ∃ B, f ((r : Int) + 1) = B := ⟨_, rfl⟩
  rw [hA] at c1 b1 a1
  rw [hB] at c2 b2 a2
  have e8 : 0 ≤ (r : Int) ∧ (r : Int) < n := by omega
  have E := Lib.hid (show A + (O + P * q) = f k + O ∧ B + (O + P * q) = f (k + 1) + O by omega)
  have qH := Lib.hid (And.intro hq hr)
  have hC := Lib.hid ((CalC.new w O P b n cap).alloc (Obj.cells #[.int .i64 0, .int .i64 0] 73))
  have hS : Hid (BoxS ((w.alloc (Obj.cells #[.int .i64 O, .int .i64 P, .slice (some ⟨b, 0, none⟩) n cap] 34)).alloc (Obj.cells #[.int .i64 0, .int .i64 0] 73)) (w.heap.size + 1) (.int .i64 0) (.int .i64 0)) := Lib.hid (by have := BoxS.new (w.alloc (Obj.cells #[.int .i64 O, .int .i64 P, .slice (some ⟨b, 0, none⟩) n cap] 34)) (.int .i64 0) (.int .i64 0) 73; simpa using this)
  have c1H := Lib.hid (And.intro c1 c2)
  clear hA hB hr hq a1 a2 h7 g hI c1 c2
  go_enter Tryz.func48, Tryz.ntmps48
  go_wp2_with fail
  refine (div_b _ _ _ (by omega) (by omega) (by omega) (by omega)).mono ?_; rintro e w1 ⟨rfl, hb1⟩
  rw [qH.out.1, qH.out.2]
  obtain ⟨d, d0, d1, d2⟩ := hC.out.later hb1
  have hS1 := Lib.hid (hS.out.later hb1)
  obtain ⟨s, s0, s1, s2, s3⟩ := hS1.out
  have c1 := keep1 hb1 (by simp; omega) c1H.out.1
  have c2 := keep1 hb1 (by simp; omega) c1H.out.2
  have hb := below_box (below_box hb1)
  have hs := hb.size
  clear hb1
  have ne1 : b ≠ w.heap.size + 1 := by omega
  have ne2 : w.heap.size + 1 ≠ b := by omega
  have wA : IntKind.i64.wrap (A + (O + P * q)) = A + (O + P * q) := IntWalk.i64_in _ (by omega)
  have wB : IntKind.i64.wrap (B + (O + P * q)) = B + (O + P * q) := IntWalk.i64_in _ (by omega)
  go_wp2_with fail
  go_region_held3 (fun w' => (w'.cell? ⟨w.heap.size, 2, none⟩ = some (.slice (some ⟨b, 0, none⟩) n cap) ∧ (w'.cell? ⟨b, r * 2, none⟩ = some (.int .i64 A) ∧ w'.cell? ⟨b, r * 2 + 1, none⟩ = some (.int .i64 B))))
    (first | go_keep | (go_split_ands; simp [*]))
    (first | fail)
  go_wp2_with fail
  obtain ⟨_, y0, y1, _, _⟩ := (hS1.out.set0 (.int .i64 (A + (O + P * q)))).set1 (.int .i64 (B + (O + P * q)))
  rw [E.out.1, E.out.2] at y0 y1 ⊢
  refine bodyPost_ret (v := .agg #[.int .i64 (f k + O), .int .i64 (f (k + 1) + O)]) (by simp [results, Tryz.results48, go_sem, y0, y1]) rfl ⟨rfl, ?_⟩
  (repeat' (first | (with_reducible exact Below.refl _ _) | (with_reducible assumption) | (with_reducible refine below_drewN ?_ _) | (with_reducible refine Below.drew ?_) | (with_reducible refine Below.alloc ?_ ?_ _) | (with_reducible refine Below.setCell ?_ ?_ _) | (simp; done) | (simp; omega)))
end Go.Proofs.YtehjjinlpilelaaGreatDoor
namespace Go.Proofs.YtehjjinlpilelaaGreatDoor
open Go.ChangeShapes Go.WideShapes Go.ChangeAt Go.RowKit

set_option maxHeartbeats 4000000 in
set_option maxRecDepth 100000 in
theorem nnear_any (f : Int → Int) (n : Nat) (P O x k : Int) (b cap : Nat) (w : World) (g : Gra.Gr f n P) (hI : Ints w b (Gra.sp f n)) (o1 : -2199023255552 ≤ O) (o2 : O ≤ 2199023255552) (k1 : -10000000 ≤ k) (k2 : k ≤ 10000000) (x1 : -4398046511105 ≤ x) (x2 : x ≤ 4398046511104) (h1 : f k ≤ x - O) (h2 : x - O < f (k + 1)) :
    Calls Tryz.prog 49 #[.agg #[.int .i64 O, .int .i64 P, .slice (some ⟨b, 0, none⟩) n cap], .int .i64 x] w fun e w' => e = .returned (.int .i64 k) ∧ Below w.heap.size w w' := by
  have n1 := g.n1
  have n2 := g.n2
  have p1 := g.p1
  have p2 := g.p2
  obtain ⟨i, hi, i1, i2, hk, m0, m1, hm⟩ := g.find h1 h2
  obtain ⟨q, hq⟩ : ∃ q : Int, (x - O) / P = q := ⟨_, rfl⟩
  obtain ⟨R, hR⟩ : ∃ R : Int, (x - O) % P = R := ⟨_, rfl⟩
  rw [hq] at hk hm
  rw [hR] at i1 i2 m0 m1 hm
  have e1 : -10000000000 ≤ (n : Int) * q ∧ (n : Int) * q ≤ 10000000000 := by omega
  have e1' : -10000000000 ≤ q * (n : Int) ∧ q * (n : Int) ≤ 10000000000 := by rw [Int.mul_comm]; exact e1
  have hlt := hI.1
  have E := Lib.hid (And.intro hq (And.intro hR (And.intro i1 (And.intro i2 hk))))
  have gH := Lib.hid g
  have hIH := Lib.hid hI
  clear hk hm hq hR i1 i2 h1 h2 g hI
  go_enter Tryz.func49, Tryz.ntmps49
  go_wp2_with fail
  refine (div_b _ _ _ (by omega) (by omega) (by omega) (by omega)).mono ?_; rintro e w1 ⟨rfl, hb1⟩
  rw [E.out.1, E.out.2.1]
  have hC1 := (CalC.new w O P b n cap).later hb1
  have hC1H := Lib.hid hC1
  have hI1 := Lib.hid ((hIH.out.alloc _).later hb1)
  have hb := below_box hb1
  obtain ⟨d, c0, c1, c2⟩ := hC1
  clear hb1
  go_wp2_with fail
  clear d c0 c1 c2
  go_loopg [8, 25] 4802 (fun g t8 t25 wr => ∃ j m : Nat, j ≤ n ∧ t25 = .int .i64 j ∧ t8 = .int .i64 m ∧ (j ≤ i + 1 → m = j - 1) ∧ (i + 1 ≤ j → m = i) ∧ Below w.heap.size w wr ∧ CalC wr w.heap.size O P b n cap ∧ Ints wr b (Gra.sp f n) ∧ n - j ≤ g)
  case atStart => exact ⟨0, 0, by omega, rfl, rfl, by omega, by omega, hb, hC1H.out, hI1.out, by omega⟩
  case round =>
    clear hb hC1H hI1
    obtain ⟨j, m, a1, rfl, rfl, a2, a3, hb, hC, hI, hg⟩ := hrel
    have hCH := Lib.hid hC
    have hIr := Lib.hid hI
    have M := Lib.hid (And.intro a2 a3)
    obtain ⟨d, c0, c1, c2⟩ := hC
    have hltr := hI.1
    clear hI a2 a3
    by_cases hlt : j < n
    · obtain ⟨l1, l2⟩ := row_at hIr.out hlt
      obtain ⟨T1, T2⟩ := gH.out.test (j := j) E.out.2.2.1 E.out.2.2.2.1
      obtain ⟨A, hA⟩ : ∃ A, f (j : Int) = A := ⟨_, rfl⟩
      rw [hA] at l1 T1 T2
      clear hA
      have hs := hb.size
      by_cases hc : i < j
      · have T3 := T1 hc
        clear T1 T2
        go_wp2_with fail
        go_roundg (gk - 1)
        case measure => omega
        case rel => exact ⟨j + 1, m, by omega, by go_num, rfl, by omega, by have := M.out.2; omega, hb.alloc hs _, hCH.out.alloc _, hIr.out.alloc _, by omega⟩
      · have T3 := T2 (by omega)
        clear T1 T2
        go_wp2_with fail
        go_roundg (gk - 1)
        case measure => omega
        case rel => exact ⟨j + 1, j, by omega, by go_num, rfl, by omega, by omega, hb.alloc hs _, hCH.out.alloc _, hIr.out.alloc _, by omega⟩
    · have e : j = n := by omega
      have em : m = i := M.out.2 (by omega)
      have hm2 : m ≤ 4800 := by omega
      have eH := Lib.hid (And.intro e em)
      clear e em
      go_wp2_with fail
      go_ret
      exact ⟨ret_int (by have := E.out.2.2.2.2; rw [Int.mul_comm] at this; have := eH.out; omega), hb⟩
set_option maxHeartbeats 2000000 in
/-- the first granule that begins at x or behind it, x being where the granule k begins -/
theorem ninside_any (f : Int → Int) (n : Nat) (P O x k : Int) (b cap : Nat) (w : World) (g : Gra.Gr f n P) (hI : Ints w b (Gra.sp f n)) (o1 : -2199023255552 ≤ O) (o2 : O ≤ 2199023255552) (k1 : -9999999 ≤ k) (k2 : k ≤ 10000000) (x1 : -4398046511104 ≤ x) (x2 : x ≤ 4398046511104) (hx : f k = x - O) :
    Calls Tryz.prog 78 #[.agg #[.int .i64 O, .int .i64 P, .slice (some ⟨b, 0, none⟩) n cap], .int .i64 x] w fun e w' => e = .returned (.int .i64 k) ∧ Below w.heap.size w w' := by
  have hup := g.up (k - 1)
  rw [show k - 1 + 1 = k by omega] at hup
  have H := Lib.hid (nnear_any f n P O (x - 1) (k - 1) b cap (w.alloc (Obj.cells #[.int .i64 O, .int .i64 P, .slice (some ⟨b, 0, none⟩) n cap] 34)) g (hI.alloc _) o1 o2 (by omega) (by omega) (by omega) (by omega) (by omega) (by rw [show k - 1 + 1 = k by omega]; omega))
  clear g hI hx hup
  go_enter Tryz.func78, Tryz.ntmps78
  go_wp2_with fail
  refine H.out.mono ?_; rintro e w1 ⟨rfl, hb1⟩
  go_wp2_with fail
  go_ret
  exact ⟨ret_int (by omega), below_box hb1⟩
end Go.Proofs.YtehjjinlpilelaaGreatDoor
