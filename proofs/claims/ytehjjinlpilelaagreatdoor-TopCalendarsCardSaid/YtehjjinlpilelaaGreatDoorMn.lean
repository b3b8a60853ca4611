/- Contracts of conversion.valid, Up, Place, Between and Add, and of granule.Equal. Conditions: calendars of granules that repeat, and sizes. -/
import Derived.Deep.RegionWith
import Derived.Test.YtehjjinlpilelaaGreatDoorMm
namespace Go.Proofs.YtehjjinlpilelaaGreatDoor
open Go.ChangeShapes Go.WideShapes Go.ChangeAt Go.RowKit

theorem CalC.next {w w1 : World} {O P : Int} {b n cap : Nat} {o : Obj} (hb : Below ((w.alloc o).alloc (.cells #[.int .i64 O, .int .i64 P, .slice (some ⟨b, 0, none⟩) n cap] 34)).heap.size ((w.alloc o).alloc (.cells #[.int .i64 O, .int .i64 P, .slice (some ⟨b, 0, none⟩) n cap] 34)) w1) : CalC w1 (w.heap.size + 1) O P b n cap := by
  have := (CalC.new (w.alloc o) O P b n cap).later hb
  simpa using this
set_option maxHeartbeats 2000000 in
set_option maxRecDepth 100000 in
theorem nvalid_any (f1 : Int → Int) (n1 : Nat) (P1 O1 : Int) (b1 cap1 : Nat) (f2 : Int → Int) (n2 : Nat) (P2 O2 : Int) (b2 cap2 : Nat) (w : World) (g1 : Gra.Gr f1 n1 P1) (hI1 : Ints w b1 (Gra.sp f1 n1)) (o11 : -2199023255552 ≤ O1) (o12 : O1 ≤ 2199023255552) (g2 : Gra.Gr f2 n2 P2) (hI2 : Ints w b2 (Gra.sp f2 n2)) (o21 : -2199023255552 ≤ O2) (o22 : O2 ≤ 2199023255552) :
    Calls Tryz.prog 101 #[.agg #[.int .i64 O1, .int .i64 P1, .slice (some ⟨b1, 0, none⟩) n1 cap1], .agg #[.int .i64 O2, .int .i64 P2, .slice (some ⟨b2, 0, none⟩) n2 cap2]] w fun e w' => e = .returned (.bool true) ∧ Below w.heap.size w w' := by
  have H1 := Lib.hid (gvalid_any f1 n1 P1 O1 b1 cap1 ((w.alloc (Obj.cells #[.int .i64 O1, .int .i64 P1, .slice (some ⟨b1, 0, none⟩) n1 cap1] 34)).alloc (Obj.cells #[.int .i64 O2, .int .i64 P2, .slice (some ⟨b2, 0, none⟩) n2 cap2] 34)) g1 ((hI1.alloc _).alloc _) o11 o12)
  have hI2H := Lib.hid ((hI2.alloc (Obj.cells #[.int .i64 O1, .int .i64 P1, .slice (some ⟨b1, 0, none⟩) n1 cap1] 34)).alloc (Obj.cells #[.int .i64 O2, .int .i64 P2, .slice (some ⟨b2, 0, none⟩) n2 cap2] 34))
  have gH := Lib.hid g2
  clear g1 hI1 g2 hI2
  go_enter Tryz.func101, Tryz.ntmps101
  go_wp2_with fail
  refine H1.out.mono ?_; rintro e w1 ⟨rfl, hb1⟩
  obtain ⟨d, c0, c1, c2⟩ := CalC.next hb1
  have hb := below_box (below_box hb1)
  have hI3 := Lib.hid (hI2H.out.later hb1)
  clear hb1
  go_wp2_with fail
  refine (gvalid_any f2 n2 P2 O2 b2 cap2 _ gH.out hI3.out o21 o22).mono ?_; rintro e w2 ⟨rfl, hb2⟩
  go_wp2_with fail
  go_ret
  exact ⟨rfl, below_then hb hb2⟩
set_option maxHeartbeats 4000000 in
set_option maxRecDepth 100000 in
theorem nup_any (f1 : Int → Int) (n1 : Nat) (P1 O1 : Int) (b1 cap1 : Nat) (f2 : Int → Int) (n2 : Nat) (P2 O2 : Int) (b2 cap2 : Nat) (k m : Int) (w : World) (g1 : Gra.Gr f1 n1 P1) (hI1 : Ints w b1 (Gra.sp f1 n1)) (o11 : -2199023255552 ≤ O1) (o12 : O1 ≤ 2199023255552) (g2 : Gra.Gr f2 n2 P2) (hI2 : Ints w b2 (Gra.sp f2 n2)) (o21 : -2199023255552 ≤ O2) (o22 : O2 ≤ 2199023255552) (k1 : -10000000 ≤ k) (k2 : k ≤ 10000000) (r1 : -4398046511103 ≤ f1 k + O1) (r2 : f1 (k + 1) + O1 ≤ 4398046511103) (m1 : -10000000 ≤ m) (m2 : m ≤ 10000000) (h1 : f2 m + O2 ≤ f1 k + O1) (h2 : f1 (k + 1) + O1 ≤ f2 (m + 1) + O2) :
    Calls Tryz.prog 77 #[.agg #[.int .i64 O1, .int .i64 P1, .slice (some ⟨b1, 0, none⟩) n1 cap1], .agg #[.int .i64 O2, .int .i64 P2, .slice (some ⟨b2, 0, none⟩) n2 cap2], .int .i64 k] w fun e w' => e = .returned (.tuple #[.int .i64 m, .bool true]) ∧ Below w.heap.size w w' := by
  have hup := g1.up k
  obtain ⟨A, hA⟩ : ∃ A, f1 k + O1 = A := ⟨_, rfl⟩
  obtain ⟨B, hB⟩ : ∃ B, f1 (k + 1) + O1 = B := ⟨_, rfl⟩
  obtain ⟨C, hC⟩ : ∃ C, f2 (m + 1) + O2 = C := ⟨_, rfl⟩
  have hAB : A < B := by omega
  have q1 : decide (C < B) = false := decide_eq_false (by omega)
  have Hv := Lib.hid (nvalid_any f1 n1 P1 O1 b1 cap1 f2 n2 P2 O2 b2 cap2 ((w.alloc (Obj.cells #[.int .i64 O1, .int .i64 P1, .slice (some ⟨b1, 0, none⟩) n1 cap1] 34)).alloc (Obj.cells #[.int .i64 O2, .int .i64 P2, .slice (some ⟨b2, 0, none⟩) n2 cap2] 34)) g1 ((hI1.alloc _).alloc _) o11 o12 g2 ((hI2.alloc _).alloc _) o21 o22)
  have g1H := Lib.hid g1
  have g2H := Lib.hid g2
  have hI1H := Lib.hid ((hI1.alloc (Obj.cells #[.int .i64 O1, .int .i64 P1, .slice (some ⟨b1, 0, none⟩) n1 cap1] 34)).alloc (Obj.cells #[.int .i64 O2, .int .i64 P2, .slice (some ⟨b2, 0, none⟩) n2 cap2] 34))
  have hI2H := Lib.hid ((hI2.alloc (Obj.cells #[.int .i64 O1, .int .i64 P1, .slice (some ⟨b1, 0, none⟩) n1 cap1] 34)).alloc (Obj.cells #[.int .i64 O2, .int .i64 P2, .slice (some ⟨b2, 0, none⟩) n2 cap2] 34))
  have E := Lib.hid (And.intro hA (And.intro hB (And.intro hC (And.intro h1 h2))))
  have F := Lib.hid (And.intro r1 r2)
  have hC1H := Lib.hid ((CalC.new w O1 P1 b1 n1 cap1).alloc (Obj.cells #[.int .i64 O2, .int .i64 P2, .slice (some ⟨b2, 0, none⟩) n2 cap2] 34))
  clear hup hA hB hC g1 g2 hI1 hI2 h1 h2 r1 r2
  go_enter Tryz.func77, Tryz.ntmps77
  go_wp2_with fail
  refine Hv.out.mono ?_; rintro e w1 ⟨rfl, hb1⟩
  have hD2 := CalC.next hb1
  have hb := below_box (below_box hb1)
  have hJ1 := Lib.hid (hI1H.out.later hb1)
  have hJ2 := Lib.hid (hI2H.out.later hb1)
  have hD1 := hC1H.out.later hb1
  have hD1H := Lib.hid hD1
  have hD2H := Lib.hid hD2
  clear hb1
  obtain ⟨d, c0, c1, c2⟩ := hD1
  obtain ⟨d', c0', c1', c2'⟩ := hD2
  go_wp2_with fail
  refine (nreach_any f1 n1 P1 O1 k b1 cap1 _ g1H.out hJ1.out o11 o12 k1 k2 F.out.1 F.out.2).mono ?_; rintro e w2 ⟨rfl, hb2⟩
  rw [E.out.1, E.out.2.1]
  have hb := below_then hb hb2
  have hK2 := Lib.hid (hJ2.out.later hb2)
  have hD2 := hD2H.out.later hb2
  clear hJ2 d c0 c1 c2 d' c0' c1' c2' hD1H hD2H
  have hD2H := Lib.hid hD2
  obtain ⟨d', c0', c1', c2'⟩ := hD2
  go_wp2_with fail
  refine (nnear_any f2 n2 P2 O2 A m b2 cap2 _ g2H.out (hK2.out.alloc _) o21 o22 m1 m2 (by have h := E.out.1; have h2 := F.out.1; omega) (by have h := E.out.2.1; have h2 := F.out.2; omega) (by have h := E.out; omega) (by have h := E.out; omega)).mono ?_; rintro e w3 ⟨rfl, hb3⟩
  have hS := BoxS.born hb3
  have hb := below_then hb (below_box hb3)
  have hK3 := Lib.hid ((hK2.out.alloc _).later hb3)
  have hD3 := (hD2H.out.alloc _).later hb3
  clear hb3 hK2 d' c0' c1' c2' hD2H
  obtain ⟨d', c0', c1', c2'⟩ := hD3
  obtain ⟨s', s0, s1, _, _⟩ := hS
  have hs := hb.size
  have hfd := fun (a b : Int) (w : World) => field1_any a b w
  go_wp2_with fail
  go_region_held3 (fun w' => ((w'.cell? ⟨w.heap.size + 1, 0, none⟩ = some (.int .i64 O2) ∧ w'.cell? ⟨w.heap.size + 1, 1, none⟩ = some (.int .i64 P2)) ∧ w'.cell? ⟨w.heap.size + 1, 2, none⟩ = some (.slice (some ⟨b2, 0, none⟩) n2 cap2)) ∧ w'.cell? ⟨w2.heap.size, 1, none⟩ = some (.int .i64 B))
    (first | go_keep | (go_split_ands; exact ⟨⟨⟨keep1 hb9 (by simp; omega) (by assumption), keep1 hb9 (by simp; omega) (by assumption)⟩, keep1 hb9 (by simp; omega) (by assumption)⟩, keep1 hb9 (by simp; omega) (by assumption)⟩))
    (first | (go_at_call 48; refine (nplace_any f2 n2 P2 O2 m b2 cap2 _ g2H.out hK3.out.drew o21 o22 m1 m2).mono ?_; rintro e w9 ⟨he, hb9⟩; rw [E.out.2.2.1] at he; subst he))
  have hb := below_then hb (below_undrewG hb9)
  go_wp2_with fail
  go_ret2
  exact ⟨rfl, hb⟩
end Go.Proofs.YtehjjinlpilelaaGreatDoor
namespace Go.Proofs.YtehjjinlpilelaaGreatDoor
open Go.ChangeShapes Go.WideShapes Go.ChangeAt Go.RowKit

theorem Ints.seq2 {w : World} {f : Int → Int} {n b cap : Nat} (h : Ints w b (Gra.sp f n)) (hn : 0 < n) : Seq2 w (.slice (some ⟨b, 0, none⟩) n cap) n (Gra.sp f n) :=
  Or.inr ⟨hn, by rw [Gra.sp_len]; omega, b, cap, rfl, h⟩
set_option maxHeartbeats 4000000 in
set_option maxRecDepth 100000 in
theorem gequal_any (f : Int → Int) (n : Nat) (P O : Int) (b1 cap1 b2 cap2 : Nat) (w : World) (g : Gra.Gr f n P) (hI1 : Ints w b1 (Gra.sp f n)) (hI2 : Ints w b2 (Gra.sp f n)) (o1 : -2199023255552 ≤ O) (o2 : O ≤ 2199023255552) :
    Calls Tryz.prog 35 #[.agg #[.int .i64 O, .int .i64 P, .slice (some ⟨b1, 0, none⟩) n cap1], .agg #[.int .i64 O, .int .i64 P, .slice (some ⟨b2, 0, none⟩) n cap2]] w fun e w' => e = .returned (.bool true) ∧ Below w.heap.size w w' := by
  have n1 := g.n1
  have n2 := g.n2
  have H1 := Lib.hid (gvalid_any f n P O b1 cap1 ((w.alloc (Obj.cells #[.int .i64 O, .int .i64 P, .slice (some ⟨b1, 0, none⟩) n cap1] 34)).alloc (Obj.cells #[.int .i64 O, .int .i64 P, .slice (some ⟨b2, 0, none⟩) n cap2] 34)) g ((hI1.alloc _).alloc _) o1 o2)
  have hI1H := Lib.hid ((hI1.alloc (Obj.cells #[.int .i64 O, .int .i64 P, .slice (some ⟨b1, 0, none⟩) n cap1] 34)).alloc (Obj.cells #[.int .i64 O, .int .i64 P, .slice (some ⟨b2, 0, none⟩) n cap2] 34))
  have hI2H := Lib.hid ((hI2.alloc (Obj.cells #[.int .i64 O, .int .i64 P, .slice (some ⟨b1, 0, none⟩) n cap1] 34)).alloc (Obj.cells #[.int .i64 O, .int .i64 P, .slice (some ⟨b2, 0, none⟩) n cap2] 34))
  have hC1H := Lib.hid ((CalC.new w O P b1 n cap1).alloc (Obj.cells #[.int .i64 O, .int .i64 P, .slice (some ⟨b2, 0, none⟩) n cap2] 34))
  have gH := Lib.hid g
  clear hI1 hI2 g
  go_enter Tryz.func35, Tryz.ntmps35
  go_wp2_with fail
  refine H1.out.mono ?_; rintro e w1 ⟨rfl, hb1⟩
  have hD2 := CalC.next hb1
  have hD1 := hC1H.out.later hb1
  have hD1H := Lib.hid hD1
  have hD2H := Lib.hid hD2
  have hb := below_box (below_box hb1)
  have hJ1 := Lib.hid (hI1H.out.later hb1)
  have hJ2 := Lib.hid (hI2H.out.later hb1)
  clear hb1
  obtain ⟨d, c0, c1, c2⟩ := hD1
  obtain ⟨d', c0', c1', c2'⟩ := hD2
  go_wp2_with fail
  refine (gvalid_any f n P O b2 cap2 _ gH.out hJ2.out o1 o2).mono ?_; rintro e w2 ⟨rfl, hb2⟩
  have hK1 := Lib.hid (hJ1.out.later hb2)
  have hK2 := Lib.hid (hJ2.out.later hb2)
  have hD1 := hD1H.out.later hb2
  have hD2 := hD2H.out.later hb2
  have hb := below_then hb hb2
  clear hb2 d c0 c1 c2 d' c0' c1' c2' hD1H hD2H hJ1 hJ2
  obtain ⟨d, c0, c1, c2⟩ := hD1
  obtain ⟨d', c0', c1', c2'⟩ := hD2
  go_wp2_with fail
  refine (equal_spans _ _ n (Gra.sp f n) _ (hK1.out.seq2 n1) (hK2.out.seq2 n1) (by omega)).mono ?_; rintro e w3 ⟨rfl, hb3⟩
  go_wp2_with fail
  go_ret
  exact ⟨rfl, below_then hb hb3⟩
end Go.Proofs.YtehjjinlpilelaaGreatDoor
namespace Go.Proofs.YtehjjinlpilelaaGreatDoor
open Go.ChangeShapes Go.WideShapes Go.ChangeAt Go.RowKit

set_option maxHeartbeats 4000000 in
set_option maxRecDepth 100000 in
theorem nplaceof_any (f1 : Int → Int) (n1 : Nat) (P1 O1 : Int) (b1 cap1 : Nat) (f2 : Int → Int) (n2 : Nat) (P2 O2 : Int) (b2 cap2 : Nat) (k m j : Int) (w : World) (g1 : Gra.Gr f1 n1 P1) (hI1 : Ints w b1 (Gra.sp f1 n1)) (o11 : -2199023255552 ≤ O1) (o12 : O1 ≤ 2199023255552) (g2 : Gra.Gr f2 n2 P2) (hI2 : Ints w b2 (Gra.sp f2 n2)) (o21 : -2199023255552 ≤ O2) (o22 : O2 ≤ 2199023255552) (k1 : -10000000 ≤ k) (k2 : k ≤ 10000000) (r1 : -4398046511103 ≤ f1 k + O1) (r2 : f1 (k + 1) + O1 ≤ 4398046511103) (m1 : -10000000 ≤ m) (m2 : m ≤ 10000000) (h1 : f2 m + O2 ≤ f1 k + O1) (h2 : f1 (k + 1) + O1 ≤ f2 (m + 1) + O2)
    (j1 : -9999999 ≤ j) (j2 : j ≤ 10000000) (s1 : -4398046511104 ≤ f2 m + O2) (hj : f1 j + O1 = f2 m + O2) :
    Calls Tryz.prog 31 #[.agg #[.int .i64 O1, .int .i64 P1, .slice (some ⟨b1, 0, none⟩) n1 cap1], .agg #[.int .i64 O2, .int .i64 P2, .slice (some ⟨b2, 0, none⟩) n2 cap2], .int .i64 k] w fun e w' => e = .returned (.tuple #[.int .i64 m, .int .i64 (k - j + 1), .bool true]) ∧ Below w.heap.size w w' := by
  have hup := g1.up k
  obtain ⟨C, hC⟩ : ∃ C, f2 m + O2 = C := ⟨_, rfl⟩
  have Hu := Lib.hid (nup_any f1 n1 P1 O1 b1 cap1 f2 n2 P2 O2 b2 cap2 k m ((w.alloc (Obj.cells #[.int .i64 O1, .int .i64 P1, .slice (some ⟨b1, 0, none⟩) n1 cap1] 34)).alloc (Obj.cells #[.int .i64 O2, .int .i64 P2, .slice (some ⟨b2, 0, none⟩) n2 cap2] 34)) g1 ((hI1.alloc _).alloc _) o11 o12 g2 ((hI2.alloc _).alloc _) o21 o22 k1 k2 r1 r2 m1 m2 h1 h2)
  have hj' : f1 j = C - O1 := by omega
  have c1 : -4398046511104 ≤ C := by omega
  have c2 : C ≤ 4398046511104 := by omega
  have g1H := Lib.hid g1
  have g2H := Lib.hid g2
  have hI1H := Lib.hid ((hI1.alloc (Obj.cells #[.int .i64 O1, .int .i64 P1, .slice (some ⟨b1, 0, none⟩) n1 cap1] 34)).alloc (Obj.cells #[.int .i64 O2, .int .i64 P2, .slice (some ⟨b2, 0, none⟩) n2 cap2] 34))
  have hI2H := Lib.hid ((hI2.alloc (Obj.cells #[.int .i64 O1, .int .i64 P1, .slice (some ⟨b1, 0, none⟩) n1 cap1] 34)).alloc (Obj.cells #[.int .i64 O2, .int .i64 P2, .slice (some ⟨b2, 0, none⟩) n2 cap2] 34))
  have E := Lib.hid (And.intro hC hj')
  have hC1H := Lib.hid ((CalC.new w O1 P1 b1 n1 cap1).alloc (Obj.cells #[.int .i64 O2, .int .i64 P2, .slice (some ⟨b2, 0, none⟩) n2 cap2] 34))
  clear hup hC g1 g2 hI1 hI2 h1 h2 r1 r2 hj hj' s1
  go_enter Tryz.func31, Tryz.ntmps31
  go_wp2_with fail
  refine Hu.out.mono ?_; rintro e w1 ⟨rfl, hb1⟩
  have hD2 := CalC.next hb1
  have hb := below_box (below_box hb1)
  have hJ1 := Lib.hid (hI1H.out.later hb1)
  have hJ2 := Lib.hid (hI2H.out.later hb1)
  have hD1 := hC1H.out.later hb1
  clear hb1
  obtain ⟨d, c0, c1, c2⟩ := hD1
  obtain ⟨d', c0', c1', c2'⟩ := hD2
  have hs := hb.size
  have w1' : IntKind.i64.wrap (k - j) = k - j := IntWalk.i64_in _ (by omega)
  have w2' : IntKind.i64.wrap (k - j + 1) = k - j + 1 := IntWalk.i64_in _ (by omega)
  have hfd := fun (a b : Int) (w : World) => field0_any a b w
  go_wp2_with fail
  go_region_held3 (fun w' => ((w'.cell? ⟨w.heap.size, 0, none⟩ = some (.int .i64 O1) ∧ w'.cell? ⟨w.heap.size, 1, none⟩ = some (.int .i64 P1)) ∧ w'.cell? ⟨w.heap.size, 2, none⟩ = some (.slice (some ⟨b1, 0, none⟩) n1 cap1)) ∧ ((w'.cell? ⟨w.heap.size + 1, 0, none⟩ = some (.int .i64 O2) ∧ w'.cell? ⟨w.heap.size + 1, 1, none⟩ = some (.int .i64 P2)) ∧ w'.cell? ⟨w.heap.size + 1, 2, none⟩ = some (.slice (some ⟨b2, 0, none⟩) n2 cap2)))
    (first | go_keep | (go_split_ands; exact ⟨⟨⟨keep1 hb9 (by simp; omega) (by assumption), keep1 hb9 (by simp; omega) (by assumption)⟩, keep1 hb9 (by simp; omega) (by assumption)⟩, ⟨⟨keep1 hb9 (by simp; omega) (by assumption), keep1 hb9 (by simp; omega) (by assumption)⟩, keep1 hb9 (by simp; omega) (by assumption)⟩⟩))
    (first | (go_at_call 48; refine (nplace_any f2 n2 P2 O2 m b2 cap2 _ g2H.out hJ2.out.drew o21 o22 m1 m2).mono ?_; rintro e w9 ⟨he, hb9⟩; rw [E.out.1] at he; subst he) | (go_at_call 78; refine (ninside_any f1 n1 P1 O1 C j b1 cap1 _ g1H.out (hJ1.out.drew.later hb9) o11 o12 j1 j2 (by omega) (by omega) E.out.2).mono ?_; rintro e w8 ⟨rfl, hb8⟩; have hb9 := below_then hb9 hb8; clear hb8))
  have hb := below_then hb (below_undrewG hb9)
  go_wp2_with fail
  go_ret3
  exact ⟨rfl, hb⟩
end Go.Proofs.YtehjjinlpilelaaGreatDoor
namespace Go.Proofs.YtehjjinlpilelaaGreatDoor
open Go.ChangeShapes Go.WideShapes Go.ChangeAt Go.RowKit

set_option maxHeartbeats 4000000 in
set_option maxRecDepth 100000 in
theorem nbetween_any (f : Int → Int) (n : Nat) (P O : Int) (b cap : Nat) (x y k m : Int) (w : World) (g : Gra.Gr f n P) (hI : Ints w b (Gra.sp f n)) (o1 : -2199023255552 ≤ O) (o2 : O ≤ 2199023255552) (k1 : -10000000 ≤ k) (k2 : k ≤ 10000000) (m1 : -10000000 ≤ m) (m2 : m ≤ 10000000) (x1 : -4398046511104 ≤ x) (x2 : x ≤ 4398046511104) (y1 : -4398046511104 ≤ y) (y2 : y ≤ 4398046511104) (h1 : f k ≤ x - O) (h2 : x - O < f (k + 1)) (h3 : f m ≤ y - O) (h4 : y - O < f (m + 1)) :
    Calls Tryz.prog 11 #[.agg #[.int .i64 O, .int .i64 P, .slice (some ⟨b, 0, none⟩) n cap], .int .i64 x, .int .i64 y] w fun e w' => e = .returned (.tuple #[.int .i64 (m - k), .int .i64 0]) ∧ Below w.heap.size w w' := by
  have Hv := Lib.hid (gvalid_any f n P O b cap (w.alloc (Obj.cells #[.int .i64 O, .int .i64 P, .slice (some ⟨b, 0, none⟩) n cap] 34)) g (hI.alloc _) o1 o2)
  have gH := Lib.hid g
  have hIH := Lib.hid (hI.alloc (Obj.cells #[.int .i64 O, .int .i64 P, .slice (some ⟨b, 0, none⟩) n cap] 34))
  have X := Lib.hid (And.intro h1 h2)
  have Y := Lib.hid (And.intro h3 h4)
  clear h1 h2 h3 h4 g hI
  go_enter Tryz.func11, Tryz.ntmps11
  go_wp2_with fail
  refine Hv.out.mono ?_; rintro e w1 ⟨rfl, hb1⟩
  have hb := below_box hb1
  have hJ := Lib.hid (hIH.out.later hb1)
  obtain ⟨d, c0, c1, c2⟩ := (CalC.new w O P b n cap).later hb1
  clear hb1
  have hs := hb.size
  have w1' : IntKind.i64.wrap (m - k) = m - k := IntWalk.i64_in _ (by omega)
  go_wp2_with fail
  all_goals
    go_region_held3 (fun w' => ((w'.cell? ⟨w.heap.size, 0, none⟩ = some (.int .i64 O) ∧ w'.cell? ⟨w.heap.size, 1, none⟩ = some (.int .i64 P)) ∧ w'.cell? ⟨w.heap.size, 2, none⟩ = some (.slice (some ⟨b, 0, none⟩) n cap)))
      (first | go_keep | (go_split_ands; exact ⟨⟨keep1 hb9 (by simp; omega) (by assumption), keep1 hb9 (by simp; omega) (by assumption)⟩, keep1 hb9 (by simp; omega) (by assumption)⟩))
      (first | (go_at_call_of 49 y; refine (nnear_any f n P O y m b cap _ gH.out hJ.out.drew o1 o2 m1 m2 (by omega) y2 Y.out.1 Y.out.2).mono ?_; rintro e w9 ⟨rfl, hb9⟩) | (go_at_call_of 49 x; refine (nnear_any f n P O x k b cap _ gH.out (hJ.out.drew.later hb9) o1 o2 k1 k2 (by omega) x2 X.out.1 X.out.2).mono ?_; rintro e w8 ⟨rfl, hb8⟩; have hb9 := below_then hb9 hb8; clear hb8))
    have hb := below_then hb (below_undrewG hb9)
    go_wp2_with fail
    go_ret2
    exact ⟨rfl, hb⟩


end Go.Proofs.YtehjjinlpilelaaGreatDoor
namespace Go.Proofs.YtehjjinlpilelaaGreatDoor
open Go.ChangeShapes Go.WideShapes Go.ChangeAt Go.RowKit

set_option maxHeartbeats 4000000 in
set_option maxRecDepth 100000 in
theorem nadd_any (f : Int → Int) (n : Nat) (P O : Int) (b cap : Nat) (x s k M : Int) (w : World) (g : Gra.Gr f n P) (hI : Ints w b (Gra.sp f n)) (o1 : -2199023255552 ≤ O) (o2 : O ≤ 2199023255552) (k1 : -10000000 ≤ k) (k2 : k ≤ 10000000) (s1 : -10000000 ≤ k + s) (s2 : k + s ≤ 10000000) (x1 : -4398046511104 ≤ x) (x2 : x ≤ 4398046511104) (h1 : f k ≤ x - O) (h2 : x - O < f (k + 1)) (r0 : -4398046511103 ≤ f k + O) (r1 : -4398046511103 ≤ f (k + s) + O) (r2 : f (k + s + 1) + O ≤ 4398046511103)
    (hM : (f (k + s) + x - f k ≤ f (k + s + 1) + O - 1 ∧ M = f (k + s) + x - f k) ∨ (f (k + s + 1) + O - 1 < f (k + s) + x - f k ∧ M = f (k + s + 1) + O - 1)) :
    Calls Tryz.prog 10 #[.agg #[.int .i64 O, .int .i64 P, .slice (some ⟨b, 0, none⟩) n cap], .int .i64 x, .int .i64 s] w fun e w' => e = .returned (.tuple #[.int .i64 M, .int .i64 0]) ∧ Below w.heap.size w w' := by
  have Hv := Lib.hid (gvalid_any f n P O b cap (w.alloc (Obj.cells #[.int .i64 O, .int .i64 P, .slice (some ⟨b, 0, none⟩) n cap] 34)) g (hI.alloc _) o1 o2)
  have gH := Lib.hid g
  have hIH := Lib.hid (hI.alloc (Obj.cells #[.int .i64 O, .int .i64 P, .slice (some ⟨b, 0, none⟩) n cap] 34))
  have X := Lib.hid (And.intro h1 (And.intro h2 (And.intro r1 r2)))
  have r3 := g.up (k + s)
  obtain ⟨A, hA⟩ : ∃ A, f (k + s) + O = A := ⟨_, rfl⟩
  obtain ⟨B, hB⟩ : ∃ B, f (k + s + 1) + O = B := ⟨_, rfl⟩
  obtain ⟨C, hC⟩ : ∃ C, f k + O = C := ⟨_, rfl⟩
  rw [hB] at hM
  rw [hC] at r0
  have b1 : -4398046511103 ≤ A ∧ A < B ∧ B ≤ 4398046511103 := by omega
  have b2 : C ≤ 4398046511104 := by omega
  have E := Lib.hid (And.intro hA (And.intro hB hC))
  have hM' : (A + x - C ≤ B - 1 ∧ M = A + x - C) ∨ (B - 1 < A + x - C ∧ M = B - 1) := by omega
  clear h1 h2 r1 r2 r3 g hI hA hB hC hM
  rcases hM' with ⟨hm, hM⟩ | ⟨hm, hM⟩
  all_goals
    have MH := Lib.hid hM
    clear hM
    go_enter Tryz.func10, Tryz.ntmps10
    go_wp2_with fail
    refine Hv.out.mono ?_; rintro e w1 ⟨rfl, hb1⟩
    have hb := below_box hb1
    have hJ := Lib.hid (hIH.out.later hb1)
    have hD := (CalC.new w O P b n cap).later hb1
    have hDH := Lib.hid hD
    obtain ⟨d, c0, c1, c2⟩ := hD
    clear hb1
    go_wp2_with fail
    refine (gfind_any f n P O x k b cap _ gH.out hJ.out o1 o2 k1 k2 x1 x2 X.out.1 X.out.2.1).mono ?_; rintro e w2 ⟨rfl, hb2⟩
    have hb := below_then hb hb2
    have hJ2 := Lib.hid (hJ.out.later hb2)
    have hD := hDH.out.later hb2
    clear hb2 d c0 c1 c2 hDH hJ
    have hDH := Lib.hid hD
    obtain ⟨d, c0, c1, c2⟩ := hD
    go_wp2_with fail
    refine (nreach_any f n P O (k + s) b cap _ gH.out hJ2.out o1 o2 s1 s2 X.out.2.2.1 X.out.2.2.2).mono ?_; rintro e w3 ⟨rfl, hb3⟩
    rw [E.out.1, E.out.2.1]
    have hb := below_then hb hb3
    have hJ3 := Lib.hid (hJ2.out.later hb3)
    have hD := hDH.out.later hb3
    clear hb3 d c0 c1 c2 hDH hJ2
    obtain ⟨d, c0, c1, c2⟩ := hD
    have hJ4 := Lib.hid (hJ3.out.alloc (Obj.cells #[.int .i64 A, .int .i64 B] 73))
    have hs := hb.size
    have hfd := fun (a b : Int) (w : World) => field0_any a b w
    have w1' : IntKind.i64.wrap (A + x) = A + x := IntWalk.i64_in _ (by omega)
    have w2' : IntKind.i64.wrap (A + x - C) = A + x - C := IntWalk.i64_in _ (by omega)
    have w3' : IntKind.i64.wrap (B - 1) = B - 1 := IntWalk.i64_in _ (by omega)
    go_wp2_with fail
    go_region_held3 (fun w' => ((w'.cell? ⟨w.heap.size, 0, none⟩ = some (.int .i64 O) ∧ w'.cell? ⟨w.heap.size, 1, none⟩ = some (.int .i64 P)) ∧ w'.cell? ⟨w.heap.size, 2, none⟩ = some (.slice (some ⟨b, 0, none⟩) n cap)) ∧ (w'.cell? ⟨w3.heap.size, 0, none⟩ = some (.int .i64 A) ∧ w'.cell? ⟨w3.heap.size, 1, none⟩ = some (.int .i64 B)))
      (first | go_keep | (go_split_ands; exact ⟨⟨⟨keep1 hb9 (by simp <;> omega) (by assumption), keep1 hb9 (by simp <;> omega) (by assumption)⟩, keep1 hb9 (by simp <;> omega) (by assumption)⟩, ⟨keep1 hb9 (by simp <;> omega) (by assumption), keep1 hb9 (by simp <;> omega) (by assumption)⟩⟩))
      (first | (go_at_call 48; refine (nplace_any f n P O k b cap _ gH.out hJ4.out.drew o1 o2 k1 k2).mono ?_; rintro e w9 ⟨he, hb9⟩; rw [E.out.2.2] at he; subst he))
    have hb := below_then hb (below_box (below_undrewG hb9))
    go_wp2_with fail
    go_ret2
    exact ⟨by rw [MH.out]; rfl, hb⟩

end Go.Proofs.YtehjjinlpilelaaGreatDoor
