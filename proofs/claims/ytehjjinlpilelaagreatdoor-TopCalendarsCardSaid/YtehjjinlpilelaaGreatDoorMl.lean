/- Contracts of granule.Valid, granule.at, sort.Search and granule.Near. Conditions: a calendar of granules that repeats, and sizes. -/
import Derived.Test.YtehjjinlpilelaaGreatDoorMa
import Derived.Test.YtehjjinlpilelaaGreatDoorMb
import Derived.Test.YtehjjinlpilelaaGreatDoorMk
namespace Go.Proofs.YtehjjinlpilelaaGreatDoor
open Go.ChangeShapes Go.WideShapes Go.ChangeAt Go.RowKit

theorem Ints.alloc {w : World} {b : Nat} {xs : List Int} (h : Ints w b xs) (o : Obj) : Ints (w.alloc o) b xs := h.later ((Below.refl _ _).alloc (Nat.le_refl _) _)
theorem Ints.drew {w : World} {b : Nat} {xs : List Int} (h : Ints w b xs) : Ints w.drew b xs := h
set_option maxHeartbeats 4000000 in
set_option maxRecDepth 100000 in
theorem gvalid_any (f : Int → Int) (n : Nat) (P O : Int) (b cap : Nat) (w : World) (g : Gra.Gr f n P) (hI : Ints w b (Gra.sp f n)) (o1 : -2199023255552 ≤ O) (o2 : O ≤ 2199023255552) :
    Calls Tryz.prog 46 #[.agg #[.int .i64 O, .int .i64 P, .slice (some ⟨b, 0, none⟩) n cap]] w fun e w' => e = .returned (.bool true) ∧ Below w.heap.size w w' := by
  have n1 := g.n1
  have n2 := g.n2
  have p1 := g.p1
  have p2 := g.p2
  obtain ⟨m, rfl⟩ : ∃ m, n = m + 1 := ⟨n - 1, by omega⟩
  have hIw := hI.alloc (Obj.cells #[.int .i64 O, .int .i64 P, .slice (some ⟨b, 0, none⟩) (m + 1) cap] 34)
  obtain ⟨c1, _⟩ := row_at hIw (show 0 < m + 1 by omega)
  obtain ⟨_, c2⟩ := row_at hIw (show m < m + 1 by omega)
  rw [show ((0 : Nat) : Int) = 0 by rfl, g.zero] at c1
  rw [show ((m : Nat) : Int) + 1 = ((m + 1 : Nat) : Int) by omega, g.end] at c2
  have hlt := hI.1
  have gH := Lib.hid g
  have hIH := Lib.hid hIw
  clear g hI hIw
  have q1 : decide ((m : Int) + 1 < 1) = false := decide_eq_false (by omega)
  have q2 : decide ((5000 : Int) < (m : Int) + 1) = false := decide_eq_false (by omega)
  have q3 : decide (P < 1) = false := decide_eq_false (by omega)
  have q4 : decide ((12622780800 : Int) < P) = false := decide_eq_false (by omega)
  have q5 : IntKind.i64.wrap ((m : Int) + 1 - 1) = m := by rw [show (m : Int) + 1 - 1 = m by omega]; exact IntWalk.i64_in _ (by omega)
  have q6 : IntKind.i64.wrap (m : Int) = m := IntWalk.i64_in _ (by omega)
  have q7 : 0 ≤ (m : Int) ∧ (m : Int) < (m : Int) + 1 := by omega
  go_enter Tryz.func46, Tryz.ntmps46
  go_wp2_with fail
  go_region_held3 (fun w' => ((w'.cell? ⟨w.heap.size, 0, none⟩ = some (.int .i64 O) ∧ w'.cell? ⟨w.heap.size, 1, none⟩ = some (.int .i64 P)) ∧ w'.cell? ⟨w.heap.size, 2, none⟩ = some (.slice (some ⟨b, 0, none⟩) (m + 1) cap)) ∧ (w'.cell? ⟨b, 0, none⟩ = some (.int .i64 0) ∧ w'.cell? ⟨b, m * 2 + 1, none⟩ = some (.int .i64 P)))
    (first | go_keep | (go_split_ands; exact ⟨⟨⟨keep1 hb9 (by simp) (by assumption), keep1 hb9 (by simp) (by assumption)⟩, keep1 hb9 (by simp) (by assumption)⟩, ⟨keep1 hb9 (by simp; omega) (by assumption), keep1 hb9 (by simp; omega) (by assumption)⟩⟩))
    (first | (go_at_call 86; refine (ghalf_any _ _ (by omega) (by omega)).mono ?_; rintro e w' ⟨rfl, rfl⟩) | (go_at_call 87; refine (gascend_any f _ P b cap _ gH.out (hIH.out.drew)).mono ?_; rintro e w9 ⟨rfl, hb9⟩))
  rename_i hS
  obtain ⟨⟨⟨d0, d1⟩, d2⟩, _⟩ := hS
  go_wp2_with fail
  refine (gleast_any f _ P b cap _ gH.out ?_).mono ?_
  · exact hIH.out.drew.later hb9
  rintro e w8 ⟨rfl, hb8⟩
  go_wp2_with fail
  go_ret
  exact ⟨by simp, below_then (below_box (below_undrewG hb9)) hb8⟩
end Go.Proofs.YtehjjinlpilelaaGreatDoor
namespace Go.Proofs.YtehjjinlpilelaaGreatDoor
open Go.ChangeShapes Go.WideShapes Go.ChangeAt Go.RowKit

/-- the cells of a calendar that was boxed -/
theorem cal3 {w w1 : World} {O P : Int} {b n cap : Nat} (hb : Below (w.alloc (.cells #[.int .i64 O, .int .i64 P, .slice (some ⟨b, 0, none⟩) n cap] 34)).heap.size (w.alloc (.cells #[.int .i64 O, .int .i64 P, .slice (some ⟨b, 0, none⟩) n cap] 34)) w1) :
    w1.cell? ⟨w.heap.size, 0, none⟩ = some (.int .i64 O) ∧ w1.cell? ⟨w.heap.size, 1, none⟩ = some (.int .i64 P) ∧ w1.cell? ⟨w.heap.size, 2, none⟩ = some (.slice (some ⟨b, 0, none⟩) n cap) := box3 hb
set_option maxHeartbeats 4000000 in
theorem gat_any (f : Int → Int) (n : Nat) (P O k : Int) (b cap : Nat) (w : World) (g : Gra.Gr f n P) (hI : Ints w b (Gra.sp f n)) (o1 : -2199023255552 ≤ O) (o2 : O ≤ 2199023255552) (k1 : -10000000 ≤ k) (k2 : k ≤ 10000000) :
    Calls Tryz.prog 71 #[.agg #[.int .i64 O, .int .i64 P, .slice (some ⟨b, 0, none⟩) n cap], .int .i64 k] w fun e w' => e = .returned (.agg #[.int .i64 (f k + O), .int .i64 (f (k + 1) + O)]) ∧ Below w.heap.size w w' := by
  have n1 := g.n1
  have n2 := g.n2
  have p1 := g.p1
  have p2 := g.p2
  obtain ⟨h1, h2, h3, h4, h5, h6, h7⟩ := g.quo k1 k2
  obtain ⟨a1, a2⟩ := g.at k
  obtain ⟨r, hr⟩ : ∃ r : Nat, k % n = r := ⟨(k % n).toNat, by omega⟩
  obtain ⟨q, hq⟩ : ∃ q : Int, k / n = q := ⟨_, rfl⟩
  rw [hr] at h5 h6 h7 a1 a2
  rw [hq] at h1 h2 h3 h4 h7 a1 a2
  have hrn : r < n := by omega
  obtain ⟨c1, c2⟩ := row_at (hI.alloc (Obj.cells #[.int .i64 O, .int .i64 P, .slice (some ⟨b, 0, none⟩) n cap] 34) |>.alloc (Obj.cells #[.int .i64 0, .int .i64 0] 73)) hrn
  have hlt := hI.1
  have b1 := g.bd (i := r) (by omega) (by omega)
  have b2 := g.bd (i := r + 1) (by omega) (by omega)
  obtain ⟨A, hA⟩ : ∃ A, f (r : Int) = A := ⟨_, rfl⟩
  obtain ⟨B, hB⟩ : ∃ B, f ((r : Int) + 1) = B := ⟨_, rfl⟩
  rw [hA] at c1 b1 a1
  rw [hB] at c2 b2 a2
  have e1 : -10000000000 ≤ (n : Int) * q ∧ (n : Int) * q ≤ 10000000000 := by omega
  have e7 : k - (n : Int) * q = r := by omega
  have E := Lib.hid (show A + (O + P * q) = f k + O ∧ B + (O + P * q) = f (k + 1) + O by omega)
  have hqH := Lib.hid hq
  clear hA hB hr hq a1 a2 h7 g hI
  go_enter Tryz.func71, Tryz.ntmps71
  go_wp2_with fail
  refine (floor_any _ _ _ (by omega) (by omega) (by omega) (by omega)).mono ?_; rintro e w1 ⟨rfl, kd, rfl⟩
  rw [hqH.out]
  go_wp2_with fail
  rw [E.out.1, E.out.2]
  refine bodyPost_ret (v := .agg #[.int .i64 (f k + O), .int .i64 (f (k + 1) + O)]) (by simp [results, Tryz.results71, go_sem]) rfl ⟨rfl, ?_⟩
  (repeat' (first | (with_reducible exact Below.refl _ _) | (with_reducible assumption) | (with_reducible refine below_drewN ?_ _) | (with_reducible refine Below.drew ?_) | (with_reducible refine Below.alloc ?_ ?_ _) | (with_reducible refine Below.setCell ?_ ?_ _) | (simp; done) | (simp; omega)))
end Go.Proofs.YtehjjinlpilelaaGreatDoor
namespace Go.Proofs.YtehjjinlpilelaaGreatDoor
open Go.ChangeShapes Go.WideShapes Go.ChangeAt Go.RowKit

set_option maxHeartbeats 1000000 in
theorem gnear1_any (f : Int → Int) (n i : Nat) (r : Int) (b cap cb rb : Nat) (w : World) (hI : Ints w b (Gra.sp f n)) (hi : i < n) (hc : w.cell? ⟨cb, 2, none⟩ = some (.slice (some ⟨b, 0, none⟩) n cap)) (hr : w.cell? ⟨rb, 0, none⟩ = some (.int .i64 r)) :
    Calls Tryz.prog 99 #[.int .i64 i, .pointer (some ⟨cb, 0, none⟩), .pointer (some ⟨rb, 0, none⟩)] w fun e w' => e = .returned (.bool (decide (r < f i))) ∧ ∃ nd, w' = w.drewN nd := by
  obtain ⟨c1, _⟩ := row_at hI hi
  obtain ⟨A, hA⟩ : ∃ A, f (i : Int) = A := ⟨_, rfl⟩
  rw [hA] at c1 ⊢
  have q : 0 ≤ (i : Int) ∧ (i : Int) < n := by omega
  clear hA hI
  go_enter Tryz.func99, Tryz.ntmps99
  go_wp2_with fail
  go_quiet (fail)
  go_wp2
  go_ret
  exact ⟨rfl, _, rfl⟩
set_option maxHeartbeats 1000000 in
theorem gsearch_any (f : Int → Int) (n i : Nat) (P r : Int) (b cap cb rb : Nat) (w : World) (g : Gra.Gr f n P) (hI : Ints w b (Gra.sp f n)) (h1 : f i ≤ r) (h2 : r < f (i + 1)) (hi : i < n) (hc : w.cell? ⟨cb, 2, none⟩ = some (.slice (some ⟨b, 0, none⟩) n cap)) (hr : w.cell? ⟨rb, 0, none⟩ = some (.int .i64 r)) :
    Calls Tryz.prog 98 #[.int .i64 n, .func (.func 99) #[] #[.pointer (some ⟨cb, 0, none⟩), .pointer (some ⟨rb, 0, none⟩)]] w fun e w' => e = .returned (.int .i64 (i + 1)) ∧ ∃ nd, w' = w.drewN nd := by
  have n2 := g.n2
  have hT := Lib.hid (fun j : Nat => g.test (j := j) h1 h2)
  have hIH := Lib.hid hI
  clear h1 h2 hI g
  go_enter Tryz.func98, Tryz.ntmps98
  go_wp2_with fail
  go_loopg [5, 6] 4802 (fun g t5 t6 wr => ∃ lo hi nd : Nat, lo ≤ i + 1 ∧ i + 1 ≤ hi ∧ hi ≤ n ∧ t5 = .int .i64 lo ∧ t6 = .int .i64 hi ∧ wr = w.drewN nd ∧ hi - lo ≤ g)
  case atStart => exact ⟨0, n, 0, by omega, by omega, by omega, rfl, rfl, rfl, by omega⟩
  case round =>
    obtain ⟨lo, hi', nd, a1, a2, a3, rfl, rfl, rfl, hg⟩ := hrel
    by_cases hlt : lo < hi'
    · obtain ⟨h, e⟩ : ∃ h : Nat, ((lo : Int) + hi') / 2 = h := ⟨(lo + hi') / 2, by omega⟩
      have h1 : lo ≤ h := by omega
      have h2 : h < hi' := by omega
      by_cases hc2 : i < h
      · have d := Lib.hid (decide_eq_true ((hT.out h).1 hc2))
        go_wp2_with fail
        refine (gnear1_any f n h r b cap cb rb (w.drewN nd) hIH.out (by omega) hc hr).mono ?_; rintro e w1 ⟨rfl, kd, rfl⟩
        rw [d.out]
        go_wp2_with fail
        go_roundg (gk - 1)
        case measure => omega
        case rel => exact ⟨lo, h, nd + kd, by omega, by omega, by omega, rfl, rfl, by simp, by omega⟩
      · have d := Lib.hid (decide_eq_false (p := r < f h) (by have := (hT.out h).2 (by omega); omega))
        go_wp2_with fail
        refine (gnear1_any f n h r b cap cb rb (w.drewN nd) hIH.out (by omega) hc hr).mono ?_; rintro e w1 ⟨rfl, kd, rfl⟩
        rw [d.out]
        go_wp2_with fail
        go_roundg (gk - 1)
        case measure => omega
        case rel => exact ⟨h + 1, hi', nd + kd, by omega, by omega, by omega, by go_num, rfl, by simp, by omega⟩
    · have e : lo = i + 1 := by omega
      subst e
      go_wp2_with fail
      go_ret
      exact ⟨rfl, _, rfl⟩
end Go.Proofs.YtehjjinlpilelaaGreatDoor
namespace Go.Proofs.YtehjjinlpilelaaGreatDoor
open Go.ChangeShapes Go.WideShapes Go.ChangeAt Go.RowKit

theorem floor_b (a b : Int) (w : World) (ha : -4611686018427387904 ≤ a) (ha' : a ≤ 4611686018427387904) (hb : 1 ≤ b) (hb' : b ≤ 2147483647) :
    Calls Tryz.prog 34 #[.int .i64 a, .int .i64 b] w fun e w' => e = .returned (.int .i64 (a / b)) ∧ Below w.heap.size w w' := by
  refine (floor_any a b w ha ha' hb hb').mono ?_; rintro e w' ⟨rfl, kd, rfl⟩; exact ⟨rfl, below_drewN (Below.refl _ _) _⟩
theorem div_b (a b : Int) (w : World) (ha : -4611686018427387904 ≤ a) (ha' : a ≤ 4611686018427387904) (hb : 1 ≤ b) (hb' : b ≤ 2147483647) :
    Calls Tryz.prog 51 #[.int .i64 a, .int .i64 b] w fun e w' => e = .returned (.tuple #[.int .i64 (a / b), .int .i64 (a % b), .int .i64 0]) ∧ Below w.heap.size w w' := by
  refine (div_any a b w ha ha' hb hb').mono ?_; rintro e w' ⟨rfl, kd, rfl⟩; exact ⟨rfl, below_drewN (Below.refl _ _) _⟩
/-- the cells of a boxed calendar -/
def CalC (w : World) (cb : Nat) (O P : Int) (b n cap : Nat) : Prop := cb < w.heap.size ∧ w.cell? ⟨cb, 0, none⟩ = some (.int .i64 O) ∧ w.cell? ⟨cb, 1, none⟩ = some (.int .i64 P) ∧ w.cell? ⟨cb, 2, none⟩ = some (.slice (some ⟨b, 0, none⟩) n cap)
theorem CalC.later {w w1 : World} {cb b n cap : Nat} {O P : Int} (h : CalC w cb O P b n cap) (hb : Below w.heap.size w w1) : CalC w1 cb O P b n cap :=
  ⟨Nat.lt_of_lt_of_le h.1 hb.size, keep1 hb h.1 h.2.1, keep1 hb h.1 h.2.2.1, keep1 hb h.1 h.2.2.2⟩
theorem CalC.alloc {w : World} {cb b n cap : Nat} {O P : Int} (h : CalC w cb O P b n cap) (o : Obj) : CalC (w.alloc o) cb O P b n cap := h.later ((Below.refl _ _).alloc (Nat.le_refl _) _)
theorem CalC.new (w : World) (O P : Int) (b n cap : Nat) : CalC (w.alloc (.cells #[.int .i64 O, .int .i64 P, .slice (some ⟨b, 0, none⟩) n cap] 34)) w.heap.size O P b n cap := by
  refine ⟨by simp, ?_, ?_, ?_⟩ <;> simp
set_option maxHeartbeats 2000000 in
theorem gnear_any (f : Int → Int) (n : Nat) (P O x k : Int) (b cap : Nat) (w : World) (g : Gra.Gr f n P) (hI : Ints w b (Gra.sp f n)) (o1 : -2199023255552 ≤ O) (o2 : O ≤ 2199023255552) (k1 : -10000000 ≤ k) (k2 : k ≤ 10000000) (x1 : -4398046511104 ≤ x) (x2 : x ≤ 4398046511104) (h1 : f k ≤ x - O) (h2 : x - O < f (k + 1)) :
    Calls Tryz.prog 70 #[.agg #[.int .i64 O, .int .i64 P, .slice (some ⟨b, 0, none⟩) n cap], .int .i64 x] w fun e w' => e = .returned (.int .i64 k) ∧ Below w.heap.size w w' := by
  have n1 := g.n1
  have n2 := g.n2
  have p1 := g.p1
  have p2 := g.p2
  obtain ⟨i, hi, i1, i2, hk, m0, m1, hm⟩ := g.find h1 h2
  obtain ⟨q, hq⟩ : ∃ q : Int, (x - O) / P = q := ⟨_, rfl⟩
  obtain ⟨R, hR⟩ : ∃ R : Int, (x - O) % P = R := ⟨_, rfl⟩
  rw [hq] at hk hm
  rw [hR] at i1 i2 m0 m1 hm
  have e1 : -10000000000 ≤ (n : Int) * q ∧ (n : Int) * q ≤ 10000000000 := by omega
  have e2 : -10000000000000 ≤ P * q ∧ P * q ≤ 10000000000000 := by omega
  have e3 : x - O - P * q = R := by omega
  have hlt := hI.1
  have E := Lib.hid (And.intro hq (And.intro i1 (And.intro i2 hk)))
  have gH := Lib.hid g
  have hIH := Lib.hid hI
  clear hk hm hq hR i1 i2 h1 h2 g hI
  go_enter Tryz.func70, Tryz.ntmps70
  go_wp2_with fail
  refine (gvalid_any f n P O b cap _ gH.out (hIH.out.alloc _) o1 o2).mono ?_; rintro e w1 ⟨rfl, hb1⟩
  have hC1 := (CalC.new w O P b n cap).later hb1
  have hC1H := Lib.hid hC1
  have hI1 := Lib.hid ((hIH.out.alloc _).later hb1)
  have hb := below_box hb1
  obtain ⟨d, c0, c1, c2⟩ := hC1
  clear hb1
  go_wp2_with fail
  refine (gline_any _ _ (by omega) (by omega)).mono ?_; rintro e w2 ⟨rfl, rfl⟩
  go_wp2_with fail
  refine (floor_b _ _ _ (by omega) (by omega) (by omega) (by omega)).mono ?_; rintro e w3 ⟨rfl, hb3⟩
  rw [E.out.1]
  have hC3 := hC1H.out.later hb3
  have hC3H := Lib.hid hC3
  have hI3 := Lib.hid (hI1.out.later hb3)
  have hb := below_then hb hb3
  clear hb3 d c0 c1 c2 hC1H hI1
  obtain ⟨d, c0, c1, c2⟩ := hC3
  have hlt3 := hI3.out.1
  go_wp2_with fail
  refine (gsearch_any f n i P R b cap w.heap.size w3.heap.size (w3.alloc (Obj.cells #[.int .i64 R] 3)) gH.out (hI3.out.alloc _) E.out.2.1 E.out.2.2.1 hi (hC3H.out.alloc _).2.2.2 (by simp)).mono ?_; rintro e w4 ⟨rfl, kd, hw4⟩
  have hb4 : Below w3.heap.size w3 w4 := by rw [hw4]; exact below_drewN ((Below.refl _ _).alloc (Nat.le_refl _) _) _
  clear hw4
  obtain ⟨d, c0, c1, c2⟩ := hC3H.out.later hb4
  have hb := below_then hb hb4
  clear hb4
  go_wp2_with fail
  go_ret
  exact ⟨ret_int (by have := E.out.2.2.2; omega), hb⟩
end Go.Proofs.YtehjjinlpilelaaGreatDoor
