/- Contracts of integer.Mul and Gcd at what the groups ask, and of group.at. Conditions: a calendar of granules that repeats, and sizes. -/
import Derived.Deep.RegionWith
import Derived.Test.YtehjjinlpilelaaGreatDoorMl
import Derived.Test.YtehjjinlpilelaaGreatDoorMm
namespace Go.Proofs.YtehjjinlpilelaaGreatDoor
open Go.ChangeShapes Go.WideShapes Go.ChangeAt Go.RowKit

theorem isize_any (x : Int) (w : World) (h1 : 0 ≤ x) (h2 : x ≤ 1000000000000) :
    Calls Tryz.prog 111 #[.int .i64 x] w fun e w' => e = .returned (.int .u64 x) ∧ w = w' := by
  go_enter Tryz.func111, Tryz.ntmps111
  go_wp2
  go_ret
  exact ⟨rfl, rfl⟩
theorem isigned_any (x : Int) (w : World) (h1 : 0 ≤ x) (h2 : x ≤ 1000000000000) :
    Calls Tryz.prog 112 #[.int .u64 x, .bool false] w fun e w' => e = .returned (.tuple #[.int .i64 x, .bool true]) ∧ w = w' := by
  go_enter Tryz.func112, Tryz.ntmps112
  go_wp2
  go_ret2
  exact ⟨rfl, rfl⟩
set_option maxHeartbeats 1000000 in
theorem imul64_1 (w : World) :
    Calls Tryz.prog 113 #[.int .u64 146097, .int .u64 1] w fun e w' => e = .returned (.tuple #[.int .u64 0, .int .u64 146097]) ∧ w = w' := by
  go_enter Tryz.func113, Tryz.ntmps113
  go_wp2_with fail
  go_ret2
  exact ⟨by kernel_rfl, rfl⟩
set_option maxHeartbeats 1000000 in
theorem imul_1 (w : World) :
    Calls Tryz.prog 103 #[.int .i64 146097, .int .i64 1] w fun e w' => e = .returned (.tuple #[.int .i64 146097, .int .i64 0]) ∧ w = w' := by
  go_enter Tryz.func103, Tryz.ntmps103
  go_wp2_with fail
  refine (isize_any _ _ (by omega) (by omega)).mono ?_; rintro e w1 ⟨rfl, rfl⟩
  go_wp2_with fail
  refine (isize_any _ _ (by omega) (by omega)).mono ?_; rintro e w1 ⟨rfl, rfl⟩
  go_wp2_with fail
  refine (imul64_1 _).mono ?_; rintro e w1 ⟨rfl, rfl⟩
  go_wp2_with fail
  refine (isigned_any 146097 _ (by omega) (by omega)).mono ?_; rintro e w1 ⟨rfl, rfl⟩
  go_wp2_with fail
  go_ret2
  exact ⟨rfl, rfl⟩
set_option maxHeartbeats 1000000 in
theorem igcd_12 (w : World) :
    Calls Tryz.prog 102 #[.int .i64 4800, .int .i64 12] w fun e w' => e = .returned (.int .i64 12) ∧ Below w.heap.size w w' := by
  go_enter Tryz.func102, Tryz.ntmps102
  go_wp2_with fail
  refine (isize_any _ _ (by omega) (by omega)).mono ?_; rintro e w1 ⟨rfl, rfl⟩
  go_wp2_with fail
  refine (isize_any _ _ (by omega) (by omega)).mono ?_; rintro e w1 ⟨rfl, rfl⟩
  go_wp2_with fail
  go_loopg [5, 6] 3 (fun g t5 t6 wr => (t5 = .int .u64 4800 ∧ t6 = .int .u64 12 ∧ w = wr ∧ 2 ≤ g) ∨ (t5 = .int .u64 12 ∧ t6 = .int .u64 0 ∧ Below w.heap.size w wr ∧ 1 ≤ g))
  case atStart => exact Or.inl ⟨rfl, rfl, rfl, by omega⟩
  case round =>
    rcases hrel with ⟨rfl, rfl, rfl, hg⟩ | ⟨rfl, rfl, hb, hg⟩
    · go_wp2_with fail
      go_region
      all_goals (try go_wp2_with fail)
      go_roundg (gk - 1)
      case measure => omega
      case rel => exact Or.inr ⟨rfl, rfl, below_drewN (Below.refl _ _) 1, by omega⟩
    · go_wp2_with fail
      refine (isigned_any 12 _ (by omega) (by omega)).mono ?_; rintro e w1 ⟨rfl, rfl⟩
      go_wp2_with fail
      go_ret
      exact ⟨rfl, hb⟩
end Go.Proofs.YtehjjinlpilelaaGreatDoor
namespace Go.Proofs.YtehjjinlpilelaaGreatDoor
open Go.ChangeShapes Go.WideShapes Go.ChangeAt Go.RowKit

theorem BoxS.drewN {w : World} {b : Nat} {x y : Value} (h : BoxS w b x y) (n : Nat) : BoxS (w.drewN n) b x y := h.later (below_drewN (Below.refl _ _) n)
theorem BoxS.at {W0 : World} {n : Nat} {x y : Value} {t : TypeId} (h : W0.heap.size = n) : BoxS (W0.alloc (.cells #[x, y] t)) n x y := h ▸ BoxS.new W0 x y t
theorem BoxS.setFar {w : World} {b : Nat} {x y : Value} (h : BoxS w b x y) (a : Addr) (v : Value) (hne : a.block ≠ b) : BoxS (w.setCell a v) b x y := by
  have k : ∀ o, a ≠ ⟨b, o, none⟩ := fun o e => hne (by rw [e])
  exact ⟨by simpa using h.lt, by rw [World.cell?_setCell_other _ _ _ _ (k 0)]; exact h.c0, by rw [World.cell?_setCell_other _ _ _ _ (k 1)]; exact h.c1, by simpa using h.f0, by simpa using h.f1⟩
/-- a world by what is known of it -/
theorem world_gen {G : World → Prop} {W : World} (R : World → Prop) (hR : R W) (h : ∀ wz, R wz → G wz) : G W := h W hR
set_option maxHeartbeats 4000000 in
set_option maxRecDepth 100000 in
theorem uat_any (f : Int → Int) (n : Nat) (P O k : Int) (b cap : Nat) (w : World) (g : Gra.Gr f n P) (hI : Ints w b (Gra.sp f n)) (o1 : -2199023255552 ≤ O) (o2 : O ≤ 2199023255552) (k1 : -10000000 ≤ k) (k2 : k ≤ 10000000) :
    Calls Tryz.prog 82 #[.agg #[.int .i64 O, .int .i64 P, .slice (some ⟨b, 0, none⟩) n cap], .int .i64 k] w fun e w' => e = .returned (.agg #[.int .i64 (f k + O), .int .i64 (f (k + 1) + O)]) ∧ Below w.heap.size w w' := by
  have n1 := g.n1
  have n2 := g.n2
  have p1 := g.p1
  have p2 := g.p2
  obtain ⟨h1, h2, h3, h4, h5, h6, h7⟩ := g.quo k1 k2
  obtain ⟨a1, a2⟩ := g.at k
  obtain ⟨r, hr⟩ : ∃ r : Nat, k % n = r := ⟨(k % n).toNat, by omega⟩
  obtain ⟨q, hq⟩ : ∃ q : Int, k / n = q := ⟨_, rfl⟩
  rw [hr] at h5 h6 h7 a1 a2
  rw [hq] at h1 h2 h3 h4 h7 a1 a2
  have hrn : r < n := by omega
  obtain ⟨c1, c2⟩ := row_at ((hI.alloc (Obj.cells #[.int .i64 O, .int .i64 P, .slice (some ⟨b, 0, none⟩) n cap] 34)).alloc (Obj.cells #[.int .i64 0, .int .i64 0] 73)) hrn
  have hlt := hI.1
  have b1 := g.bd (i := r) (by omega) (by omega)
  have b2 := g.bd (i := r + 1) (by omega) (by omega)
  obtain ⟨A, hA⟩ : ∃ A, f (r : Int) = A := ⟨_, rfl⟩
  obtain ⟨B, hB⟩ : ∃ B, f ((r : Int) + 1) = B := ⟨_, rfl⟩
  rw [hA] at c1 b1 a1
  rw [hB] at c2 b2 a2
  have e8 : 0 ≤ (r : Int) ∧ (r : Int) < n := by omega
  have E := Lib.hid (show A + (O + P * q) = f k + O ∧ B + (O + P * q) = f (k + 1) + O by omega)
  have qH := Lib.hid (And.intro hq hr)
  have wP : IntKind.i64.wrap (P * q) = P * q := IntWalk.i64_in _ (by omega)
  have wA : IntKind.i64.wrap (O + P * q) = O + P * q := IntWalk.i64_in _ (by omega)
  clear hA hB hr hq a1 a2 h7 g hI
  have m1 : w.heap.size + 1 + 1 ≠ w.heap.size := by omega
  have m2 : w.heap.size + 1 + 1 ≠ b := by omega
  have m3 : w.heap.size ≠ w.heap.size + 1 + 1 := by omega
  have m4 : b ≠ w.heap.size + 1 + 1 := by omega
  go_enter Tryz.func82, Tryz.ntmps82
  go_wp2_with fail
  go_region_held3 (fun w' => ((w'.cell? ⟨w.heap.size, 0, none⟩ = some (.int .i64 O) ∧ w'.cell? ⟨w.heap.size, 1, none⟩ = some (.int .i64 P)) ∧ w'.cell? ⟨w.heap.size, 2, none⟩ = some (.slice (some ⟨b, 0, none⟩) n cap)) ∧ (w'.cell? ⟨b, r * 2, none⟩ = some (.int .i64 A) ∧ w'.cell? ⟨b, r * 2 + 1, none⟩ = some (.int .i64 B)))
    (first | go_keep | (go_split_ands; simp [*]))
    (first | (go_at_call 42; refine (mod_any _ _ _ (by omega) (by omega) (by omega) (by omega)).mono ?_; rintro e w9 ⟨he, kd, rfl⟩; rw [qH.out.2] at he; subst he) | (go_at_call 34; refine (floor_any _ _ _ (by omega) (by omega) (by omega) (by omega)).mono ?_; rintro e w9 ⟨he, kd, rfl⟩; rw [qH.out.1] at he; subst he))
  all_goals
    refine world_gen (fun wz => Below w.heap.size w wz ∧ BoxS wz (w.heap.size + 1) (.int .i64 0) (.int .i64 0) ∧ BoxS wz (w.heap.size + 1 + 1) (.int .i64 A) (.int .i64 B)) ?_ ?_
    · refine ⟨by (repeat' (first | (with_reducible exact Below.refl _ _) | (with_reducible assumption) | (with_reducible refine below_drewN ?_ _) | (with_reducible refine Below.drew ?_) | (with_reducible refine Below.alloc ?_ ?_ _) | (with_reducible refine Below.setCell ?_ ?_ _) | (simp; done) | (simp; omega))), ?_, ?_⟩
      · repeat (first | (refine BoxS.at ?_; (simp; done)) | (with_reducible refine BoxS.drewN ?_ _) | (with_reducible refine BoxS.setFar ?_ _ _ (by simp)) | (with_reducible refine BoxS.alloc ?_ _))
      · first
          | exact BoxS.at (by simp)
          | exact BoxS.set1 (BoxS.set0 (BoxS.at (by simp)) _) _
          | exact BoxS.set1 (BoxS.set0 (BoxS.drewN (BoxS.at (by simp)) _) _) _
    · rintro wz ⟨hb, hR, hT⟩
      have hRH := Lib.hid hR
      obtain ⟨_, z0, z1, z2, z3⟩ := hR
      obtain ⟨_, y0, y1, _, _⟩ := hT
      go_wp2_with fail
      obtain ⟨_, x0, x1, _, _⟩ := (hRH.out.set0 (.int .i64 (A + (O + P * q)))).set1 (.int .i64 (B + (O + P * q)))
      rw [E.out.1, E.out.2] at x0 x1 ⊢
      have hs := hb.size
      refine bodyPost_ret (v := .agg #[.int .i64 (f k + O), .int .i64 (f (k + 1) + O)]) (by simp [results, Tryz.results82, go_sem, x0, x1]) rfl ⟨rfl, ?_⟩
      (repeat' (first | (with_reducible exact Below.refl _ _) | (with_reducible assumption) | (with_reducible refine below_drewN ?_ _) | (with_reducible refine Below.drew ?_) | (with_reducible refine Below.alloc ?_ ?_ _) | (with_reducible refine Below.setCell ?_ ?_ _) | (simp; done) | (simp; omega)))
end Go.Proofs.YtehjjinlpilelaaGreatDoor
