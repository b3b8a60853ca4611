/- Contracts of the integer functions, facts on boxes in memory and on slices that grow, and slices.Equal. Conditions: those on sizes. -/
import Derived.BigQuiet
import Derived.Deep.LoopGhost
import Derived.Deep.QuietTactic
import Derived.Handy
import Derived.Lib.Hide
import Derived.OpenShut
import Derived.Outline
import Derived.OwnWalk
import Derived.ProofKit
import Derived.WalkKit
import Derived.WalkSmall
import Derived.Test.YtehjjinlpilelaaGreatDoorRows
namespace Go.Proofs.YtehjjinlpilelaaGreatDoor
open Go.ChangeShapes Go.WideShapes Go.ChangeAt Go.RowKit

theorem tdiv_pos {a b : Int} (h : 0 ≤ a) : a.tdiv b = a / b := Int.tdiv_eq_ediv_of_nonneg h
theorem tmod_pos {a b : Int} (h : 0 ≤ a) : a.tmod b = a % b := Int.tmod_eq_emod_of_nonneg h
theorem tdiv_neg_dvd {a b : Int} (h : b ∣ a) : a.tdiv b = a / b := by rw [Int.tdiv_eq_ediv, if_pos (Or.inr h)]; omega
theorem tmod_neg_dvd {a b : Int} (h : b ∣ a) : a.tmod b = 0 := Int.tmod_eq_zero_of_dvd h
theorem tdiv_neg_not {a b : Int} (ha : a < 0) (hb : 1 ≤ b) (h : ¬ b ∣ a) : a.tdiv b = a / b + 1 := by
  rw [Int.tdiv_eq_ediv, if_neg (by rintro (k | k); omega; exact h k), Int.sign_eq_one_of_pos (by omega)]
theorem tmod_neg_not {a b : Int} (ha : a < 0) (hb : 1 ≤ b) (h : ¬ b ∣ a) : a.tmod b = a % b - b := by
  rw [Int.tmod_eq_emod, if_neg (by rintro (k | k); omega; exact h k)]; omega

theorem div_le {a b : Int} (hb : 1 ≤ b) : (0 ≤ a → 0 ≤ a / b ∧ a / b ≤ a) ∧ (a < 0 → a ≤ a / b ∧ a / b < 0) := by
  refine ⟨fun h => IntWalk.tdiv_le a b h hb, fun h => ⟨?_, Int.ediv_neg_of_neg_of_pos h (by omega)⟩⟩
  have h1 := Int.mul_ediv_add_emod a b
  have h2 := Int.emod_nonneg a (b := b) (by omega)
  have h4 := Int.ediv_neg_of_neg_of_pos h (show 0 < b by omega)
  have h3 := Int.emod_lt_of_pos a (b := b) (by omega)
  refine (Int.le_ediv_iff_mul_le (by omega)).2 ?_
  have h5 := Int.mul_le_mul_of_nonpos_left (show a ≤ 0 by omega) hb
  omega

set_option maxHeartbeats 400000 in
theorem div_any (a b : Int) (w : World) (ha : -4611686018427387904 ≤ a) (ha' : a ≤ 4611686018427387904) (hb : 1 ≤ b) (hb' : b ≤ 2147483647) :
    Calls Tryz.prog 51 #[.int .i64 a, .int .i64 b] w fun e w' => e = .returned (.tuple #[.int .i64 (a / b), .int .i64 (a % b), .int .i64 0]) ∧ ∃ n, w' = w.drewN n := by
  have m0 := Int.emod_nonneg a (b := b) (by omega)
  have m1 := Int.emod_lt_of_pos a (b := b) (by omega)
  have hmin : (a == -9223372036854775808) = false := by simp; omega
  by_cases h : 0 ≤ a
  · have hd := (div_le (a := a) hb).1 h
    have ht := tdiv_pos (b := b) h
    have hm := tmod_pos (b := b) h
    have hl : decide (a % b < 0) = false := by simp; omega
    have hl' : decide (b < 0) = false := by simp; omega
    by_cases hz : a % b = 0
    · go_enter Tryz.func51, Tryz.ntmps51
      go_wp2_with fail
      go_quiet (fail)
      go_wp2
      go_ret3
      rw [hz]
      exact ⟨rfl, _, rfl⟩
    · have hn : (a % b != 0) = true := by simpa using hz
      go_enter Tryz.func51, Tryz.ntmps51
      go_wp2_with fail
      go_quiet (fail)
      go_wp2
      go_ret3
      exact ⟨rfl, _, rfl⟩
  · have hd := (div_le (a := a) hb).2 (by omega)
    by_cases k : b ∣ a
    · have hq := tdiv_neg_dvd k
      have hr := tmod_neg_dvd k
      have hz : a % b = 0 := Int.emod_eq_zero_of_dvd k
      go_enter Tryz.func51, Tryz.ntmps51
      go_wp2_with fail
      go_quiet (fail)
      go_wp2
      go_ret3
      rw [hz]
      exact ⟨rfl, _, rfl⟩
    · have hq := tdiv_neg_not (by omega) hb k
      have hr := tmod_neg_not (by omega) hb k
      have hl : decide (a % b - b < 0) = true := by simp; omega
      have hl' : decide (b < 0) = false := by simp; omega
      go_enter Tryz.func51, Tryz.ntmps51
      go_wp2_with fail
      go_quiet (fail)
      go_wp2
      go_ret3
      exact ⟨rfl, _, rfl⟩
theorem floor_any (a b : Int) (w : World) (ha : -4611686018427387904 ≤ a) (ha' : a ≤ 4611686018427387904) (hb : 1 ≤ b) (hb' : b ≤ 2147483647) :
    Calls Tryz.prog 34 #[.int .i64 a, .int .i64 b] w fun e w' => e = .returned (.int .i64 (a / b)) ∧ ∃ n, w' = w.drewN n := by
  go_enter Tryz.func34, Tryz.ntmps34
  go_wp2_with (go_at_call 51; refine (div_any _ _ _ ha ha' hb hb').mono ?_; rintro e w' ⟨rfl, n, rfl⟩)
  go_ret
  exact ⟨rfl, _, rfl⟩
theorem mod_any (a b : Int) (w : World) (ha : -4611686018427387904 ≤ a) (ha' : a ≤ 4611686018427387904) (hb : 1 ≤ b) (hb' : b ≤ 2147483647) :
    Calls Tryz.prog 42 #[.int .i64 a, .int .i64 b] w fun e w' => e = .returned (.int .i64 (a % b)) ∧ ∃ n, w' = w.drewN n := by
  go_enter Tryz.func42, Tryz.ntmps42
  go_wp2_with (go_at_call 51; refine (div_any _ _ _ ha ha' hb hb').mono ?_; rintro e w' ⟨rfl, n, rfl⟩)
  go_ret
  exact ⟨rfl, _, rfl⟩
end Go.Proofs.YtehjjinlpilelaaGreatDoor
namespace Go.Proofs.YtehjjinlpilelaaGreatDoor
open Go.ChangeShapes Go.WideShapes Go.ChangeAt Go.RowKit

/-- A callee that leaves the world alone, inside a region that only reads. -/
theorem quiet_same {P : Program} {f : FuncId} {args : Array Value} {w : World} {n : Nat} {v : Value}
    (h : Calls P f args (w.drewN n) fun e w' => e = .returned v ∧ w.drewN n = w') : Calls P f args (w.drewN n) fun e w'' => e = .returned v ∧ ∃ m, w'' = w.drewN m :=
  h.mono fun _ _ ⟨he, hm⟩ => ⟨he, n, hm.symm⟩
theorem ret_int {k : IntKind} {a b : Int} (h : a = b) : Ending.returned (.int k a) = .returned (.int k b) := by rw [h]
theorem val_int {k : IntKind} {a b : Int} (h : a = b) : Value.int k a = .int k b := by rw [h]
theorem bcell {W w1 : World} (hb : Below W.heap.size W w1) : (∀ b o, b < W.heap.size → w1.cell? ⟨b, o, none⟩ = W.cell? ⟨b, o, none⟩) ∧ (∀ b o, b < W.heap.size → w1.frozen? ⟨b, o, none⟩ = W.frozen? ⟨b, o, none⟩) :=
  ⟨fun b o h => hb.cell (p := ⟨b, o, none⟩) h, fun b o h => hb.frozen (p := ⟨b, o, none⟩) h⟩

/-- The three cells of a struct that was boxed ahead of a call. -/
theorem box3 {w w1 : World} {a b c : Value} {t : TypeId} (hb : Below (w.alloc (.cells #[a, b, c] t)).heap.size (w.alloc (.cells #[a, b, c] t)) w1) :
    w1.cell? ⟨w.heap.size, 0, none⟩ = some a ∧ w1.cell? ⟨w.heap.size, 1, none⟩ = some b ∧ w1.cell? ⟨w.heap.size, 2, none⟩ = some c := by
  refine ⟨?_, ?_, ?_⟩ <;> (rw [hb.cell (by simp)]; simp)
theorem box3f {w w1 : World} {a b c : Value} {t : TypeId} (hb : Below (w.alloc (.cells #[a, b, c] t)).heap.size (w.alloc (.cells #[a, b, c] t)) w1) :
    w1.frozen? ⟨w.heap.size, 0, none⟩ = false ∧ w1.frozen? ⟨w.heap.size, 1, none⟩ = false ∧ w1.frozen? ⟨w.heap.size, 2, none⟩ = false := by
  refine ⟨?_, ?_, ?_⟩ <;> (rw [hb.frozen (by simp)]; simp)
theorem below_box {w w1 : World} {o : Obj} (hb : Below (w.alloc o).heap.size (w.alloc o) w1) : Below w.heap.size w w1 :=
  ((Below.refl _ _).alloc (Nat.le_refl _) _).trans (hb.mono (by simp))


theorem below_then {w w1 w2 : World} (h1 : Below w.heap.size w w1) (h2 : Below w1.heap.size w1 w2) : Below w.heap.size w w2 := h1.trans (h2.mono h1.size)
section
variable {H : Type} {enc : TypeId × Value → H} {P : Program}
/-- What the statement asks of the world behind the call, where nothing that was there before has turned. -/
theorem post_below {f : Func} {s : ChangeSpec} {apart fresh handsOn : Bool} {W W' : World} {args : Array Value} {v : Value} {ds gs : List (DataW H)} {before pa pv : List MemPlace}
    (hW : DataW.Whole enc P f.params.toList s.vars apart W args.toList ds gs before)
    (hres : ∀ (b : Nat) (sp : Nat → Bool) (hd : Bool), DataW.TrodAll enc P W' b sp hd f.resultTypes.toList (v.resultList f.resultTypes.size) (s.fn H (ds ++ gs)).results [])
    (hargs : ∀ sp : Nat → Bool, DataW.TrodAll enc P W' 0 sp true f.params.toList args.toList (s.fn H (ds ++ gs)).args pa)
    (hvars : ∀ sp : Nat → Bool, DataW.TrodVars enc P W' sp s.vars (s.fn H (ds ++ gs)).vars pv)
    (hb : Below W.heap.size W W') : s.post enc P f apart fresh handsOn false W args v W' :=
  ⟨ds, gs, before, [], pa, pv, hW, hres _ _ _, hargs _, hvars _, hb.frame _, fun h => by cases h⟩
end
end Go.Proofs.YtehjjinlpilelaaGreatDoor
namespace Go.Proofs.YtehjjinlpilelaaGreatDoor
open Go.ChangeShapes Go.WideShapes Go.ChangeAt Go.RowKit

theorem keep1 {B b o : Nat} {w w' : World} {v : Value} (hb : Below B w w') (hlt : b < B) (h : w.cell? ⟨b, o, none⟩ = some v) : w'.cell? ⟨b, o, none⟩ = some v := by
  rw [hb.cell (p := ⟨b, o, none⟩) hlt]; exact h
theorem keepf {B b o : Nat} {w w' : World} (hb : Below B w w') (hlt : b < B) (h : w.frozen? ⟨b, o, none⟩ = false) : w'.frozen? ⟨b, o, none⟩ = false := by
  rw [hb.frozen (p := ⟨b, o, none⟩) hlt]; exact h
/-- block b of the world w holds the three values, and may be written -/
structure Box3 (w : World) (b : Nat) (x y z : Value) : Prop where
  lt : b < w.heap.size
  c0 : w.cell? ⟨b, 0, none⟩ = some x
  c1 : w.cell? ⟨b, 1, none⟩ = some y
  c2 : w.cell? ⟨b, 2, none⟩ = some z
  f0 : w.frozen? ⟨b, 0, none⟩ = false
  f1 : w.frozen? ⟨b, 1, none⟩ = false
  f2 : w.frozen? ⟨b, 2, none⟩ = false
theorem Box3.keep {w w' : World} {b B : Nat} {x y z : Value} (h : Box3 w b x y z) (hb : Below B w w') (hB : b < B) : Box3 w' b x y z :=
  ⟨Nat.lt_of_lt_of_le h.lt hb.size, keep1 hb hB h.c0, keep1 hb hB h.c1, keep1 hb hB h.c2, keepf hb hB h.f0, keepf hb hB h.f1, keepf hb hB h.f2⟩
theorem Box3.later {w w' : World} {b : Nat} {x y z : Value} (h : Box3 w b x y z) (hb : Below w.heap.size w w') : Box3 w' b x y z := h.keep hb h.lt
theorem Box3.alloc {w : World} {b : Nat} {x y z : Value} (h : Box3 w b x y z) (o : Obj) : Box3 (w.alloc o) b x y z := h.later ((Below.refl _ _).alloc (Nat.le_refl _) _)
theorem Box3.drewN {w : World} {b : Nat} {x y z : Value} (h : Box3 w b x y z) (n : Nat) : Box3 (w.drewN n) b x y z := h.later (below_drewN (Below.refl _ _) n)
theorem Box3.new (w : World) (x y z : Value) (t : TypeId) : Box3 (w.alloc (.cells #[x, y, z] t)) w.heap.size x y z := by
  refine ⟨by simp, ?_, ?_, ?_, ?_, ?_, ?_⟩ <;> simp
/-- a box that was laid right ahead of a call -/
theorem Box3.born {w w1 : World} {x y z : Value} {t : TypeId} (hb : Below (w.alloc (.cells #[x, y, z] t)).heap.size (w.alloc (.cells #[x, y, z] t)) w1) : Box3 w1 w.heap.size x y z :=
  (Box3.new w x y z t).later hb
theorem Box3.set0 {w : World} {b : Nat} {x y z : Value} (h : Box3 w b x y z) (v : Value) : Box3 (w.setCell ⟨b, 0, none⟩ v) b v y z :=
  ⟨by simpa using h.lt, World.cell?_setCell_same _ _ _ h.c0, by rw [World.cell?_setCell_other _ _ _ _ (by simp)]; exact h.c1, by rw [World.cell?_setCell_other _ _ _ _ (by simp)]; exact h.c2, by simpa using h.f0, by simpa using h.f1, by simpa using h.f2⟩
theorem Box3.set1 {w : World} {b : Nat} {x y z : Value} (h : Box3 w b x y z) (v : Value) : Box3 (w.setCell ⟨b, 1, none⟩ v) b x v z :=
  ⟨by simpa using h.lt, by rw [World.cell?_setCell_other _ _ _ _ (by simp)]; exact h.c0, World.cell?_setCell_same _ _ _ h.c1, by rw [World.cell?_setCell_other _ _ _ _ (by simp)]; exact h.c2, by simpa using h.f0, by simpa using h.f1, by simpa using h.f2⟩
theorem Box3.set2 {w : World} {b : Nat} {x y z : Value} (h : Box3 w b x y z) (v : Value) : Box3 (w.setCell ⟨b, 2, none⟩ v) b x y v :=
  ⟨by simpa using h.lt, by rw [World.cell?_setCell_other _ _ _ _ (by simp)]; exact h.c0, by rw [World.cell?_setCell_other _ _ _ _ (by simp)]; exact h.c1, World.cell?_setCell_same _ _ _ h.c2, by simpa using h.f0, by simpa using h.f1, by simpa using h.f2⟩
theorem Box3.setFar {w : World} {b : Nat} {x y z : Value} (h : Box3 w b x y z) (a : Addr) (v : Value) (hne : a.block ≠ b) : Box3 (w.setCell a v) b x y z := by
  have k : ∀ o, a ≠ ⟨b, o, none⟩ := fun o e => hne (by rw [e])
  exact ⟨by simpa using h.lt, by rw [World.cell?_setCell_other _ _ _ _ (k 0)]; exact h.c0, by rw [World.cell?_setCell_other _ _ _ _ (k 1)]; exact h.c1, by rw [World.cell?_setCell_other _ _ _ _ (k 2)]; exact h.c2, by simpa using h.f0, by simpa using h.f1, by simpa using h.f2⟩
end Go.Proofs.YtehjjinlpilelaaGreatDoor
namespace Go.Proofs.YtehjjinlpilelaaGreatDoor
open Go.ChangeShapes Go.WideShapes Go.ChangeAt Go.RowKit

theorem infoInt : (Tryz.prog.info? 3).map (fun i => (i.zero, i.size, i.bytes)) = some (some (.int .i64 0), 1, 8) := by kernel_rfl
/-- block b holds the integers xs -/
def Ints (w : World) (b : Nat) (xs : List Int) : Prop := b < w.heap.size ∧ ∀ i : Nat, i < xs.length → w.cell? ⟨b, i, none⟩ = some (.int .i64 (xs.getD i 0))
theorem Ints.later {w w' : World} {b : Nat} {xs : List Int} (h : Ints w b xs) (hb : Below w.heap.size w w') : Ints w' b xs :=
  ⟨Nat.lt_of_lt_of_le h.1 hb.size, fun i hi => keep1 hb h.1 (h.2 i hi)⟩
theorem Ints.drewN {w : World} {b : Nat} {xs : List Int} (h : Ints w b xs) (n : Nat) : Ints (w.drewN n) b xs := h
/-- the slice v owns the integers xs, in a block from B on -/
def Own (w : World) (B : Nat) (v : Value) (xs : List Int) : Prop := w.ownsRow B 3 1 v xs.length (xs.map (Value.int .i64))
theorem Own.nil (w : World) (B : Nat) : Own w B (.slice none 0 0) [] := World.ownsRow_nil _ _ _ _
theorem Own.drewN {w : World} {B : Nat} {v : Value} {xs : List Int} (h : Own w B v xs) (n : Nat) : Own (w.drewN n) B v xs := h
theorem Own.alloc {w : World} {B : Nat} {v : Value} {xs : List Int} (h : Own w B v xs) (o : Obj) : Own (w.alloc o) B v xs := World.ownsRow.alloc h o
theorem Own.push {w : World} {B : Nat} {v : Value} {xs : List Int} {x : Int} (h : w.ownsRow B 3 1 v (xs.length + 1) (xs.map (Value.int .i64) ++ [.int .i64 x])) : Own w B v (xs ++ [x]) := by
  unfold Own; simpa using h
theorem Own.later {w w' : World} {B : Nat} {v : Value} {xs : List Int} (h : Own w B v xs) (hb : Below w.heap.size w w') : Own w' B v xs := by
  refine ⟨h.1, ?_⟩
  rcases h.2 with hn | ⟨g, cap, cur, rfl, hB, hg, rest⟩
  · exact .inl hn
  · refine .inr ⟨g, cap, cur, rfl, hB, ?_, rest⟩
    rw [hb.block g (Array.getElem?_eq_some_iff.1 hg).1]; exact hg
theorem Own.row {w : World} {B : Nat} {v : Value} {xs : List Int} (h : Own w B v xs) (hx : 0 < xs.length) : ∃ b cap, v = .slice (some ⟨b, 0, none⟩) xs.length cap ∧ B ≤ b ∧ xs.length ≤ cap ∧ Ints w b xs := by
  have h0 := h
  rcases h.2 with ⟨_, hn⟩ | ⟨g, cap, cur, rfl, hB, hg, hc, rest⟩
  · omega
  · refine ⟨g, cap, rfl, hB, hc, (Array.getElem?_eq_some_iff.1 hg).1, fun i hi => ?_⟩
    rw [World.ownsRow.cellAt h0 i (by omega)]
    simp [List.getD, List.getElem?_eq_getElem hi]
/-- behind an append: what was there below the base stands -/
theorem grown_below {B : Nat} {w a w1 : World} {v : Value} {xs : List Int} (hb : Below B w a) (hB : B ≤ a.heap.size) (h : Own a B v xs) (hg : a.grownBy w1 v.ownBlock) : Below B w w1 :=
  hb.grown hg hB fun k hk => (World.ownsRow.lt h k hk).1
end Go.Proofs.YtehjjinlpilelaaGreatDoor
namespace Go.Proofs.YtehjjinlpilelaaGreatDoor
open Go.ChangeShapes Go.WideShapes Go.ChangeAt Go.RowKit

theorem below_alloc2 {w w1 : World} (h : Below w.heap.size w w1) (o : Obj) : Below w.heap.size w (w1.alloc o) := h.alloc h.size o
/-- the slice v owns xs, and is nil where xs is empty -/
def OwnN (w : World) (B : Nat) (v : Value) (xs : List Int) : Prop := Own w B v xs ∧ (xs = [] → v = .slice none 0 0)
/-- the slice v holds xs, and is nil where xs is empty -/
def Seq (w : World) (v : Value) (xs : List Int) : Prop := (xs = [] ∧ v = .slice none 0 0) ∨ (0 < xs.length ∧ ∃ b cap, v = .slice (some ⟨b, 0, none⟩) xs.length cap ∧ Ints w b xs)
theorem OwnN.nil (w : World) (B : Nat) : OwnN w B (.slice none 0 0) [] := ⟨Own.nil _ _, fun _ => rfl⟩
theorem OwnN.shape {w : World} {B : Nat} {v : Value} {xs : List Int} (h : OwnN w B v xs) : Seq w v xs := by
  by_cases q : xs = []
  · exact Or.inl ⟨q, h.2 q⟩
  · have hp : 0 < xs.length := by cases xs with
      | nil => exact absurd rfl q
      | cons a l => simp
    obtain ⟨b, cap, e, _, _, hi⟩ := h.1.row hp
    exact Or.inr ⟨hp, b, cap, e, hi⟩
theorem OwnN.later {w w' : World} {B : Nat} {v : Value} {xs : List Int} (h : OwnN w B v xs) (hb : Below w.heap.size w w') : OwnN w' B v xs := ⟨h.1.later hb, h.2⟩
theorem Seq.later {w w' : World} {v : Value} {xs : List Int} (h : Seq w v xs) (hb : Below w.heap.size w w') : Seq w' v xs := by
  rcases h with h | ⟨h, b, cap, e, hi⟩
  · exact Or.inl h
  · exact Or.inr ⟨h, b, cap, e, hi.later hb⟩
theorem own_in {w : World} {B n : Nat} {v : Value} {xs : List Int} (h : Own w B v xs) (hn : xs.length = n) (x : Obj) : (w.alloc x).ownsRow B 3 1 v n (xs.map (Value.int .i64)) := by rw [← hn]; exact World.ownsRow.alloc h x
theorem cell_new1 (w : World) (x : Value) (t : TypeId) : (w.alloc (Obj.cells #[x] t)).cell? ⟨w.heap.size, 0, none⟩ = some x := by simp
theorem news1 (w : World) (x : Int) (t : TypeId) : ∀ (j : Nat) (u : Value), [Value.int .i64 x][j]? = some u → (w.alloc (Obj.cells #[.int .i64 x] t)).cell? ((⟨w.heap.size, 0, none⟩ : Addr).add j) = some u := by
  intro j u hj
  match j, hj with
  | 0, hj => simp at hj; subst hj; exact cell_new1 _ _ _
theorem one1 (x : Int) : ∀ u ∈ [Value.int .i64 x], u.oneCell' = true := by intro u hu; simp at hu; subst hu; rfl
theorem ints_get {w : World} {b : Nat} {xs : List Int} {i : Nat} {x : Int} (h : Ints w b xs) (hi : i < xs.length) (hx : xs.getD i 0 = x) : w.cell? ⟨b, i, none⟩ = some (.int .i64 x) := by rw [← hx]; exact h.2 i hi
/-- behind the append of an integer: what lies below the base stands, and the list is longer -/
theorem own_push {w w1 w2 : World} {B n : Nat} {v v' : Value} {xs : List Int} {z : Int} {x : Obj} (hn : xs.length = n) (hb : Below w.heap.size w w1) (hB : w.heap.size ≤ B) (hB1 : B ≤ w1.heap.size) (hO : Own w1 B v xs)
    (h1 : w2.ownsRow B 3 1 v' (n + 1) (xs.map (Value.int .i64) ++ [.int .i64 z])) (hg : (w1.alloc x).grownBy w2 v.ownBlock) :
    Below w.heap.size w w2 ∧ Below B w1 w2 ∧ OwnN w2 B v' (xs ++ [z]) := by
  have hr : ∀ q, v.ownBlock = some q → B ≤ q := fun q hq => (World.ownsRow.lt hO q hq).1
  have hA : Below B w1 (w1.alloc x) := (Below.refl _ _).alloc hB1 x
  have hBw : Below B w1 w2 := hA.trans ((Below.refl _ _).grown hg (Nat.le_trans hB1 (by simp)) hr)
  refine ⟨hb.trans (hBw.mono hB), hBw, ?_, ?_⟩
  · rw [← hn] at h1; exact Own.push h1
  · intro q; simp at q
end Go.Proofs.YtehjjinlpilelaaGreatDoor
namespace Go.Proofs.YtehjjinlpilelaaGreatDoor
open Go.ChangeShapes Go.WideShapes Go.ChangeAt Go.RowKit

theorem infoSpan : (Tryz.prog.info? 73).map (fun i => (i.zero, i.size, i.bytes)) = some (some (.agg #[.int .i64 0, .int .i64 0]), 2, 16) := by kernel_rfl
/-- the slice v owns n spans with the ends xs -/
def Own2 (w : World) (B : Nat) (v : Value) (n : Nat) (xs : List Int) : Prop := w.ownsRow B 73 2 v n (xs.map (Value.int .i64))
theorem Own2.nil (w : World) (B : Nat) : Own2 w B (.slice none 0 0) 0 [] := World.ownsRow_nil _ _ _ _
theorem Own2.later {w w' : World} {B n : Nat} {v : Value} {xs : List Int} (h : Own2 w B v n xs) (hb : Below w.heap.size w w') : Own2 w' B v n xs := by
  refine ⟨h.1, ?_⟩
  rcases h.2 with hn | ⟨g, cap, cur, rfl, hB, hg, rest⟩
  · exact .inl hn
  · refine .inr ⟨g, cap, cur, rfl, hB, ?_, rest⟩
    rw [hb.block g (Array.getElem?_eq_some_iff.1 hg).1]; exact hg
theorem Own2.len {w : World} {B n : Nat} {v : Value} {xs : List Int} (h : Own2 w B v n xs) : xs.length = n * 2 := by have := h.1; simpa using this
theorem Own2.row {w : World} {B n : Nat} {v : Value} {xs : List Int} (h : Own2 w B v n xs) (hx : 0 < n) : ∃ b cap, v = .slice (some ⟨b, 0, none⟩) n cap ∧ B ≤ b ∧ n ≤ cap ∧ Ints w b xs := by
  have h0 := h
  have hl := h.len
  rcases h.2 with ⟨_, hn⟩ | ⟨g, cap, cur, rfl, hB, hg, hc, rest⟩
  · omega
  · refine ⟨g, cap, rfl, hB, hc, (Array.getElem?_eq_some_iff.1 hg).1, fun i hi => ?_⟩
    rw [World.ownsRow.cellAt h0 i (by omega)]
    simp [List.getD, List.getElem?_eq_getElem hi]
/-- the slice v holds n spans with the ends xs, and is nil where there is none -/
def Seq2 (w : World) (v : Value) (n : Nat) (xs : List Int) : Prop := (n = 0 ∧ v = .slice none 0 0) ∨ (0 < n ∧ xs.length = n * 2 ∧ ∃ b cap, v = .slice (some ⟨b, 0, none⟩) n cap ∧ Ints w b xs)
theorem Own2.shape {w : World} {B n : Nat} {v : Value} {xs : List Int} (h : Own2 w B v n xs) (hx : 0 < n) : Seq2 w v n xs := by
  obtain ⟨b, cap, e, _, _, hi⟩ := h.row hx
  exact Or.inr ⟨hx, h.len, b, cap, e, hi⟩
theorem Seq2.later {w w' : World} {v : Value} {n : Nat} {xs : List Int} (h : Seq2 w v n xs) (hb : Below w.heap.size w w') : Seq2 w' v n xs := by
  rcases h with h | ⟨h, hl, b, cap, e, hi⟩
  · exact Or.inl h
  · exact Or.inr ⟨h, hl, b, cap, e, hi.later hb⟩
set_option maxHeartbeats 2000000 in
theorem equal_spans (v1 v2 : Value) (n : Nat) (xs : List Int) (w : World) (h1 : Seq2 w v1 n xs) (h2 : Seq2 w v2 n xs) (hl : n ≤ 100000) :
    Calls Tryz.prog 83 #[v1, v2] w fun e w' => e = .returned (.bool true) ∧ Below w.heap.size w w' := by
  rcases h1 with ⟨rfl, rfl⟩ | ⟨h1, hx, b1, cap1, rfl, hI1⟩
  · rcases h2 with ⟨_, rfl⟩ | ⟨h2, _⟩
    · go_enter Tryz.func83, Tryz.ntmps83
      go_wp2_with fail
      go_loopg [13] 1 (fun g t wr => t = .int .i64 0 ∧ w = wr)
      case atStart => exact ⟨rfl, rfl⟩
      case round =>
        obtain ⟨rfl, rfl⟩ := hrel
        go_wp2_with fail
        go_ret
        exact ⟨rfl, Below.refl _ _⟩
    · omega
  · rcases h2 with ⟨rfl, _⟩ | ⟨_, _, b2, cap2, rfl, hI2⟩
    · omega
    · have hI1H := Lib.hid hI1
      have hI2H := Lib.hid hI2
      have hxH := Lib.hid hx
      clear hx hI1 hI2
      have hn0 : ((n : Int) == 0) = false := by simp; omega
      go_enter Tryz.func83, Tryz.ntmps83
      go_wp2_with fail
      go_loopg [13] 100002 (fun g t wr => ∃ j : Nat, j ≤ n ∧ t = .int .i64 j ∧ Below w.heap.size w wr ∧ n - j ≤ g)
      case atStart => exact ⟨0, by omega, rfl, Below.refl _ _, by omega⟩
      case round =>
        obtain ⟨j, hj, rfl, hb, hg⟩ := hrel
        by_cases hlt : j < n
        · have c1 := (hI1H.out.later hb).2 (j * 2) (by have := hxH.out; omega)
          have c2 := (hI2H.out.later hb).2 (j * 2) (by have := hxH.out; omega)
          have e1 := (hI1H.out.later hb).2 (j * 2 + 1) (by have := hxH.out; omega)
          have e2 := (hI2H.out.later hb).2 (j * 2 + 1) (by have := hxH.out; omega)
          generalize xs.getD (j * 2) 0 = z at c1 c2
          generalize xs.getD (j * 2 + 1) 0 = y at e1 e2
          go_wp2_with fail
          go_region
          all_goals (try go_wp2_with fail)
          go_roundg (gk - 1)
          case measure => omega
          case rel => exact ⟨j + 1, by omega, by go_num, below_drewN hb 1, by omega⟩
        · have e : j = n := by omega
          subst e
          go_wp2_with fail
          go_ret
          exact ⟨rfl, hb⟩
end Go.Proofs.YtehjjinlpilelaaGreatDoor
