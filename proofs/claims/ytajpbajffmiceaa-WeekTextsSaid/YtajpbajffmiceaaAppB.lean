/- Lists of integers that a call appends to, seen by their values: nil or a row. No conditions. -/
import Derived.Test.YtajpbajffmiceaaApp
import Derived.Deep.LoopGhost
namespace Go.Proofs.Ytajpbajffmiceaa
open Go.ChangeShapes Go.WideShapes Go.ChangeAt Go.RowKit

theorem below_alloc2 {w w1 : World} (h : Below w.heap.size w w1) (o : Obj) : Below w.heap.size w (w1.alloc o) := h.alloc h.size o
/-- the slice v owns xs, and is nil where xs is empty -/
def OwnN (w : World) (B : Nat) (v : Value) (xs : List Int) : Prop := Own w B v xs ∧ (xs = [] → v = .slice none 0 0)
/-- the slice v holds xs, and is nil where xs is empty -/
def Seq (w : World) (v : Value) (xs : List Int) : Prop := (xs = [] ∧ v = .slice none 0 0) ∨ (0 < xs.length ∧ ∃ b cap, v = .slice (some ⟨b, 0, none⟩) xs.length cap ∧ Ints w b xs)
theorem OwnN.nil (w : World) (B : Nat) : OwnN w B (.slice none 0 0) [] := ⟨Own.nil _ _, fun _ => rfl⟩
theorem OwnN.shape {w : World} {B : Nat} {v : Value} {xs : List Int} (h : OwnN w B v xs) : Seq w v xs := by
  by_cases q : xs = []
  · exact Or.inl ⟨q, h.2 q⟩
  · have hp : 0 < xs.length := by cases xs with
      | nil => exact absurd rfl q
      | cons a l => simp
    obtain ⟨b, cap, e, _, _, hi⟩ := h.1.row hp
    exact Or.inr ⟨hp, b, cap, e, hi⟩
theorem OwnN.later {w w' : World} {B : Nat} {v : Value} {xs : List Int} (h : OwnN w B v xs) (hb : Below w.heap.size w w') : OwnN w' B v xs := ⟨h.1.later hb, h.2⟩
theorem Seq.later {w w' : World} {v : Value} {xs : List Int} (h : Seq w v xs) (hb : Below w.heap.size w w') : Seq w' v xs := by
  rcases h with h | ⟨h, b, cap, e, hi⟩
  · exact Or.inl h
  · exact Or.inr ⟨h, b, cap, e, hi.later hb⟩
theorem own_in {w : World} {B n : Nat} {v : Value} {xs : List Int} (h : Own w B v xs) (hn : xs.length = n) (x : Obj) : (w.alloc x).ownsRow B 3 1 v n (xs.map (Value.int .i64)) := by rw [← hn]; exact World.ownsRow.alloc h x
theorem cell_new1 (w : World) (x : Value) (t : TypeId) : (w.alloc (Obj.cells #[x] t)).cell? ⟨w.heap.size, 0, none⟩ = some x := by simp
theorem news1 (w : World) (x : Int) (t : TypeId) : ∀ (j : Nat) (u : Value), [Value.int .i64 x][j]? = some u → (w.alloc (Obj.cells #[.int .i64 x] t)).cell? ((⟨w.heap.size, 0, none⟩ : Addr).add j) = some u := by
  intro j u hj
  match j, hj with
  | 0, hj => simp at hj; subst hj; exact cell_new1 _ _ _
theorem one1 (x : Int) : ∀ u ∈ [Value.int .i64 x], u.oneCell' = true := by intro u hu; simp at hu; subst hu; rfl
theorem ints_get {w : World} {b : Nat} {xs : List Int} {i : Nat} {x : Int} (h : Ints w b xs) (hi : i < xs.length) (hx : xs.getD i 0 = x) : w.cell? ⟨b, i, none⟩ = some (.int .i64 x) := by rw [← hx]; exact h.2 i hi
/-- behind the append of an integer: what lies below the base stands, and the list is longer -/
theorem own_push {w w1 w2 : World} {B n : Nat} {v v' : Value} {xs : List Int} {z : Int} {x : Obj} (hn : xs.length = n) (hb : Below w.heap.size w w1) (hB : w.heap.size ≤ B) (hB1 : B ≤ w1.heap.size) (hO : Own w1 B v xs)
    (h1 : w2.ownsRow B 3 1 v' (n + 1) (xs.map (Value.int .i64) ++ [.int .i64 z])) (hg : (w1.alloc x).grownBy w2 v.ownBlock) :
    Below w.heap.size w w2 ∧ Below B w1 w2 ∧ OwnN w2 B v' (xs ++ [z]) := by
  have hr : ∀ q, v.ownBlock = some q → B ≤ q := fun q hq => (World.ownsRow.lt hO q hq).1
  have hA : Below B w1 (w1.alloc x) := (Below.refl _ _).alloc hB1 x
  have hBw : Below B w1 w2 := hA.trans ((Below.refl _ _).grown hg (Nat.le_trans hB1 (by simp)) hr)
  refine ⟨hb.trans (hBw.mono hB), hBw, ?_, ?_⟩
  · rw [← hn] at h1; exact Own.push h1
  · intro q; simp at q
end Go.Proofs.Ytajpbajffmiceaa
