/- A struct of three fields in a block of the call's own: its cells, kept over calls, new blocks and draws. No conditions. -/
import Derived.Test.YtajpbajffmiceaaBase
namespace Go.Proofs.Ytajpbajffmiceaa
open Go.ChangeShapes Go.WideShapes Go.ChangeAt Go.RowKit

theorem keep1 {B b o : Nat} {w w' : World} {v : Value} (hb : Below B w w') (hlt : b < B) (h : w.cell? ⟨b, o, none⟩ = some v) : w'.cell? ⟨b, o, none⟩ = some v := by
  rw [hb.cell (p := ⟨b, o, none⟩) hlt]; exact h
theorem keepf {B b o : Nat} {w w' : World} (hb : Below B w w') (hlt : b < B) (h : w.frozen? ⟨b, o, none⟩ = false) : w'.frozen? ⟨b, o, none⟩ = false := by
  rw [hb.frozen (p := ⟨b, o, none⟩) hlt]; exact h
/-- block b of the world w holds the three values, and may be written -/
structure Box3 (w : World) (b : Nat) (x y z : Value) : Prop where
  lt : b < w.heap.size
  c0 : w.cell? ⟨b, 0, none⟩ = some x
  c1 : w.cell? ⟨b, 1, none⟩ = some y
  c2 : w.cell? ⟨b, 2, none⟩ = some z
  f0 : w.frozen? ⟨b, 0, none⟩ = false
  f1 : w.frozen? ⟨b, 1, none⟩ = false
  f2 : w.frozen? ⟨b, 2, none⟩ = false
theorem Box3.keep {w w' : World} {b B : Nat} {x y z : Value} (h : Box3 w b x y z) (hb : Below B w w') (hB : b < B) : Box3 w' b x y z :=
  ⟨Nat.lt_of_lt_of_le h.lt hb.size, keep1 hb hB h.c0, keep1 hb hB h.c1, keep1 hb hB h.c2, keepf hb hB h.f0, keepf hb hB h.f1, keepf hb hB h.f2⟩
theorem Box3.later {w w' : World} {b : Nat} {x y z : Value} (h : Box3 w b x y z) (hb : Below w.heap.size w w') : Box3 w' b x y z := h.keep hb h.lt
theorem Box3.alloc {w : World} {b : Nat} {x y z : Value} (h : Box3 w b x y z) (o : Obj) : Box3 (w.alloc o) b x y z := h.later ((Below.refl _ _).alloc (Nat.le_refl _) _)
theorem Box3.drewN {w : World} {b : Nat} {x y z : Value} (h : Box3 w b x y z) (n : Nat) : Box3 (w.drewN n) b x y z := h.later (below_drewN (Below.refl _ _) n)
theorem Box3.new (w : World) (x y z : Value) (t : TypeId) : Box3 (w.alloc (.cells #[x, y, z] t)) w.heap.size x y z := by
  refine ⟨by simp, ?_, ?_, ?_, ?_, ?_, ?_⟩ <;> simp
/-- a box that was laid right ahead of a call -/
theorem Box3.born {w w1 : World} {x y z : Value} {t : TypeId} (hb : Below (w.alloc (.cells #[x, y, z] t)).heap.size (w.alloc (.cells #[x, y, z] t)) w1) : Box3 w1 w.heap.size x y z :=
  (Box3.new w x y z t).later hb
theorem Box3.set0 {w : World} {b : Nat} {x y z : Value} (h : Box3 w b x y z) (v : Value) : Box3 (w.setCell ⟨b, 0, none⟩ v) b v y z :=
  ⟨by simpa using h.lt, World.cell?_setCell_same _ _ _ h.c0, by rw [World.cell?_setCell_other _ _ _ _ (by simp)]; exact h.c1, by rw [World.cell?_setCell_other _ _ _ _ (by simp)]; exact h.c2, by simpa using h.f0, by simpa using h.f1, by simpa using h.f2⟩
theorem Box3.set1 {w : World} {b : Nat} {x y z : Value} (h : Box3 w b x y z) (v : Value) : Box3 (w.setCell ⟨b, 1, none⟩ v) b x v z :=
  ⟨by simpa using h.lt, by rw [World.cell?_setCell_other _ _ _ _ (by simp)]; exact h.c0, World.cell?_setCell_same _ _ _ h.c1, by rw [World.cell?_setCell_other _ _ _ _ (by simp)]; exact h.c2, by simpa using h.f0, by simpa using h.f1, by simpa using h.f2⟩
theorem Box3.set2 {w : World} {b : Nat} {x y z : Value} (h : Box3 w b x y z) (v : Value) : Box3 (w.setCell ⟨b, 2, none⟩ v) b x y v :=
  ⟨by simpa using h.lt, by rw [World.cell?_setCell_other _ _ _ _ (by simp)]; exact h.c0, by rw [World.cell?_setCell_other _ _ _ _ (by simp)]; exact h.c1, World.cell?_setCell_same _ _ _ h.c2, by simpa using h.f0, by simpa using h.f1, by simpa using h.f2⟩
theorem Box3.setFar {w : World} {b : Nat} {x y z : Value} (h : Box3 w b x y z) (a : Addr) (v : Value) (hne : a.block ≠ b) : Box3 (w.setCell a v) b x y z := by
  have k : ∀ o, a ≠ ⟨b, o, none⟩ := fun o e => hne (by rw [e])
  exact ⟨by simpa using h.lt, by rw [World.cell?_setCell_other _ _ _ _ (k 0)]; exact h.c0, by rw [World.cell?_setCell_other _ _ _ _ (k 1)]; exact h.c1, by rw [World.cell?_setCell_other _ _ _ _ (k 2)]; exact h.c2, by simpa using h.f0, by simpa using h.f1, by simpa using h.f2⟩
end Go.Proofs.Ytajpbajffmiceaa
