/- Integers that a call appends to a slice of its own: what the slice owns, and its cells. No conditions. -/
import Derived.Test.YtajpbajffmiceaaBox
import Derived.OwnWalk
namespace Go.Proofs.Ytajpbajffmiceaa
open Go.ChangeShapes Go.WideShapes Go.ChangeAt Go.RowKit

theorem infoInt : (Try.prog.info? 3).map (fun i => (i.zero, i.size, i.bytes)) = some (some (.int .i64 0), 1, 8) := by kernel_rfl
/-- block b holds the integers xs -/
def Ints (w : World) (b : Nat) (xs : List Int) : Prop := b < w.heap.size ∧ ∀ i : Nat, i < xs.length → w.cell? ⟨b, i, none⟩ = some (.int .i64 (xs.getD i 0))
theorem Ints.later {w w' : World} {b : Nat} {xs : List Int} (h : Ints w b xs) (hb : Below w.heap.size w w') : Ints w' b xs :=
  ⟨Nat.lt_of_lt_of_le h.1 hb.size, fun i hi => keep1 hb h.1 (h.2 i hi)⟩
theorem Ints.drewN {w : World} {b : Nat} {xs : List Int} (h : Ints w b xs) (n : Nat) : Ints (w.drewN n) b xs := h
/-- the slice v owns the integers xs, in a block from B on -/
def Own (w : World) (B : Nat) (v : Value) (xs : List Int) : Prop := w.ownsRow B 3 1 v xs.length (xs.map (Value.int .i64))
theorem Own.nil (w : World) (B : Nat) : Own w B (.slice none 0 0) [] := World.ownsRow_nil _ _ _ _
theorem Own.drewN {w : World} {B : Nat} {v : Value} {xs : List Int} (h : Own w B v xs) (n : Nat) : Own (w.drewN n) B v xs := h
theorem Own.alloc {w : World} {B : Nat} {v : Value} {xs : List Int} (h : Own w B v xs) (o : Obj) : Own (w.alloc o) B v xs := World.ownsRow.alloc h o
theorem Own.push {w : World} {B : Nat} {v : Value} {xs : List Int} {x : Int} (h : w.ownsRow B 3 1 v (xs.length + 1) (xs.map (Value.int .i64) ++ [.int .i64 x])) : Own w B v (xs ++ [x]) := by
  unfold Own; simpa using h
theorem Own.later {w w' : World} {B : Nat} {v : Value} {xs : List Int} (h : Own w B v xs) (hb : Below w.heap.size w w') : Own w' B v xs := by
  refine ⟨h.1, ?_⟩
  rcases h.2 with hn | ⟨g, cap, cur, rfl, hB, hg, rest⟩
  · exact .inl hn
  · refine .inr ⟨g, cap, cur, rfl, hB, ?_, rest⟩
    rw [hb.block g (Array.getElem?_eq_some_iff.1 hg).1]; exact hg
theorem Own.row {w : World} {B : Nat} {v : Value} {xs : List Int} (h : Own w B v xs) (hx : 0 < xs.length) : ∃ b cap, v = .slice (some ⟨b, 0, none⟩) xs.length cap ∧ B ≤ b ∧ xs.length ≤ cap ∧ Ints w b xs := by
  have h0 := h
  rcases h.2 with ⟨_, hn⟩ | ⟨g, cap, cur, rfl, hB, hg, hc, rest⟩
  · omega
  · refine ⟨g, cap, rfl, hB, hc, (Array.getElem?_eq_some_iff.1 hg).1, fun i hi => ?_⟩
    rw [World.ownsRow.cellAt h0 i (by omega)]
    simp [List.getD, List.getElem?_eq_getElem hi]
/-- behind an append: what was there below the base stands -/
theorem grown_below {B : Nat} {w a w1 : World} {v : Value} {xs : List Int} (hb : Below B w a) (hB : B ≤ a.heap.size) (h : Own a B v xs) (hg : a.grownBy w1 v.ownBlock) : Below B w w1 :=
  hb.grown hg hB fun k hk => (World.ownsRow.lt h k hk).1
end Go.Proofs.Ytajpbajffmiceaa
