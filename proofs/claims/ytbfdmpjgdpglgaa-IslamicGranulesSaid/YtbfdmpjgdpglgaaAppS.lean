/- Lists of spans that a call appends to; slices.Equal of two that are the same; two calendars that are the same. No conditions. -/
import Derived.Test.YtbfdmpjgdpglgaaAppB
namespace Go.Proofs.Ytbfdmpjgdpglgaa
open Go.ChangeShapes Go.WideShapes Go.ChangeAt Go.RowKit

theorem infoSpan : (Try.prog.info? 51).map (fun i => (i.zero, i.size, i.bytes)) = some (some (.agg #[.int .i64 0, .int .i64 0]), 2, 16) := by kernel_rfl
/-- the slice v owns n spans with the ends xs -/
def Own2 (w : World) (B : Nat) (v : Value) (n : Nat) (xs : List Int) : Prop := w.ownsRow B 51 2 v n (xs.map (Value.int .i64))
theorem Own2.nil (w : World) (B : Nat) : Own2 w B (.slice none 0 0) 0 [] := World.ownsRow_nil _ _ _ _
theorem Own2.later {w w' : World} {B n : Nat} {v : Value} {xs : List Int} (h : Own2 w B v n xs) (hb : Below w.heap.size w w') : Own2 w' B v n xs := by
  refine ⟨h.1, ?_⟩
  rcases h.2 with hn | ⟨g, cap, cur, rfl, hB, hg, rest⟩
  · exact .inl hn
  · refine .inr ⟨g, cap, cur, rfl, hB, ?_, rest⟩
    rw [hb.block g (Array.getElem?_eq_some_iff.1 hg).1]; exact hg
theorem Own2.len {w : World} {B n : Nat} {v : Value} {xs : List Int} (h : Own2 w B v n xs) : xs.length = n * 2 := by have := h.1; simpa using this
theorem Own2.row {w : World} {B n : Nat} {v : Value} {xs : List Int} (h : Own2 w B v n xs) (hx : 0 < n) : ∃ b cap, v = .slice (some ⟨b, 0, none⟩) n cap ∧ B ≤ b ∧ n ≤ cap ∧ Ints w b xs := by
  have h0 := h
  have hl := h.len
  rcases h.2 with ⟨_, hn⟩ | ⟨g, cap, cur, rfl, hB, hg, hc, rest⟩
  · omega
  · refine ⟨g, cap, rfl, hB, hc, (Array.getElem?_eq_some_iff.1 hg).1, fun i hi => ?_⟩
    rw [World.ownsRow.cellAt h0 i (by omega)]
    simp [List.getD, List.getElem?_eq_getElem hi]
/-- the slice v holds n spans with the ends xs, and is nil where there is none -/
def Seq2 (w : World) (v : Value) (n : Nat) (xs : List Int) : Prop := (n = 0 ∧ v = .slice none 0 0) ∨ (0 < n ∧ xs.length = n * 2 ∧ ∃ b cap, v = .slice (some ⟨b, 0, none⟩) n cap ∧ Ints w b xs)
theorem Own2.shape {w : World} {B n : Nat} {v : Value} {xs : List Int} (h : Own2 w B v n xs) (hx : 0 < n) : Seq2 w v n xs := by
  obtain ⟨b, cap, e, _, _, hi⟩ := h.row hx
  exact Or.inr ⟨hx, h.len, b, cap, e, hi⟩
theorem Seq2.later {w w' : World} {v : Value} {n : Nat} {xs : List Int} (h : Seq2 w v n xs) (hb : Below w.heap.size w w') : Seq2 w' v n xs := by
  rcases h with h | ⟨h, hl, b, cap, e, hi⟩
  · exact Or.inl h
  · exact Or.inr ⟨h, hl, b, cap, e, hi.later hb⟩
set_option maxHeartbeats 2000000 in
theorem equal_spans (v1 v2 : Value) (n : Nat) (xs : List Int) (w : World) (h1 : Seq2 w v1 n xs) (h2 : Seq2 w v2 n xs) (hl : n ≤ 100000) :
    Calls Try.prog 44 #[v1, v2] w fun e w' => e = .returned (.bool true) ∧ Below w.heap.size w w' := by
  rcases h1 with ⟨rfl, rfl⟩ | ⟨h1, hx, b1, cap1, rfl, hI1⟩
  · rcases h2 with ⟨_, rfl⟩ | ⟨h2, _⟩
    · go_enter Try.func44, Try.ntmps44
      go_wp2_with fail
      go_loopg [13] 1 (fun g t wr => t = .int .i64 0 ∧ w = wr)
      case atStart => exact ⟨rfl, rfl⟩
      case round =>
        obtain ⟨rfl, rfl⟩ := hrel
        go_wp2_with fail
        go_ret
        exact ⟨rfl, Below.refl _ _⟩
    · omega
  · rcases h2 with ⟨rfl, _⟩ | ⟨_, _, b2, cap2, rfl, hI2⟩
    · omega
    · have hI1H := Lib.hid hI1
      have hI2H := Lib.hid hI2
      have hxH := Lib.hid hx
      clear hx hI1 hI2
      have hn0 : ((n : Int) == 0) = false := by simp; omega
      go_enter Try.func44, Try.ntmps44
      go_wp2_with fail
      go_loopg [13] 100002 (fun g t wr => ∃ j : Nat, j ≤ n ∧ t = .int .i64 j ∧ Below w.heap.size w wr ∧ n - j ≤ g)
      case atStart => exact ⟨0, by omega, rfl, Below.refl _ _, by omega⟩
      case round =>
        obtain ⟨j, hj, rfl, hb, hg⟩ := hrel
        by_cases hlt : j < n
        · have c1 := (hI1H.out.later hb).2 (j * 2) (by have := hxH.out; omega)
          have c2 := (hI2H.out.later hb).2 (j * 2) (by have := hxH.out; omega)
          have e1 := (hI1H.out.later hb).2 (j * 2 + 1) (by have := hxH.out; omega)
          have e2 := (hI2H.out.later hb).2 (j * 2 + 1) (by have := hxH.out; omega)
          generalize xs.getD (j * 2) 0 = z at c1 c2
          generalize xs.getD (j * 2 + 1) 0 = y at e1 e2
          go_wp2_with fail
          go_region
          all_goals (try go_wp2_with fail)
          go_roundg (gk - 1)
          case measure => omega
          case rel => exact ⟨j + 1, by omega, by go_num, below_drewN hb 1, by omega⟩
        · have e : j = n := by omega
          subst e
          go_wp2_with fail
          go_ret
          exact ⟨rfl, hb⟩
set_option maxHeartbeats 2000000 in
theorem same_any (o p : Int) (v1 v2 : Value) (n : Nat) (xs : List Int) (w : World) (h1 : Seq2 w v1 n xs) (h2 : Seq2 w v2 n xs) (hl : n ≤ 100000) :
    Calls Try.prog 29 #[.agg #[.int .i64 o, .int .i64 p, v1], .agg #[.int .i64 o, .int .i64 p, v2]] w fun e w' => e = .returned (.bool true) ∧ Below w.heap.size w w' := by
  have h1H := Lib.hid h1
  have h2H := Lib.hid h2
  clear h1 h2
  go_enter Try.func29, Try.ntmps29
  go_wp2_with fail
  refine (equal_spans v1 v2 n xs _ (h1H.out.later (below_alloc2 (below_alloc2 (Below.refl _ _) _) _)) (h2H.out.later (below_alloc2 (below_alloc2 (Below.refl _ _) _) _)) hl).mono ?_; rintro e w1 ⟨rfl, hb1⟩
  go_wp2_with fail
  go_ret
  exact ⟨by simp, below_box (below_box hb1)⟩
end Go.Proofs.Ytbfdmpjgdpglgaa
