/- The contract of week.Text. No conditions. -/
import Derived.Test.YtajpbajffmiceaaWkT
import Derived.Deep.Cut
import Derived.Deep.CutRange
namespace Go.Proofs.Ytajpbajffmiceaa
open Go.ChangeShapes Go.WideShapes Go.ChangeAt Go.RowKit

/-- block b holds the bytes l, and may be written -/
def Arr (w : World) (b : Nat) (l : List Int) : Prop := b < w.heap.size ∧ ∀ i, i < l.length → w.cell? ⟨b, i, none⟩ = some (.int .u8 (l.getD i 0)) ∧ w.frozen? ⟨b, i, none⟩ = false
theorem Arr.set {w : World} {b : Nat} {l : List Int} (h : Arr w b l) (i : Nat) (hi : i < l.length) (x : Int) : Arr (w.setCell ⟨b, i, none⟩ (.int .u8 x)) b (l.set i x) := by
  refine ⟨by simpa using h.1, fun j hj => ?_⟩
  rw [List.length_set] at hj
  have hf : (w.setCell ⟨b, i, none⟩ (.int .u8 x)).frozen? ⟨b, j, none⟩ = false := by simpa using (h.2 j hj).2
  refine ⟨?_, hf⟩
  by_cases e : j = i
  · subst e
    rw [World.cell?_setCell_same _ _ _ (h.2 j hj).1]
    simp [List.getD, hj]
  · rw [World.cell?_setCell_other _ _ _ _ (by simp; try (exact fun q => e q.symm)), (h.2 j hj).1]
    simp [List.getD, show ¬ i = j from fun q => e q.symm]
theorem Arr.later {w w' : World} {b : Nat} {l : List Int} (h : Arr w b l) (hb : Below w.heap.size w w') : Arr w' b l :=
  ⟨Nat.lt_of_lt_of_le h.1 hb.size, fun i hi => ⟨keep1 hb h.1 (h.2 i hi).1, keepf hb h.1 (h.2 i hi).2⟩⟩
theorem Arr.new (w : World) (t : TypeId) : Arr (w.alloc (.cells #[.int .u8 0, .int .u8 0, .int .u8 0, .int .u8 0, .int .u8 45, .int .u8 87, .int .u8 0, .int .u8 0, .int .u8 45, .int .u8 0] t)) w.heap.size [0, 0, 0, 0, 45, 87, 0, 0, 45, 0] := by
  refine ⟨by simp, fun i hi => ?_⟩
  simp at hi
  have : i = 0 ∨ i = 1 ∨ i = 2 ∨ i = 3 ∨ i = 4 ∨ i = 5 ∨ i = 6 ∨ i = 7 ∨ i = 8 ∨ i = 9 := by omega
  rcases this with rfl | rfl | rfl | rfl | rfl | rfl | rfl | rfl | rfl | rfl <;> simp
theorem arr_string {w : World} {b : Nat} (P : Program) (src dst e : TypeId) (l : List UInt8) (hs : P.underlying src = some (.slice e)) (he : P.underlying e = some (.int .u8)) (hd : P.underlying dst = some .string) (n cap : Nat) (hn : l.length = n) (h : Arr w b (l.map fun x => (x.toNat : Int))) :
    (convert src dst (.slice (some ⟨b, 0, none⟩) n cap)).run P w = .ok (.string ⟨l.toArray⟩) w := by
  rw [← hn]
  refine run_convert_bytes_back w src dst e ⟨b, 0, none⟩ cap l hs he hd fun j hj => ?_
  have := (h.2 j (by simpa using hj)).1
  have e : (⟨b, 0, none⟩ : Addr).add j = ⟨b, j, none⟩ := by
    cases j <;> simp [Addr.add]
  rw [e, this]
  simp [List.getD, hj]
theorem tl_ints {y k d : Int} (y1 : 1 ≤ y) (y2 : y ≤ 9999) (k1 : 1 ≤ k) (k2 : k ≤ 54) (d1 : 1 ≤ d) (d2 : d ≤ 7) :
    (Wk.tl y k d).map (fun x => (x.toNat : Int)) = [48 + y / 10 / 10 / 10 % 10, 48 + y / 10 / 10 % 10, 48 + y / 10 % 10, 48 + y % 10, 45, 87, 48 + k / 10, 48 + k % 10, 45, 48 + d] := by
  unfold Wk.tl
  simp only [List.map]
  rw [Wk.dig_nat (by omega) (by omega), Wk.dig_nat (by omega) (by omega), Wk.dig_nat (by omega) (by omega), Wk.dig_nat (by omega) (by omega), Wk.dig_nat (by omega) (by omega), Wk.dig_nat (by omega) (by omega), Wk.dig_nat (by omega) (by omega)]
  rw [show y / 1000 = y / 10 / 10 / 10 % 10 by omega, show y / 100 % 10 = y / 10 / 10 % 10 by omega]
  rfl
def ys (y : Int) (i : Nat) : Int := if i = 0 then y else if i = 1 then y / 10 else if i = 2 then y / 10 / 10 else if i = 3 then y / 10 / 10 / 10 else y / 10 / 10 / 10 / 10
def tls (y : Int) (i : Nat) : List Int :=
  if i = 0 then [0, 0, 0, 0, 45, 87, 0, 0, 45, 0] else if i = 1 then [0, 0, 0, 48 + y % 10, 45, 87, 0, 0, 45, 0] else if i = 2 then [0, 0, 48 + y / 10 % 10, 48 + y % 10, 45, 87, 0, 0, 45, 0]
  else if i = 3 then [0, 48 + y / 10 / 10 % 10, 48 + y / 10 % 10, 48 + y % 10, 45, 87, 0, 0, 45, 0] else [48 + y / 10 / 10 / 10 % 10, 48 + y / 10 / 10 % 10, 48 + y / 10 % 10, 48 + y % 10, 45, 87, 0, 0, 45, 0]
def TxtRel (w wr : World) (b : Nat) (y k d : Int) (l : List Int) (p : Prop) : Prop := Below w.heap.size w wr ∧ w.heap.size < b ∧ Box3 wr w.heap.size (.int .i64 y) (.int .i64 k) (.int .i64 d) ∧ Arr wr b l ∧ p
set_option maxHeartbeats 4000000 in
theorem ktext_none (y k d : Int) (w : World) (h : Wk.shB y k d = false) :
    Calls Try.prog 32 #[.agg #[.int .i64 y, .int .i64 k, .int .i64 d]] w fun e w' => e = .returned (.string (Wk.tx y k d)) ∧ Below w.heap.size w w' := by
  have e : Wk.tx y k d = ⟨#[]⟩ := by simp [Wk.tx, h]
  rw [e]
  have hH := Lib.hid h
  clear h e
  go_enter Try.func32, Try.ntmps32
  go_wp2_with fail
  refine (kshown_any _ _ _ _).mono ?_; rintro e w1 ⟨rfl, hb1⟩
  rw [hH.out]
  go_wp2_with fail
  go_ret
  exact ⟨rfl, below_box hb1⟩
set_option maxHeartbeats 8000000 in
theorem ktext_good (y k d : Int) (w : World) (y1 : 1 ≤ y) (y2 : y ≤ 9999) (k1 : 1 ≤ k) (k2 : k ≤ 54) (d1 : 1 ≤ d) (d2 : d ≤ 7) :
    Calls Try.prog 32 #[.agg #[.int .i64 y, .int .i64 k, .int .i64 d]] w fun e w' => e = .returned (.string (Wk.tx y k d)) ∧ Below w.heap.size w w' := by
  have h : Wk.shB y k d = true := Wk.shB_iff.2 ⟨y1, y2, k1, k2, d1, d2⟩
  have e : Wk.tx y k d = ⟨(Wk.tl y k d).toArray⟩ := by simp [Wk.tx, h]
  rw [e]
  have hH := Lib.hid h
  clear h e
  go_enter Try.func32, Try.ntmps32
  go_wp2_with fail
  refine (kshown_any _ _ _ _).mono ?_; rintro e w1 ⟨rfl, hb1⟩
  rw [hH.out]
  have hD := Lib.hid (Box3.born hb1)
  have hb := below_box hb1
  clear hb1
  have hlt := hD.out.lt
  have a0 := fun o => (hD.out.alloc o).c0
  go_wp2_with fail
  go_region
  go_wp2_with fail
  go_loopg [4, 5] 6 (fun g t4 t5 wr => ∃ i : Nat, i ≤ 4 ∧ t4 = .int .i64 (3 - i) ∧ t5 = .int .i64 (ys y i) ∧ TxtRel w wr w1.heap.size y k d (tls y i) (4 - i ≤ g))
  case atStart => exact ⟨0, by omega, rfl, rfl, by (repeat (first | exact Below.refl _ _ | assumption | refine below_drewN ?_ _ | refine below_alloc1 ?_ _ | refine below_then ?_ (by assumption))), hlt, Box3.drewN (hD.out.alloc _) 1, (Arr.new _ _).later (below_drewN (Below.refl _ _) 1), by omega⟩
  case round =>
    clear hb hD hlt a0
    obtain ⟨i, hi, rfl, rfl, hb, hlt, hD, hA, hg⟩ := hrel
    have hDH := Lib.hid hD
    have hAH := Lib.hid hA
    clear hD hA
    generalize w1.heap.size = b at *
    have hi5 : i = 0 ∨ i = 1 ∨ i = 2 ∨ i = 3 ∨ i = 4 := by omega
    rcases hi5 with rfl | rfl | rfl | rfl | rfl
    all_goals simp [ys, tls] at hAH ⊢
    · obtain ⟨c, f⟩ := hAH.out.2 3 (by simp)
      go_wp2_with fail
      go_roundg (gk - 1)
      case measure => omega
      case rel => exact ⟨1, by omega, rfl, rfl, hb.setCell (by simp; omega) _, hlt, hDH.out.setFar _ _ (by simp; omega), hAH.out.set 3 (by simp) (48 + y % 10), by omega⟩
    · obtain ⟨c, f⟩ := hAH.out.2 2 (by simp)
      go_wp2_with fail
      go_roundg (gk - 1)
      case measure => omega
      case rel => exact ⟨2, by omega, rfl, rfl, hb.setCell (by simp; omega) _, hlt, hDH.out.setFar _ _ (by simp; omega), hAH.out.set 2 (by simp) (48 + y / 10 % 10), by omega⟩
    · obtain ⟨c, f⟩ := hAH.out.2 1 (by simp)
      go_wp2_with fail
      go_roundg (gk - 1)
      case measure => omega
      case rel => exact ⟨3, by omega, rfl, rfl, hb.setCell (by simp; omega) _, hlt, hDH.out.setFar _ _ (by simp; omega), hAH.out.set 1 (by simp) (48 + y / 10 / 10 % 10), by omega⟩
    · obtain ⟨c, f⟩ := hAH.out.2 0 (by simp)
      go_wp2_with fail
      go_roundg (gk - 1)
      case measure => omega
      case rel => exact ⟨4, by omega, rfl, rfl, hb.setCell (by simp; omega) _, hlt, hDH.out.setFar _ _ (by simp; omega), hAH.out.set 0 (by simp) (48 + y / 10 / 10 / 10 % 10), by omega⟩
    · obtain ⟨c6, f6⟩ := hAH.out.2 6 (by simp)
      obtain ⟨c7, f7⟩ := hAH.out.2 7 (by simp)
      obtain ⟨c9, f9⟩ := hAH.out.2 9 (by simp)
      obtain ⟨_, g0, g1, g2, _, _, _⟩ := hDH.out
      go_wp2_with fail
      go_region
      go_upto_region 10 with fail
      have hA3 := ((hAH.out.set 6 (by simp) (48 + k / 10)).set 7 (by simp) (48 + k % 10)).set 9 (by simp) (48 + d)
      have hb3 := ((hb.setCell (p := ⟨b, 6, none⟩) (by simp; omega) (.int .u8 (48 + k / 10))).setCell (p := ⟨b, 7, none⟩) (by simp; omega) (.int .u8 (48 + k % 10))).setCell (p := ⟨b, 9, none⟩) (by simp; omega) (.int .u8 (48 + d))
      generalize (((wr.setCell ⟨b, 6, none⟩ (.int .u8 (48 + k / 10))).setCell ⟨b, 7, none⟩ (.int .u8 (48 + k % 10))).setCell ⟨b, 9, none⟩ (.int .u8 (48 + d))) = W at hA3 hb3 ⊢
      clear c6 f6 c7 f7 c9 f9 g0 g1 g2 hDH hAH
      have hback := arr_string Try.prog 69 9 5 (Wk.tl y k d) Try.underlying69 Try.underlying5 Try.underlying9 10 10 rfl (w := W.drew) (b := b) (by rw [tl_ints y1 y2 k1 k2 d1 d2]; exact hA3.later (below_drewN (Below.refl _ _) 1))
      clear hA3
      go_wp2_with fail
      go_ret
      exact ⟨rfl, hb3.drew⟩
theorem ktext_any (y k d : Int) (w : World) :
    Calls Try.prog 32 #[.agg #[.int .i64 y, .int .i64 k, .int .i64 d]] w fun e w' => e = .returned (.string (Wk.tx y k d)) ∧ Below w.heap.size w w' := by
  rcases Wk.sh_ways y k d with ⟨_, y1, y2, k1, k2, d1, d2⟩ | ⟨e, _⟩
  · exact ktext_good y k d w y1 y2 k1 k2 d1 d2
  · exact ktext_none y k d w e
end Go.Proofs.Ytajpbajffmiceaa
