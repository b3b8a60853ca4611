/- Contracts of the order of the months, of package hebrew and of its reference. No conditions but those on sizes. -/
import Derived.Test.YtpoehjnhinapoaaHebC
import Derived.Test.YtpoehjnhinapoaaApp
namespace Heb
theorem ord_a (l : Bool) {k : Nat} (h : k < nm l - 6) : ordF l k = 7 + (k : Int) := by
  have t : ∀ l : Bool, ∀ i : Fin (nm l - 6), ordF l i = 7 + ((i : Nat) : Int) := by decide
  exact t l ⟨k, h⟩
theorem ord_b (l : Bool) {i : Nat} (h : i < 6) : ordF l (nm l - 6 + i) = 1 + (i : Int) := by
  have t : ∀ l : Bool, ∀ i : Fin 6, ordF l (nm l - 6 + i) = 1 + ((i : Nat) : Int) := by decide
  exact t l ⟨i, h⟩
theorem take_ord (l : Bool) {k : Nat} (h : k < nm l) : (ordL l).take (k + 1) = (ordL l).take k ++ [ordF l k] := by
  rw [List.take_succ_eq_append_getElem (by rw [ordL_len]; exact h)]
  congr 2
  simp [ordF, List.getD, List.getElem?_eq_getElem (show k < (ordL l).length by rw [ordL_len]; exact h)]
theorem take_len (l : Bool) {k : Nat} (h : k ≤ nm l) : ((ordL l).take k).length = k := by rw [List.length_take, ordL_len]; omega
theorem take_all (l : Bool) : (ordL l).take (nm l) = ordL l := List.take_of_length_le (by rw [ordL_len]; omega)
end Heb
namespace Go.Proofs.Ytpoehjnhinapoaa
open Go.ChangeShapes Go.WideShapes Go.ChangeAt Go.RowKit

theorem cell_newA (w : World) (k : Nat) (x : Value) (e : TypeId) : ((w.drewN k).alloc (Obj.cells #[x] e)).cell? ⟨w.heap.size, 0, none⟩ = some x := by
  show ((w.drewN k).alloc (Obj.cells #[x] e)).cell? ⟨(w.drewN k).heap.size, 0, none⟩ = some x
  generalize w.drewN k = W; simp
theorem own_a {w : World} {B : Nat} {e : TypeId} {v : Value} {n : Nat} {xs : List Value} (h : w.ownsRow B e 1 v n xs) (k : Nat) (o : Obj) : ((w.drewN k).alloc o).ownsRow B e 1 v n xs := World.ownsRow.alloc (w := w.drewN k) h o
theorem own_b {w : World} {B : Nat} {e : TypeId} {v : Value} {n : Nat} {xs : List Value} (h : w.ownsRow B e 1 v n xs) (o : Obj) : (w.alloc o).ownsRow B e 1 v n xs := h.alloc o
def OrdOut (l : Bool) (w : World) (e : Ending) (w' : World) : Prop := ∃ b cap, e = .returned (.slice (some ⟨b, 0, none⟩) (Heb.nm l) cap) ∧ Ints w' b (Heb.ordL l) ∧ Below w.heap.size w w'
/-- the first k months, and room for no claim on more -/
def OrdRel (l : Bool) (w : World) (v : Value) (k : Nat) (wr : World) : Prop := wr.ownsRow w.heap.size 3 1 v k (((Heb.ordL l).map (Value.int .i64)).take k) ∧ Below w.heap.size w wr
theorem OrdRel.zero (l : Bool) (w : World) : OrdRel l w (.slice none 0 0) 0 w := ⟨World.ownsRow_nil _ _ _ _, Below.refl _ _⟩
theorem OrdRel.push {l : Bool} {w : World} {v v' : Value} {k : Nat} {wr w1 : World} {o : Obj} {n : Nat} {x : Int} (h : OrdRel l w v k wr) (hk : k < Heb.nm l) (hx : Heb.ordF l k = x)
    (h1 : w1.ownsRow w.heap.size 3 1 v' (k + 1) (((Heb.ordL l).map (Value.int .i64)).take k ++ [.int .i64 x])) (hg : ((wr.drewN n).alloc o).grownBy w1 v.ownBlock) : OrdRel l w v' (k + 1) w1 := by
  refine ⟨?_, ?_⟩
  · rw [← List.map_take, Heb.take_ord l hk, hx, List.map_append, List.map_take]; exact h1
  · have hb : Below w.heap.size w ((wr.drewN n).alloc o) := (below_drewN h.2 n).alloc h.2.size o
    exact hb.grown hg hb.size fun q hq => (World.ownsRow.lt h.1 q hq).1
theorem OrdRel.out {l : Bool} {w : World} {v : Value} {wr : World} (h : OrdRel l w v (Heb.nm l) wr) : ∃ b cap, v = .slice (some ⟨b, 0, none⟩) (Heb.nm l) cap ∧ Ints wr b (Heb.ordL l) ∧ Below w.heap.size w wr := by
  have h1 := h.1
  rw [← List.map_take, Heb.take_all] at h1
  have h2 : Own wr w.heap.size v (Heb.ordL l) := by unfold Own; rw [Heb.ordL_len]; exact h1
  have hp : 0 < (Heb.ordL l).length := by rw [Heb.ordL_len]; cases l <;> decide
  obtain ⟨b, cap, e, _, _, hi⟩ := h2.row hp
  rw [Heb.ordL_len] at e
  exact ⟨b, cap, e, hi, h.2⟩

set_option maxHeartbeats 1000000 in
theorem horder_any (y : Int) (w : World) (hy : Heb.yB y = true) :
    Calls Try.prog 57 #[.int .i64 y] w (OrdOut (Heb.lp y) w) := by
  have hm : Heb.mthc y = (Heb.nm (Heb.lp y) : Int) := by rw [Heb.nm_mths]; simp [Heb.mthc, hy]
  have hm := Lib.hid hm
  have hN : 12 ≤ Heb.nm (Heb.lp y) ∧ Heb.nm (Heb.lp y) ≤ 13 := by cases Heb.lp y <;> decide
  obtain ⟨N1, N2⟩ := hN
  have hA := Lib.hid (fun k (h : k < Heb.nm (Heb.lp y) - 6) => Heb.ord_a (Heb.lp y) h)
  have hB := Lib.hid (fun i (h : i < 6) => Heb.ord_b (Heb.lp y) h)
  obtain ⟨i0, hi, hz0, hz1, hz2⟩ := info_parts infoInt
  generalize hl : Heb.lp y = l at *
  have hlH := Lib.hid hl
  clear hl hy
  generalize hNN : Heb.nm l = N at *
  have hNH := Lib.hid hNN
  clear hNN
  go_enter Try.func57, Try.ntmps57
  go_wp2
  go_loopw [3, 4] (fun v t wr => ∃ k : Nat, k ≤ N - 6 ∧ t = .int .i64 (7 + (k : Int)) ∧ OrdRel l w v k wr) (fun _ t _ => 20 - (intOf t).toNat)
  case atStart => exact ⟨0, by omega, rfl, OrdRel.zero _ _⟩
  case round =>
    obtain ⟨k, hk, rfl, hrel⟩ := hrel
    have hrH := Lib.hid hrel
    clear hrel
    by_cases hlt : k < N - 6
    · go_wp2_with (first | (go_at_call 17; refine (hmonths_any _ _).mono ?_; rintro e w' ⟨rfl, kd, rfl⟩; rw [hm.out]) | (at_builtin; (refine wpList_append_own _ rfl _ _ 50 rfl w.heap.size 3 i0 (.int .i64 0) 1 8 Try.underlying50 hi hz0 hz1 hz2 rfl (by decide) _ k _ rfl (own_a hrH.out.1 _ _) ⟨wr.heap.size, 0, none⟩ 1 1 [.int .i64 (7 + (k : Int))] rfl rfl ?c1 ?c2 ?c3 ?c4 ?c5 ?_)))
      case c1 =>
        intro j u hj
        match j, hj with
        | 0, hj => simp at hj; subst hj; simp [Addr.add]; try exact cell_newA _ _ _ _
      case c2 => intro u hu; simp at hu; subst hu; rfl
      case c3 => unfold maxLen; omega
      case c4 => omega
      case c5 => have := hrH.out.2.size; simp; omega
      intro v' w1 hown' hgrow _
      have R := Lib.hid (OrdRel.push hrH.out (by rw [hNH.out]; omega) (hA.out k hlt) hown' hgrow)
      clear hown' hgrow hrH
      go_wp2
      go_roundw
      case rel => exact ⟨k + 1, by omega, by go_num, R.out⟩
      case measure => simp [intOf]; omega
    · obtain rfl : k = N - 6 := by omega
      go_wp2_with (go_at_call 17; refine (hmonths_any _ _).mono ?_; rintro e w' ⟨rfl, kd, rfl⟩; rw [hm.out])
      go_loopw [3, 16] (fun v t wr => ∃ i : Nat, i ≤ 6 ∧ t = .int .i64 (i) ∧ OrdRel l w v (N - 6 + i) wr) (fun _ t _ => 7 - (intOf t).toNat)
      case atStart => exact ⟨0, by omega, rfl, hrH.out.1, below_drewN hrH.out.2 _⟩
      case round =>
        clear hrH
        obtain ⟨i, hi6, rfl, hrel⟩ := hrel
        have hrH := Lib.hid hrel
        clear hrel
        by_cases hlt : i < 6
        · go_wp2_with (at_builtin; refine wpList_append_own _ rfl _ _ 50 rfl w.heap.size 3 i0 (.int .i64 0) 1 8 Try.underlying50 hi hz0 hz1 hz2 rfl (by decide) _ (N - 6 + i) _ rfl (own_b hrH.out.1 _) ⟨wr.heap.size, 0, none⟩ 1 1 [.int .i64 (1 + (i : Int))] rfl rfl ?d1 ?d2 ?d3 ?d4 ?d5 ?_)
          case d1 =>
            intro j u hj
            match j, hj with
            | 0, hj => simp at hj; subst hj; simp [Addr.add, Int.add_comm]
          case d2 => intro u hu; simp at hu; subst hu; rfl
          case d3 => unfold maxLen; omega
          case d4 => omega
          case d5 => have := hrH.out.2.size; simp; omega
          intro v' w1 hown' hgrow _
          have hBi := hB.out i hlt
          have R := Lib.hid (OrdRel.push (n := 0) hrH.out (by rw [hNH.out]; omega) hBi hown' hgrow)
          clear hown' hgrow hrH hBi
          go_wp2
          go_roundw
          case rel => exact ⟨i + 1, by omega, by go_num, R.out⟩
          case measure => simp [intOf]; omega
        · obtain rfl : i = 6 := by omega
          have ho := hrH.out
          rw [show N - 6 + 6 = Heb.nm l by rw [hNH.out]; omega] at ho
          obtain ⟨b, cap, rfl, hI, hb⟩ := ho.out
          rw [hNH.out]
          have hIH := Lib.hid hI
          clear ho hI hrH
          go_wp2
          go_ret
          exact ⟨b, cap, by rw [hNH.out]; rfl, hIH.out, hb⟩

set_option maxHeartbeats 1000000 in
theorem rhorder_any (y : Int) (w : World) (hy : Heb.yB y = true) :
    Calls Try.prog 58 #[.int .i64 y] w (OrdOut (Heb.lp y) w) := by
  have hm : Heb.mthc y = (Heb.nm (Heb.lp y) : Int) := by rw [Heb.nm_mths]; simp [Heb.mthc, hy]
  have hm := Lib.hid hm
  have hN : 12 ≤ Heb.nm (Heb.lp y) ∧ Heb.nm (Heb.lp y) ≤ 13 := by cases Heb.lp y <;> decide
  obtain ⟨N1, N2⟩ := hN
  have hA := Lib.hid (fun k (h : k < Heb.nm (Heb.lp y) - 6) => Heb.ord_a (Heb.lp y) h)
  have hB := Lib.hid (fun i (h : i < 6) => Heb.ord_b (Heb.lp y) h)
  obtain ⟨i0, hi, hz0, hz1, hz2⟩ := info_parts infoInt
  generalize hl : Heb.lp y = l at *
  have hlH := Lib.hid hl
  clear hl hy
  generalize hNN : Heb.nm l = N at *
  have hNH := Lib.hid hNN
  clear hNN
  go_enter Try.func58, Try.ntmps58
  go_wp2
  go_loopw [3, 4] (fun v t wr => ∃ k : Nat, k ≤ N - 6 ∧ t = .int .i64 (7 + (k : Int)) ∧ OrdRel l w v k wr) (fun _ t _ => 20 - (intOf t).toNat)
  case atStart => exact ⟨0, by omega, rfl, OrdRel.zero _ _⟩
  case round =>
    obtain ⟨k, hk, rfl, hrel⟩ := hrel
    have hrH := Lib.hid hrel
    clear hrel
    by_cases hlt : k < N - 6
    · go_wp2_with (first | (go_at_call 23; refine (rhmonths_any _ _).mono ?_; rintro e w' ⟨rfl, rfl⟩; rw [hm.out]) | (at_builtin; (refine wpList_append_own _ rfl _ _ 50 rfl w.heap.size 3 i0 (.int .i64 0) 1 8 Try.underlying50 hi hz0 hz1 hz2 rfl (by decide) _ k _ rfl (own_b hrH.out.1 _) ⟨wr.heap.size, 0, none⟩ 1 1 [.int .i64 (7 + (k : Int))] rfl rfl ?c1 ?c2 ?c3 ?c4 ?c5 ?_)))
      case c1 =>
        intro j u hj
        match j, hj with
        | 0, hj => simp at hj; subst hj; simp [Addr.add]; try exact cell_newA _ _ _ _
      case c2 => intro u hu; simp at hu; subst hu; rfl
      case c3 => unfold maxLen; omega
      case c4 => omega
      case c5 => have := hrH.out.2.size; simp; omega
      intro v' w1 hown' hgrow _
      have R := Lib.hid (OrdRel.push (n := 0) hrH.out (by rw [hNH.out]; omega) (hA.out k hlt) hown' hgrow)
      clear hown' hgrow hrH
      go_wp2
      go_roundw
      case rel => exact ⟨k + 1, by omega, by go_num, R.out⟩
      case measure => simp [intOf]; omega
    · obtain rfl : k = N - 6 := by omega
      go_wp2_with (go_at_call 23; refine (rhmonths_any _ _).mono ?_; rintro e w' ⟨rfl, rfl⟩; rw [hm.out])
      go_loopw [3, 5] (fun v t wr => ∃ i : Nat, i ≤ 6 ∧ t = .int .i64 (1 + (i : Int)) ∧ OrdRel l w v (N - 6 + i) wr) (fun _ t _ => 7 - (intOf t).toNat)
      case atStart => exact ⟨0, by omega, rfl, hrH.out.1, hrH.out.2⟩
      case round =>
        clear hrH
        obtain ⟨i, hi6, rfl, hrel⟩ := hrel
        have hrH := Lib.hid hrel
        clear hrel
        by_cases hlt : i < 6
        · go_wp2_with (at_builtin; refine wpList_append_own _ rfl _ _ 50 rfl w.heap.size 3 i0 (.int .i64 0) 1 8 Try.underlying50 hi hz0 hz1 hz2 rfl (by decide) _ (N - 6 + i) _ rfl (own_b hrH.out.1 _) ⟨wr.heap.size, 0, none⟩ 1 1 [.int .i64 (1 + (i : Int))] rfl rfl ?d1 ?d2 ?d3 ?d4 ?d5 ?_)
          case d1 =>
            intro j u hj
            match j, hj with
            | 0, hj => simp at hj; subst hj; simp [Addr.add, Int.add_comm]
          case d2 => intro u hu; simp at hu; subst hu; rfl
          case d3 => unfold maxLen; omega
          case d4 => omega
          case d5 => have := hrH.out.2.size; simp; omega
          intro v' w1 hown' hgrow _
          have hBi := hB.out i hlt
          have R := Lib.hid (OrdRel.push (n := 0) hrH.out (by rw [hNH.out]; omega) hBi hown' hgrow)
          clear hown' hgrow hrH hBi
          go_wp2
          go_roundw
          case rel => exact ⟨i + 1, by omega, by go_num, R.out⟩
          case measure => simp [intOf]; omega
        · obtain rfl : i = 6 := by omega
          have ho := hrH.out
          rw [show N - 6 + 6 = Heb.nm l by rw [hNH.out]; omega] at ho
          obtain ⟨b, cap, rfl, hI, hb⟩ := ho.out
          rw [hNH.out]
          have hIH := Lib.hid hI
          clear ho hI hrH
          go_wp2
          go_ret
          exact ⟨b, cap, by rw [hNH.out]; rfl, hIH.out, hb⟩
end Go.Proofs.Ytpoehjnhinapoaa
