/- Contracts of the Hebrew calendar's months. Conditions: those on sizes. -/
import Derived.Deep.LoopGhost
import Derived.Deep.RegionHeld3
import Derived.Deep.RegionWith
import Derived.Test.YtehjjinlpilelaaGreatDoorMb
import Derived.Test.YtehjjinlpilelaaGreatDoorMg
namespace Heb
theorem ord_a (l : Bool) {k : Nat} (h : k < nm l - 6) : ordF l k = 7 + (k : Int) := by
  have t : ∀ l : Bool, ∀ i : Fin (nm l - 6), ordF l i = 7 + ((i : Nat) : Int) := by decide
  exact t l ⟨k, h⟩
theorem ord_b (l : Bool) {i : Nat} (h : i < 6) : ordF l (nm l - 6 + i) = 1 + (i : Int) := by
  have t : ∀ l : Bool, ∀ i : Fin 6, ordF l (nm l - 6 + i) = 1 + ((i : Nat) : Int) := by decide
  exact t l ⟨i, h⟩
theorem take_ord (l : Bool) {k : Nat} (h : k < nm l) : (ordL l).take (k + 1) = (ordL l).take k ++ [ordF l k] := by
  rw [List.take_succ_eq_append_getElem (by rw [ordL_len]; exact h)]
  congr 2
  simp [ordF, List.getD, List.getElem?_eq_getElem (show k < (ordL l).length by rw [ordL_len]; exact h)]
theorem take_len (l : Bool) {k : Nat} (h : k ≤ nm l) : ((ordL l).take k).length = k := by rw [List.length_take, ordL_len]; omega
theorem take_all (l : Bool) : (ordL l).take (nm l) = ordL l := List.take_of_length_le (by rw [ordL_len]; omega)
end Heb
namespace Go.Proofs.YtehjjinlpilelaaGreatDoor
set_option maxRecDepth 100000
open Go.ChangeShapes Go.WideShapes Go.ChangeAt Go.RowKit

theorem cell_newA (w : World) (k : Nat) (x : Value) (e : TypeId) : ((w.drewN k).alloc (Obj.cells #[x] e)).cell? ⟨w.heap.size, 0, none⟩ = some x := by
  show ((w.drewN k).alloc (Obj.cells #[x] e)).cell? ⟨(w.drewN k).heap.size, 0, none⟩ = some x
  generalize w.drewN k = W; simp
theorem own_a {w : World} {B : Nat} {e : TypeId} {v : Value} {n : Nat} {xs : List Value} (h : w.ownsRow B e 1 v n xs) (k : Nat) (o : Obj) : ((w.drewN k).alloc o).ownsRow B e 1 v n xs := World.ownsRow.alloc (w := w.drewN k) h o
theorem own_b {w : World} {B : Nat} {e : TypeId} {v : Value} {n : Nat} {xs : List Value} (h : w.ownsRow B e 1 v n xs) (o : Obj) : (w.alloc o).ownsRow B e 1 v n xs := h.alloc o
def OrdOut (l : Bool) (w : World) (e : Ending) (w' : World) : Prop := ∃ b cap, e = .returned (.slice (some ⟨b, 0, none⟩) (Heb.nm l) cap) ∧ Ints w' b (Heb.ordL l) ∧ Below w.heap.size w w'
/-- the first k months, and room for no claim on more -/
def OrdRel (l : Bool) (w : World) (v : Value) (k : Nat) (wr : World) : Prop := wr.ownsRow w.heap.size 3 1 v k (((Heb.ordL l).map (Value.int .i64)).take k) ∧ Below w.heap.size w wr
theorem OrdRel.zero (l : Bool) (w : World) : OrdRel l w (.slice none 0 0) 0 w := ⟨World.ownsRow_nil _ _ _ _, Below.refl _ _⟩
theorem OrdRel.push {l : Bool} {w : World} {v v' : Value} {k : Nat} {wr w1 : World} {o : Obj} {n : Nat} {x : Int} (h : OrdRel l w v k wr) (hk : k < Heb.nm l) (hx : Heb.ordF l k = x)
    (h1 : w1.ownsRow w.heap.size 3 1 v' (k + 1) (((Heb.ordL l).map (Value.int .i64)).take k ++ [.int .i64 x])) (hg : ((wr.drewN n).alloc o).grownBy w1 v.ownBlock) : OrdRel l w v' (k + 1) w1 := by
  refine ⟨?_, ?_⟩
  · rw [← List.map_take, Heb.take_ord l hk, hx, List.map_append, List.map_take]; exact h1
  · have hb : Below w.heap.size w ((wr.drewN n).alloc o) := (below_drewN h.2 n).alloc h.2.size o
    exact hb.grown hg hb.size fun q hq => (World.ownsRow.lt h.1 q hq).1
theorem OrdRel.out {l : Bool} {w : World} {v : Value} {wr : World} (h : OrdRel l w v (Heb.nm l) wr) : ∃ b cap, v = .slice (some ⟨b, 0, none⟩) (Heb.nm l) cap ∧ Ints wr b (Heb.ordL l) ∧ Below w.heap.size w wr := by
  have h1 := h.1
  rw [← List.map_take, Heb.take_all] at h1
  have h2 : Own wr w.heap.size v (Heb.ordL l) := by unfold Own; rw [Heb.ordL_len]; exact h1
  have hp : 0 < (Heb.ordL l).length := by rw [Heb.ordL_len]; cases l <;> decide
  obtain ⟨b, cap, e, _, _, hi⟩ := h2.row hp
  rw [Heb.ordL_len] at e
  exact ⟨b, cap, e, hi, h.2⟩

set_option maxHeartbeats 1000000 in
theorem horder_any (y : Int) (w : World) (hy : Heb.yB y = true) :
    Calls Tryz.prog 92 #[.int .i64 y] w (OrdOut (Heb.lp y) w) := by
  have hm : Heb.mthc y = (Heb.nm (Heb.lp y) : Int) := by rw [Heb.nm_mths]; simp [Heb.mthc, hy]
  have hm := Lib.hid hm
  have hN : 12 ≤ Heb.nm (Heb.lp y) ∧ Heb.nm (Heb.lp y) ≤ 13 := by cases Heb.lp y <;> decide
  obtain ⟨N1, N2⟩ := hN
  have hA := Lib.hid (fun k (h : k < Heb.nm (Heb.lp y) - 6) => Heb.ord_a (Heb.lp y) h)
  have hB := Lib.hid (fun i (h : i < 6) => Heb.ord_b (Heb.lp y) h)
  obtain ⟨i0, hi, hz0, hz1, hz2⟩ := info_parts infoInt
  generalize hl : Heb.lp y = l at *
  have hlH := Lib.hid hl
  clear hl hy
  generalize hNN : Heb.nm l = N at *
  have hNH := Lib.hid hNN
  clear hNN
  go_enter Tryz.func92, Tryz.ntmps92
  go_wp2
  go_loopw [3, 4] (fun v t wr => ∃ k : Nat, k ≤ N - 6 ∧ t = .int .i64 (7 + (k : Int)) ∧ OrdRel l w v k wr) (fun _ t _ => 20 - (intOf t).toNat)
  case atStart => exact ⟨0, by omega, rfl, OrdRel.zero _ _⟩
  case round =>
    obtain ⟨k, hk, rfl, hrel⟩ := hrel
    have hrH := Lib.hid hrel
    clear hrel
    by_cases hlt : k < N - 6
    · go_wp2_with (first | (go_at_call 107; refine (hmonths_any _ _).mono ?_; rintro e w' ⟨rfl, kd, rfl⟩; rw [hm.out]) | (at_builtin; (refine wpList_append_own _ rfl _ _ 69 rfl w.heap.size 3 i0 (.int .i64 0) 1 8 Tryz.underlying69 hi hz0 hz1 hz2 rfl (by decide) _ k _ rfl (own_a hrH.out.1 _ _) ⟨wr.heap.size, 0, none⟩ 1 1 [.int .i64 (7 + (k : Int))] rfl rfl ?c1 ?c2 ?c3 ?c4 ?c5 ?_)))
      case c1 =>
        intro j u hj
        match j, hj with
        | 0, hj => simp at hj; subst hj; simp [Addr.add]; try exact cell_newA _ _ _ _
      case c2 => intro u hu; simp at hu; subst hu; rfl
      case c3 => unfold maxLen; omega
      case c4 => omega
      case c5 => have := hrH.out.2.size; simp; omega
      intro v' w1 hown' hgrow _
      have R := Lib.hid (OrdRel.push hrH.out (by rw [hNH.out]; omega) (hA.out k hlt) hown' hgrow)
      clear hown' hgrow hrH
      go_wp2
      go_roundw
      case rel => exact ⟨k + 1, by omega, by go_num, R.out⟩
      case measure => simp [intOf]; omega
    · obtain rfl : k = N - 6 := by omega
      go_wp2_with (go_at_call 107; refine (hmonths_any _ _).mono ?_; rintro e w' ⟨rfl, kd, rfl⟩; rw [hm.out])
      go_loopw [3, 16] (fun v t wr => ∃ i : Nat, i ≤ 6 ∧ t = .int .i64 (i) ∧ OrdRel l w v (N - 6 + i) wr) (fun _ t _ => 7 - (intOf t).toNat)
      case atStart => exact ⟨0, by omega, rfl, hrH.out.1, below_drewN hrH.out.2 _⟩
      case round =>
        clear hrH
        obtain ⟨i, hi6, rfl, hrel⟩ := hrel
        have hrH := Lib.hid hrel
        clear hrel
        by_cases hlt : i < 6
        · go_wp2_with (at_builtin; refine wpList_append_own _ rfl _ _ 69 rfl w.heap.size 3 i0 (.int .i64 0) 1 8 Tryz.underlying69 hi hz0 hz1 hz2 rfl (by decide) _ (N - 6 + i) _ rfl (own_b hrH.out.1 _) ⟨wr.heap.size, 0, none⟩ 1 1 [.int .i64 (1 + (i : Int))] rfl rfl ?d1 ?d2 ?d3 ?d4 ?d5 ?_)
          case d1 =>
            intro j u hj
            match j, hj with
            | 0, hj => simp at hj; subst hj; simp [Addr.add, Int.add_comm]
          case d2 => intro u hu; simp at hu; subst hu; rfl
          case d3 => unfold maxLen; omega
          case d4 => omega
          case d5 => have := hrH.out.2.size; simp; omega
          intro v' w1 hown' hgrow _
          have hBi := hB.out i hlt
          have R := Lib.hid (OrdRel.push (n := 0) hrH.out (by rw [hNH.out]; omega) hBi hown' hgrow)
          clear hown' hgrow hrH hBi
          go_wp2
          go_roundw
          case rel => exact ⟨i + 1, by omega, by go_num, R.out⟩
          case measure => simp [intOf]; omega
        · obtain rfl : i = 6 := by omega
          have ho := hrH.out
          rw [show N - 6 + 6 = Heb.nm l by rw [hNH.out]; omega] at ho
          obtain ⟨b, cap, rfl, hI, hb⟩ := ho.out
          rw [hNH.out]
          have hIH := Lib.hid hI
          clear ho hI hrH
          go_wp2
          go_ret
          exact ⟨b, cap, by rw [hNH.out]; rfl, hIH.out, hb⟩

end Go.Proofs.YtehjjinlpilelaaGreatDoor
namespace Heb
theorem cum_lenc {y : Int} (hy : yB y = true) {k : Nat} (h : k < nm (lp y)) : cumA (lp y) (ylen y % 10) k + lenc y (ordF (lp y) k) = cumA (lp y) (ylen y % 10) (k + 1) := by
  obtain ⟨o1, o2, _⟩ := ord_of h
  rw [nm_mths] at o2
  have : lenc y (ordF (lp y) k) = len y (ordF (lp y) k) := by unfold lenc mthc; rw [if_pos hy, if_pos ⟨o1, o2⟩]
  rw [this]; rfl
theorem ord_ne {l : Bool} {m : Int} {k : Nat} (h : k < posA l m) (h2 : posA l m < nm l) : ordF l k ≠ m := by
  intro e
  have := (ord_of (l := l) (k := k) (by omega)).2.2
  rw [e] at this; omega
end Heb
namespace Go.Proofs.YtehjjinlpilelaaGreatDoor
set_option maxRecDepth 100000
open Go.ChangeShapes Go.WideShapes Go.ChangeAt Go.RowKit

theorem below_draw {w w1 : World} {k : Nat} (h : Below (w.drewN k).heap.size (w.drewN k) w1) : Below w.heap.size w w1 := ⟨h.os, h.tape, h.output, h.size, h.block⟩
/-- the order of the months lies in block b, and nothing that was there has turned -/
def FstRel (w : World) (b : Nat) (xs : List Int) (wr : World) (p : Prop) : Prop := Below w.heap.size w wr ∧ Ints wr b xs ∧ p
theorem ints_cell {w : World} {b : Nat} {l : Bool} (h : Ints w b (Heb.ordL l)) {k : Nat} (hk : k < Heb.nm l) : w.cell? ⟨b, k, none⟩ = some (.int .i64 (Heb.ordF l k)) := h.2 k (by rw [Heb.ordL_len]; exact hk)

set_option maxHeartbeats 1000000 in
theorem hfirst_any (y m : Int) (w : World) (hy : Heb.yB y = true) (m1 : 1 ≤ m) (m2 : m ≤ Heb.mths y) :
    Calls Tryz.prog 56 #[.int .i64 y, .int .i64 m] w fun e w' => e = .returned (.int .i64 (Heb.bg y + Heb.off y m)) ∧ Below w.heap.size w w' := by
  obtain ⟨h1, h2⟩ := Heb.yB_iff.1 hy
  have hyH := Lib.hid hy
  have hp := Heb.pos_of (l := Heb.lp y) m1 (by rw [Heb.nm_mths]; exact m2)
  obtain ⟨p1, p2⟩ := hp
  have hN : Heb.nm (Heb.lp y) ≤ 13 := by cases Heb.lp y <;> decide
  have hO : Heb.off y m = Heb.cumA (Heb.lp y) (Heb.ylen y % 10) (Heb.posA (Heb.lp y) m) := rfl
  have hS := Lib.hid (fun k (h : k < Heb.nm (Heb.lp y)) => Heb.cum_lenc hy h)
  have hB := Lib.hid (fun k => Heb.cum_bd (Heb.lp y) (Heb.ylen y % 10) k)
  have hNe := Lib.hid (fun k (h : k < Heb.posA (Heb.lp y) m) => Heb.ord_ne h p1)
  have hsz := Heb.bg_size (y := y) (by omega) (by omega)
  have hlc := fun k => Heb.lenc_bd y (Heb.ordF (Heb.lp y) k)
  have p2H := Lib.hid p2
  have hz : Heb.cumA (Heb.lp y) (Heb.ylen y % 10) 0 = 0 := rfl
  have hzH := Lib.hid hz
  rw [hO]
  clear hy p2 hz hO
  generalize Heb.posA (Heb.lp y) m = P at *
  generalize Heb.cumA (Heb.lp y) (Heb.ylen y % 10) = C at *
  go_enter Tryz.func56, Tryz.ntmps56
  go_wp2_with (first | (go_at_call 91; refine (hbegin_any _ _ (by omega) (by omega)).mono ?_; rintro e w' ⟨rfl, kd, rfl⟩) | (go_at_call 92; refine (horder_any _ _ hyH.out).mono ?_; rintro e w' ⟨b, cap, rfl, hI, hbo⟩; have hIH := Lib.hid hI; clear hI))
  have hb0 : Below w.heap.size w w' := by first | exact below_draw hbo | exact hbo
  have hcl := Lib.hid (fun (wr : World) (h : Ints wr b (Heb.ordL (Heb.lp y))) k (hk : k < Heb.nm (Heb.lp y)) => ints_cell h hk)
  clear hbo
  generalize Heb.ordL (Heb.lp y) = L at *
  generalize Heb.ordF (Heb.lp y) = F at *
  generalize Heb.nm (Heb.lp y) = N at *
  go_loopg [5, 13] 14 (fun g t5 t7 wr => ∃ k : Nat, k ≤ P ∧ t7 = .int .i64 k ∧ t5 = .int .i64 (Heb.bg y + C k) ∧ FstRel w b L wr (14 - k ≤ g))
  case atStart => exact ⟨0, by omega, rfl, val_int (by rw [hzH.out]; omega), hb0, hIH.out, by omega⟩
  case round =>
    clear hb0 hIH
    obtain ⟨k, hk, rfl, rfl, hb, hI, hg⟩ := hrel
    have hcb := hB.out k
    have hc := hcl.out wr hI k (by omega)
    have hIH := Lib.hid hI
    clear hI
    by_cases hlt : k < P
    · have hne : (F k == m) = false := by simpa using hNe.out k hlt
      have hne2 : (F k != m) = true := by simpa using hNe.out k hlt
      have hcb2 := hB.out (k + 1)
      have hs := hS.out k (by omega)
      have hlk := hlc k
      have hsH := Lib.hid hs
      clear hs hlc
      generalize F k = x at *
      go_wp2_with (first | (go_at_call 93; refine (hlength_any _ _ _).mono ?_; rintro e w' ⟨rfl, kd, rfl⟩))
      go_roundg (gk - 1)
      case measure => omega
      case rel => exact ⟨k + 1, by omega, by go_num, val_int (by rw [← hsH.out]; omega), below_drewN hb _, hIH.out.drewN _, by omega⟩
    · obtain rfl : k = P := by omega
      rw [p2H.out] at hc
      clear hlc
      go_wp2
      go_ret
      exact ⟨rfl, hb⟩

end Go.Proofs.YtehjjinlpilelaaGreatDoor
namespace Go.Proofs.YtehjjinlpilelaaGreatDoor
set_option maxRecDepth 100000
open Go.ChangeShapes Go.WideShapes Go.ChangeAt Go.RowKit

theorem below_undrew {w w' : World} (h : Below w.drew.heap.size w.drew w') : Below w.heap.size w w' := ⟨h.os, h.tape, h.output, h.size, h.block⟩
theorem hvalid_any (y m d : Int) (w : World) :
    Calls Tryz.prog 55 #[.agg #[.int .i64 y, .int .i64 m, .int .i64 d]] w fun e w' => e = .returned (.bool (Heb.okb y m d)) ∧ Below w.heap.size w w' := by
  have hl := Heb.lenc_bd y m
  have ho : Heb.okb y m d = (decide (1 ≤ d) && decide (d ≤ Heb.lenc y m)) := rfl
  rw [ho]; clear ho
  by_cases h1 : 1 ≤ d
  · go_enter Tryz.func55, Tryz.ntmps55
    go_wp2_with fail
    go_quiet ((first | (go_at_call 93; exact Calls.quiet_of (hlength_any _ _ _))))
    go_wp2
    go_ret
    exact ⟨by simp [h1], below_drewN (by go_grown) _⟩
  · have hd : decide (1 ≤ d) = false := by simpa using h1
    go_enter Tryz.func55, Tryz.ntmps55
    go_wp2_with fail
    go_quiet ((first | (go_at_call 93; exact Calls.quiet_of (hlength_any _ _ _))))
    go_wp2
    go_ret
    exact ⟨by simp [hd], below_drewN (by go_grown) _⟩
set_option maxHeartbeats 1000000 in
theorem hday_any (y m d : Int) (w : World) :
    Calls Tryz.prog 17 #[.agg #[.int .i64 y, .int .i64 m, .int .i64 d]] w fun e w' => e = .returned (.tuple #[.int .i64 (Heb.dayN y m d), .int .i64 (Heb.dayE y m d)]) ∧ Below w.heap.size w w' := by
  by_cases ho : Heb.okb y m d = true
  · have hk := Heb.okb_iff.1 ho
    have hdi := Heb.day_in hk
    obtain ⟨hy, m1, m2, d1, d2⟩ := hk
    obtain ⟨y1, y2⟩ := Heb.yB_iff.1 hy
    have hlb := Heb.len_bd y m
    have hsz := Heb.bg_size (y := y) (by omega) (by omega)
    have hof := Heb.off_bd (y := y) y1 (by omega) m1 m2
    have hyl := Heb.ylen_bd (y := y) y1 (by omega)
    have hyH := Lib.hid hy
    have hD : Heb.day y m d = Heb.bg y + Heb.off y m + d - 1 := rfl
    clear hy
    have ways : (Heb.dayN y m d = Heb.bg y + Heb.off y m + d - 1 ∧ Heb.dayE y m d = 0 ∧ -719162 ≤ Heb.bg y + Heb.off y m + d - 1 ∧ Heb.bg y + Heb.off y m + d - 1 < 2932897 ∧ Cal.inB (Heb.bg y + Heb.off y m + d - 1) = true) ∨
        (Heb.dayN y m d = 0 ∧ Heb.dayE y m d = 2 ∧ Heb.bg y + Heb.off y m + d - 1 < -719162 ∧ Cal.inB (Heb.bg y + Heb.off y m + d - 1) = false) ∨
        (Heb.dayN y m d = 0 ∧ Heb.dayE y m d = 2 ∧ ¬ Heb.bg y + Heb.off y m + d - 1 < -719162 ∧ 2932897 ≤ Heb.bg y + Heb.off y m + d - 1 ∧ Cal.inB (Heb.bg y + Heb.off y m + d - 1) = false) := by
      rw [← hD]
      by_cases hi : Cal.inB (Heb.day y m d) = true
      · have := Cal.inB_iff.1 hi
        exact Or.inl ⟨by simp [Heb.dayN, Heb.dayB, ho, hi], by simp [Heb.dayE, Heb.dayB, ho, hi], by omega, by omega, hi⟩
      · have h2 : Cal.inB (Heb.day y m d) = false := by simpa using hi
        by_cases q : Heb.day y m d < -719162
        · exact Or.inr (Or.inl ⟨by simp [Heb.dayN, Heb.dayB, hi], by simp [Heb.dayE, Heb.dayB, hi], q, h2⟩)
        · exact Or.inr (Or.inr ⟨by simp [Heb.dayN, Heb.dayB, hi], by simp [Heb.dayE, Heb.dayB, hi], q, by rw [Cal.inB_iff] at hi; omega, h2⟩)
    clear hD hdi
    rcases ways with ⟨eN, eE, i1, i2, hi⟩ | ⟨eN, eE, i1, hi⟩ | ⟨eN, eE, i1, i2, hi⟩
    all_goals
      rw [eN, eE]; clear eN eE
      have hiH := Lib.hid hi
      clear hi
      go_enter Tryz.func17, Tryz.ntmps17
      go_wp2_with (first | (go_at_call 55; refine (hvalid_any _ _ _ _).mono ?_; rintro e w' ⟨rfl, hb1⟩; obtain ⟨c0, c1, c2⟩ := box3 hb1))
      have hlt : w.heap.size < w'.heap.size := Nat.lt_of_lt_of_le (by simp) hb1.size
      have hb := below_box hb1
      clear hb1
      go_region_held3 (fun w' => w'.cell? ⟨w.heap.size, 0, none⟩ = some (.int .i64 y) ∧ w'.cell? ⟨w.heap.size, 1, none⟩ = some (.int .i64 m) ∧ w'.cell? ⟨w.heap.size, 2, none⟩ = some (.int .i64 d))
        (first | go_keep | (go_split_ands; exact ⟨keep1 hb2 hlt (by assumption), keep1 hb2 hlt (by assumption), keep1 hb2 hlt (by assumption)⟩))
        (first | (go_at_call 56; refine (hfirst_any _ _ _ hyH.out m1 m2).mono ?_; rintro e w2 ⟨rfl, hb2⟩))
      simp (disch := omega) only [IntWalk.i64_in]
      have hi := hiH.out
      go_wp2_with fail
      go_ret2
      exact ⟨rfl, below_then hb (below_undrew hb2)⟩
  · have hN : Heb.dayN y m d = 0 := by simp [Heb.dayN, Heb.dayB, ho]
    have hE : Heb.dayE y m d = 2 := by simp [Heb.dayE, Heb.dayB, ho]
    have ho' : Heb.okb y m d = false := by simpa using ho
    rw [hN, hE]; clear hN hE ho
    go_enter Tryz.func17, Tryz.ntmps17
    go_wp2_with (first | (go_at_call 55; refine (hvalid_any _ _ _ _).mono ?_; rintro e w' ⟨rfl, hb1⟩; obtain ⟨c0, c1, c2⟩ := box3 hb1))
    go_ret2
    exact ⟨rfl, below_box hb1⟩

end Go.Proofs.YtehjjinlpilelaaGreatDoor
