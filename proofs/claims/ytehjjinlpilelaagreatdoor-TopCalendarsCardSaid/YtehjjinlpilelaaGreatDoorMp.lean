/- Contracts of granule.months, Months, Weeks, Years and slices.Clone. Conditions: those on sizes. -/
import Derived.Deep.RegionLaw
import Derived.WalkSpells
import Derived.Test.YtehjjinlpilelaaGreatDoorMl
import Derived.Test.YtehjjinlpilelaaGreatDoorMo
import Derived.Test.YtehjjinlpilelaaGreatDoorSCivil
namespace Gra
open Cal
theorem ml_c {y m : Nat} (hy : y < 400) (hm : m < 12) : lenGc (1970 + y) (m + 1) = ms (((12 * y + m : Nat) : Int) + 1) - ms ((12 * y + m : Nat) : Int) := by
  have e := ms_succ ((12 * y + m : Nat) : Int)
  have e2 : lenGc (1970 + y) (m + 1) = lenG (1970 + y) (m + 1) := by unfold lenGc; rw [if_pos ⟨by omega, by omega, by omega, by omega⟩]
  rw [e, e2]
  unfold ml
  rw [show 1970 + ((12 * y + m : Nat) : Int) / 12 = 1970 + y by omega, show ((12 * y + m : Nat) : Int) % 12 + 1 = m + 1 by omega]
  omega
theorem lens_ml (y m : Nat) (hy : y < 400) (hm : m < 12) : lens ms (12 * y + m + 1) = lens ms (12 * y + m) ++ [lenGc (1970 + y) (m + 1)] := by
  rw [ml_c hy hm]; rfl
end Gra
namespace Go.Proofs.YtehjjinlpilelaaGreatDoor
open Go.ChangeShapes Go.WideShapes Go.ChangeAt Go.RowKit

/-- what is gathered -/
def MosRel (w wr : World) (v : Value) (j : Nat) (p : Prop) : Prop := Below w.heap.size w wr ∧ Own wr w.heap.size v (Gra.lens Gra.ms j) ∧ p
theorem mos_shape {w : World} {B : Nat} {e : TypeId} {size n : Nat} {v : Value} {xs : List Value} (h : w.ownsRow B e size v n xs) (hn : 0 < n) : ∃ b cap, v = .slice (some ⟨b, 0, none⟩) n cap := grow_shape h hn
/-- a length is appended -/
theorem mos_push {w w1 w2 : World} {j : Nat} {v v' : Value} {z : Int} {o : Obj} (hb : Below w.heap.size w w1) (hO : Own w1 w.heap.size v (Gra.lens Gra.ms j)) (hz : Gra.lens Gra.ms (j + 1) = Gra.lens Gra.ms j ++ [z])
    (h1 : w2.ownsRow w.heap.size 3 1 v' (j + 1) ((Gra.lens Gra.ms j).map (Value.int .i64) ++ [.int .i64 z])) (hg : (w1.alloc o).grownBy w2 v.ownBlock) :
    Below w.heap.size w w2 ∧ Own w2 w.heap.size v' (Gra.lens Gra.ms (j + 1)) := by
  have hr : ∀ q, v.ownBlock = some q → w.heap.size ≤ q := fun q hq => (World.ownsRow.lt hO q hq).1
  have hA : Below w.heap.size w1 (w1.alloc o) := (Below.refl _ _).alloc hb.size o
  have hBw : Below w.heap.size w1 w2 := hA.trans ((Below.refl _ _).grown hg (Nat.le_trans hb.size (by simp)) hr)
  refine ⟨hb.trans hBw, ?_⟩
  rw [hz]
  refine Own.push ?_
  rw [Gra.lens_len]; exact h1
set_option maxHeartbeats 8000000 in
set_option maxRecDepth 100000 in
theorem gmonths_any (w : World) :
    Calls Tryz.prog 45 #[] w fun e w' => ∃ b cap, e = .returned (.slice (some ⟨b, 0, none⟩) 4800 cap) ∧ 4800 ≤ cap ∧ Ints w' b (Gra.lens Gra.ms 4800) ∧ w.heap.size ≤ b ∧ Below w.heap.size w w' := by
  obtain ⟨i0, hi', hz0, hz1, hz2⟩ := info_parts infoInt
  go_enter Tryz.func45, Tryz.ntmps45
  go_wp2_with fail
  go_loopg [1, 4] 402 (fun g t1 t4 wr => ∃ y : Nat, y ≤ 400 ∧ t4 = .int .i64 y ∧ MosRel w wr t1 (12 * y) (400 - y ≤ g))
  case atStart => exact ⟨0, by omega, rfl, Below.refl _ _, Own.nil _ _, by omega⟩
  case round =>
    obtain ⟨y, hy, rfl, hb, hO, hg⟩ := hrel
    have hOH := Lib.hid hO
    clear hO
    by_cases hyn : y < 400
    · obtain ⟨gko, hgo⟩ : ∃ x, x = gk := ⟨_, rfl⟩
      have hq : decide ((y : Int) < 400) = true := decide_eq_true (by omega)
      go_wp2_with fail
      go_loopg [1, 7] 14 (fun g t1 t7 wx => ∃ m : Nat, m ≤ 12 ∧ t7 = .int .i64 m ∧ MosRel w wx t1 (12 * y + m) (12 - m ≤ g))
      case atStart => exact ⟨0, by omega, rfl, hb, hOH.out, by omega⟩
      case round =>
        clear hb hOH
        obtain ⟨m, hm, rfl, hb, hO, hg2⟩ := hrel
        have hOH := Lib.hid hO
        clear hO
        have hs := hb.size
        by_cases hmn : m < 12
        · have hZ := Lib.hid (Gra.lens_ml y m hyn hmn)
          have hL := Cal.lenGc_bd (1970 + y) (m + 1)
          obtain ⟨Z, hZ0⟩ : ∃ Z, Cal.lenGc (1970 + (y : Int)) ((m : Int) + 1) = Z := ⟨_, rfl⟩
          rw [hZ0] at hZ
          have hZH := Lib.hid hZ0
          clear hZ0 hL
          go_wp2_with (first | (go_at_call 43; refine (clength_any _ _ _).mono ?_; rintro e w' ⟨he, rfl⟩; rw [hZH.out] at he; subst he) | (at_builtin; refine wpList_append_own _ rfl _ _ 69 rfl w.heap.size 3 i0 (.int .i64 0) 1 8 Tryz.underlying69 hi' hz0 hz1 hz2 rfl (by decide) _ (12 * y + m) _ rfl (own_in hOH.out (Gra.lens_len _ _) _) ⟨wr.heap.size, 0, none⟩ 1 1 [.int .i64 Z] rfl rfl (news1 _ _ _) (one1 _) (by unfold maxLen; omega) (by omega) (by simp; omega) ?_; intro v' w4 hown hgrow _; obtain ⟨b', cap', rfl⟩ := grow_shape hown (by omega); have RH := Lib.hid (mos_push hb hOH.out hZ.out hown hgrow); clear hown hgrow))
          go_roundg (gk - 1)
          case measure => omega
          case rel => exact ⟨m + 1, by omega, by go_num, RH.out.1, RH.out.2, by omega⟩
        · obtain rfl : m = 12 := by omega
          subst hgo
          go_wp2_with fail
          go_roundg (gko - 1)
          case measure => omega
          case rel => exact ⟨y + 1, by omega, by go_num, hb, hOH.out, by omega⟩
    · obtain rfl : y = 400 := by omega
      have hl := Gra.lens_len Gra.ms 4800
      obtain ⟨b', cap', rfl, hB, hcap, hI⟩ := hOH.out.row (by rw [Gra.lens_len]; omega)
      have hIH := Lib.hid hI
      clear hI
      go_wp2_with fail
      go_ret
      exact ⟨b', cap', by rw [Gra.lens_len]; rfl, by rw [Gra.lens_len] at hcap; omega, hIH.out, hB, hb⟩
end Go.Proofs.YtehjjinlpilelaaGreatDoor
namespace Go.Proofs.YtehjjinlpilelaaGreatDoor
open Go.ChangeShapes Go.WideShapes Go.ChangeAt Go.RowKit

set_option maxHeartbeats 2000000 in
theorem gMonths_any (w : World) :
    Calls Tryz.prog 9 #[] w fun e w' => ∃ b, e = .returned (.agg #[.int .i64 0, .int .i64 146097, .slice (some ⟨b, 0, none⟩) 4800 4800]) ∧ Ints w' b (Gra.sp Gra.ms 4800) ∧ Below w.heap.size w w' := by
  go_enter Tryz.func9, Tryz.ntmps9
  go_wp2_with fail
  refine (gmonths_any _).mono ?_; rintro e w1 ⟨b1, cap1, rfl, _, hI1, hB1, hb1⟩
  have hR1 := Lib.hid (Box3.born hb1)
  have hb := below_box hb1
  have hIH := Lib.hid hI1
  clear hb1 hI1
  go_wp2_with fail
  refine (grow_any Gra.ms 4800 146097 0 b1 cap1 _ Gra.months hIH.out (by omega) (by omega)).mono ?_; rintro e w2 ⟨b2, rfl, hI2, hB2, hb2⟩
  have hR2 := Lib.hid (hR1.out.later hb2)
  have hb := below_then hb hb2
  have hI2H := Lib.hid hI2
  have hlt := hR1.out.lt
  clear hb2 hI2
  obtain ⟨r, r0, r1, r2, s0, s1, s2⟩ := hR2.out
  go_wp2_with fail
  have Z0 := hR2.out.set0 (.int .i64 0)
  have Z1 := Z0.set1 (.int .i64 146097)
  have Z2 := Z1.set2 (.slice (some ⟨b2, 0, none⟩) 4800 4800)
  have z0 := Z2.c0
  have z1 := Z2.c1
  have z2 := Z2.c2
  have ne4 : w.heap.size ≠ b2 := by omega
  have hs5 := hb.size
  refine bodyPost_ret (v := .agg #[.int .i64 0, .int .i64 146097, .slice (some ⟨b2, 0, none⟩) 4800 4800]) (by simp [results, Tryz.results9, go_sem, z0, z1, z2]) rfl ⟨b2, rfl, ?_, ?_⟩
  · exact ((hI2H.out.setFar _ _ ne4).setFar _ _ ne4).setFar _ _ ne4
  · (repeat' (first | (with_reducible exact Below.refl _ _) | (with_reducible assumption) | (with_reducible refine below_drewN ?_ _) | (with_reducible refine Below.drew ?_) | (with_reducible refine Below.alloc ?_ ?_ _) | (with_reducible refine Below.setCell ?_ ?_ _) | (simp; done) | (simp; omega)))
theorem wd0 : wdG 0 = 4 := by decide
set_option maxHeartbeats 2000000 in
theorem gWeeks_any (w : World) :
    Calls Tryz.prog 32 #[.int .i64 1] w fun e w' => ∃ b, e = .returned (.tuple #[.agg #[.int .i64 (-3), .int .i64 7, .slice (some ⟨b, 0, none⟩) 1 1], .int .i64 0]) ∧ Ints w' b (Gra.sp Gra.wk 1) ∧ Below w.heap.size w w' := by
  go_enter Tryz.func32, Tryz.ntmps32
  go_wp2_with fail
  refine (cweekday_any _ _).mono ?_; rintro e w1 ⟨rfl, kd, hw⟩
  rw [wd0]
  have hR1 : Box3 w1 w.heap.size (.int .i64 0) (.int .i64 0) (.slice none 0 0) := by rw [hw]; exact (Box3.new _ _ _ _ _).drewN _
  have hb : Below w.heap.size w w1 := by rw [hw]; (repeat' (first | (with_reducible exact Below.refl _ _) | (with_reducible assumption) | (with_reducible refine below_drewN ?_ _) | (with_reducible refine Below.drew ?_) | (with_reducible refine Below.alloc ?_ ?_ _) | (with_reducible refine Below.setCell ?_ ?_ _) | (simp; done) | (simp; omega)))
  have hR1H := Lib.hid hR1
  clear hw hR1
  go_wp2_with fail
  refine (mod_any _ _ _ (by omega) (by omega) (by omega) (by omega)).mono ?_; rintro e w2 ⟨rfl, kd, hw⟩
  have hb2 : Below w1.heap.size w1 w2 := by rw [hw]; exact below_drewN (Below.refl _ _) _
  have hR2 := Lib.hid (hR1H.out.later hb2)
  have hb := below_then hb hb2
  have hlt := hR1H.out.lt
  have hs := hb2.size
  clear hw hR1H hb2
  go_wp2_with fail
  have hI : Hid (Ints (w2.alloc (Obj.cells #[.int .i64 7] 3)) w2.heap.size (Gra.lens Gra.wk 1)) := Lib.hid ⟨by simp, fun i hi => by
    have : i = 0 := by have := Gra.lens_len Gra.wk 1; omega
    subst this; simp; rfl⟩
  refine (grow_any Gra.wk 1 7 (-3) w2.heap.size 1 _ Gra.weeks hI.out (by omega) (by omega)).mono ?_; rintro e w3 ⟨b2, rfl, hI2, hB2, hb3⟩
  have hR3 := Lib.hid ((hR2.out.alloc _).later hb3)
  have hb := below_then hb (below_box hb3)
  have hI2H := Lib.hid hI2
  simp only [World.size_alloc] at hB2
  clear hb3 hI2
  obtain ⟨r, r0, r1, r2, s0, s1, s2⟩ := hR3.out
  go_wp2_with fail
  have Z0 := hR3.out.set0 (.int .i64 (-3))
  have Z1 := Z0.set1 (.int .i64 7)
  have Z2 := Z1.set2 (.slice (some ⟨b2, 0, none⟩) 1 1)
  have z0 := Z2.c0
  have z1 := Z2.c1
  have z2 := Z2.c2
  have ne4 : w.heap.size ≠ b2 := by omega
  have hs5 := hb.size
  refine bodyPost_ret (v := .tuple #[.agg #[.int .i64 (-3), .int .i64 7, .slice (some ⟨b2, 0, none⟩) 1 1], .int .i64 0]) (by simp [results, Tryz.results32, go_sem, z0, z1, z2]) rfl ⟨b2, rfl, ?_, ?_⟩
  · exact ((hI2H.out.setFar _ _ ne4).setFar _ _ ne4).setFar _ _ ne4
  · (repeat' (first | (with_reducible exact Below.refl _ _) | (with_reducible assumption) | (with_reducible refine below_drewN ?_ _) | (with_reducible refine Below.drew ?_) | (with_reducible refine Below.alloc ?_ ?_ _) | (with_reducible refine Below.setCell ?_ ?_ _) | (simp; done) | (simp; omega)))
end Go.Proofs.YtehjjinlpilelaaGreatDoor
namespace Go.Proofs.YtehjjinlpilelaaGreatDoor
open Go.ChangeShapes Go.WideShapes Go.ChangeAt Go.RowKit

theorem own_empty (w : World) : (w.alloc (Obj.cells #[] 3)).ownsRow w.heap.size 3 1 (.slice (some ⟨w.heap.size, 0, none⟩) 0 0) 0 [] :=
  ⟨rfl, Or.inr ⟨w.heap.size, 0, #[], rfl, Nat.le_refl _, heap_alloc_new _ _, Nat.le_refl _, Nat.zero_le _, rfl, rfl⟩⟩
/-- what the append to an empty list gives -/
theorem clone_push {w w4 : World} {xs : List Int} {n : Nat} {v' : Value} (hn : xs.length = n) (n1 : 0 < n) (hown : w4.ownsRow w.heap.size 3 1 v' (0 + n) ([] ++ xs.map (Value.int .i64)))
    (hg : (w.alloc (Obj.cells #[] 3)).grownBy w4 (Value.slice (some ⟨w.heap.size, 0, none⟩) 0 0).ownBlock) :
    Below w.heap.size w w4 ∧ ∃ b' cap', v' = .slice (some ⟨b', 0, none⟩) n cap' ∧ n ≤ cap' ∧ w.heap.size ≤ b' ∧ Ints w4 b' xs := by
  rw [Nat.zero_add, List.nil_append] at hown
  have hO : Own w4 w.heap.size v' xs := by unfold Own; rw [hn]; exact hown
  obtain ⟨b', cap', e, hB, hcp, hI⟩ := hO.row (by omega)
  refine ⟨?_, b', cap', by rw [e, hn], by omega, hB, hI⟩
  exact ((Below.refl _ _).alloc (Nat.le_refl _) _).grown hg (by simp) (fun q hq => by cases hq; exact Nat.le_refl _)
theorem ones (xs : List Int) : ∀ u ∈ xs.map (Value.int .i64), u.oneCell' = true := by
  intro u hu; obtain ⟨x, _, rfl⟩ := List.mem_map.1 hu; rfl
theorem ints_news {w : World} {b : Nat} {xs : List Int} (h : Ints w b xs) : ∀ (j : Nat) (u : Value), (xs.map (Value.int .i64))[j]? = some u → w.cell? ((⟨b, 0, none⟩ : Addr).add j) = some u := by
  intro j u hj
  rw [List.getElem?_map] at hj
  obtain ⟨x, hx, rfl⟩ := Option.map_eq_some_iff.1 hj
  have hlt : j < xs.length := (List.getElem?_eq_some_iff.1 hx).1
  have := h.2 j hlt
  rw [show xs.getD j 0 = x by simp [List.getD, hx]] at this
  simp only [Addr.add, Nat.zero_add]; split
  · rename_i h0; subst h0; exact this
  · exact this
set_option maxHeartbeats 2000000 in
set_option maxRecDepth 100000 in
theorem clone_any (xs : List Int) (n b cap : Nat) (w : World) (hn : xs.length = n) (n1 : 0 < n) (n2 : n ≤ 100000) (hI : Ints w b xs) :
    Calls Tryz.prog 76 #[.slice (some ⟨b, 0, none⟩) n cap] w fun e w' => ∃ b' cap', e = .returned (.slice (some ⟨b', 0, none⟩) n cap') ∧ n ≤ cap' ∧ Ints w' b' xs ∧ w.heap.size ≤ b' ∧ Below w.heap.size w w' := by
  obtain ⟨i0, hi', hz0, hz1, hz2⟩ := info_parts infoInt
  have hIH := Lib.hid hI
  have hnH := Lib.hid hn
  clear hI hn
  have hnil := fun (w : World) => Lib.run_eql_slice_nil (P := Tryz.prog) w 69 3 (some ⟨b, 0, none⟩) n cap 0 0 Tryz.underlying69
  go_enter Tryz.func76, Tryz.ntmps76
  go_wp2_with (at_builtin; refine wpList_append_own _ rfl _ _ 69 rfl w.heap.size 3 i0 (.int .i64 0) 1 8 Tryz.underlying69 hi' hz0 hz1 hz2 rfl (by decide) _ 0 [] rfl (own_empty w) ⟨b, 0, none⟩ n cap (xs.map (Value.int .i64)) rfl (by rw [List.length_map, hnH.out, Nat.mul_one]) (ints_news (hIH.out.alloc _)) (ones xs) (by unfold maxLen; omega) (by omega) (by simp) ?_; intro v' w4 hown hgrow _; obtain ⟨hb, b', cap', rfl, hcp, hB, hI4⟩ := clone_push hnH.out n1 hown hgrow; have hIH4 := Lib.hid hI4; clear hown hgrow hI4)
  go_ret
  exact ⟨b', cap', rfl, hcp, hIH4.out, hB, hb⟩
end Go.Proofs.YtehjjinlpilelaaGreatDoor
namespace Go.Proofs.YtehjjinlpilelaaGreatDoor
open Go.ChangeShapes Go.WideShapes Go.ChangeAt Go.RowKit

/-- what is gathered -/
def YrsRel (w wr : World) (v : Value) (y : Nat) (p : Prop) : Prop := Below w.heap.size w wr ∧ Own wr w.heap.size v (Gra.lens Gra.yr y) ∧ p
/-- a length is appended -/
theorem len_push {w w1 w2 : World} {f : Int → Int} {j : Nat} {v v' : Value} {z : Int} {o : Obj} (hb : Below w.heap.size w w1) (hO : Own w1 w.heap.size v (Gra.lens f j)) (hz : z = f (j + 1) - f j)
    (h1 : w2.ownsRow w.heap.size 3 1 v' (j + 1) ((Gra.lens f j).map (Value.int .i64) ++ [.int .i64 z])) (hg : (w1.alloc o).grownBy w2 v.ownBlock) :
    Below w.heap.size w w2 ∧ Own w2 w.heap.size v' (Gra.lens f (j + 1)) := by
  have hr : ∀ q, v.ownBlock = some q → w.heap.size ≤ q := fun q hq => (World.ownsRow.lt hO q hq).1
  have hA : Below w.heap.size w1 (w1.alloc o) := (Below.refl _ _).alloc hb.size o
  have hBw : Below w.heap.size w1 w2 := hA.trans ((Below.refl _ _).grown hg (Nat.le_trans hb.size (by simp)) hr)
  refine ⟨hb.trans hBw, ?_⟩
  simp only [Gra.lens]
  rw [← hz]
  refine Own.push ?_
  rw [Gra.lens_len]; exact h1
theorem year_len (y : Nat) : Gra.ms ((12 * y + 12 : Nat) : Int) - Gra.ms ((12 * y : Nat) : Int) = Gra.yr ((y : Int) + 1) - Gra.yr y := by
  rw [Gra.year_ms, Gra.year_ms, show ((12 * y + 12 : Nat) : Int) = 12 * ((y : Int) + 1) by omega, show ((12 * y : Nat) : Int) = 12 * (y : Int) by omega]
set_option maxHeartbeats 8000000 in
set_option maxRecDepth 100000 in
theorem gYears_any (w : World) :
    Calls Tryz.prog 30 #[.int .i64 1] w fun e w' => ∃ b, e = .returned (.tuple #[.agg #[.int .i64 0, .int .i64 146097, .slice (some ⟨b, 0, none⟩) 400 400], .int .i64 0]) ∧ Ints w' b (Gra.sp Gra.yr 400) ∧ Below w.heap.size w w' := by
  obtain ⟨i0, hi', hz0, hz1, hz2⟩ := info_parts infoInt
  go_enter Tryz.func30, Tryz.ntmps30
  go_wp2_with fail
  refine (gmonths_any _).mono ?_; rintro e w1 ⟨b1, cap1, rfl, hcp1, hI1, hB1, hb1⟩
  have hc0 : ¬ cap1 = 0 := by omega
  have hw0 : IntKind.i64.wrap 0 = 0 := by decide
  have hc1 : (0 : Int) ≤ (cap1 : Int) := by omega
  have hc2 : (4800 : Int) ≤ (cap1 : Int) := by omega
  have hc3 : (cap1 == 0) = false := by simp; omega
  have hc4 : (0 : Nat) ≤ cap1 := by omega
  have hb := below_box hb1
  have hR1 := Lib.hid (Box3.born hb1)
  have hIH := Lib.hid hI1
  clear hb1 hI1
  go_wp2_with fail
  go_loopg [5, 26] 2 (fun g t5 t26 wr => t5 = .int .i64 0 ∧ t26 = .int .i64 0 ∧ w1 = wr)
  case atStart => exact ⟨rfl, rfl, rfl⟩
  case round =>
    obtain ⟨rfl, rfl, rfl⟩ := hrel
    go_wp2_with fail
    go_region_held3 (fun _ => True) (first | trivial) (first | (go_at_call 76; refine (clone_any (Gra.lens Gra.ms 4800) 4800 b1 cap1 _ (Gra.lens_len _ _) (by omega) (by omega) hIH.out.drew).mono ?_; rintro e w9 ⟨b9, cap9, rfl, hcp9, hI9, hB9, hb9⟩))
    have hb := below_then hb (below_undrewG hb9)
    have hR9 := Lib.hid ((hR1.out.drewN 1).later hb9)
    have hI9H := Lib.hid hI9
    have hl1 := hR1.out.lt
    have hB9' : w.heap.size + 1 ≤ b9 := Nat.le_trans hl1 hB9
    clear hI9 hb9 hR1 hIH hB9 hcp1 hc0 hc1 hc2 hc3 hc4
    go_wp2_with fail
    have hI9l := hI9H.out.1
    go_loopg [8, 9] 402 (fun g t8 t9 wr => ∃ y : Nat, y ≤ 400 ∧ t9 = .int .i64 (12 * (y : Int)) ∧ YrsRel w9 wr t8 y (400 - y ≤ g))
    case atStart => exact ⟨0, by omega, rfl, Below.refl _ _, Own.nil _ _, by omega⟩
    case round =>
      obtain ⟨y, hy, rfl, hb9, hO, hg⟩ := hrel
      have hOH := Lib.hid hO
      have hs := hb9.size
      clear hO
      by_cases hyn : y < 400
      · obtain ⟨gko, hgo⟩ : ∃ x, x = gk := ⟨_, rfl⟩
        have hq : decide (12 * (y : Int) < 4800) = true := decide_eq_true (by omega)
        have hne : ¬ cap9 = 12 * y := by omega
        have hne2 : 12 * y + 12 ≤ cap9 := by omega
        have hcast : (12 * (y : Int)).toNat = 12 * y := by omega
        have hcast2 : (12 * (y : Int) + 12).toNat = 12 * y + 12 := by omega
        have hIr := Lib.hid (hI9H.out.later hb9)
        go_wp2_with fail
        go_loopg [10, 56] 14 (fun g t10 t56 wx => ∃ m : Nat, m ≤ 12 ∧ t56 = .int .i64 m ∧ t10 = .int .i64 (Gra.ms ((12 * y + m : Nat) : Int) - Gra.ms ((12 * y : Nat) : Int)) ∧ wr = wx ∧ 12 - m ≤ g)
        case atStart => exact ⟨0, by omega, rfl, val_int (by simp), rfl, by omega⟩
        case round =>
          obtain ⟨m, hm, rfl, rfl, rfl, hg2⟩ := hrel
          have bA := Gra.months.bd (i := ((12 * y + m : Nat) : Int)) (by omega) (by omega)
          have bB := Gra.months.bd (i := ((12 * y : Nat) : Int)) (by omega) (by omega)
          by_cases hmn : m < 12
          · have l1 := hIr.out.2 (12 * y + m) (by rw [Gra.lens_len]; omega)
            rw [Gra.lens_get Gra.ms 4800 (12 * y + m) (by omega)] at l1
            have bC := Gra.months.bd (i := ((12 * y + m : Nat) : Int) + 1) (by omega) (by omega)
            obtain ⟨S, hS⟩ : ∃ S, Gra.ms ((12 * y + m : Nat) : Int) - Gra.ms ((12 * y : Nat) : Int) = S := ⟨_, rfl⟩
            obtain ⟨L, hL⟩ : ∃ L, Gra.ms (((12 * y + m : Nat) : Int) + 1) - Gra.ms ((12 * y + m : Nat) : Int) = L := ⟨_, rfl⟩
            rw [hL] at l1
            have hSL : S + L = Gra.ms ((12 * y + (m + 1) : Nat) : Int) - Gra.ms ((12 * y : Nat) : Int) := by rw [show ((12 * y + (m + 1) : Nat) : Int) = ((12 * y + m : Nat) : Int) + 1 by omega]; omega
            have b4 : -150000 ≤ S ∧ S ≤ 150000 ∧ -150000 ≤ L ∧ L ≤ 150000 := by omega
            rw [hS]
            have SH := Lib.hid hSL
            clear hS hL bA bB bC hSL
            go_wp2_with fail
            go_roundg (gk - 1)
            case measure => omega
            case rel => exact ⟨m + 1, by omega, by go_num, val_int SH.out, rfl, by omega⟩
          · obtain rfl : m = 12 := by omega
            obtain ⟨Z, hZ⟩ : ∃ Z, Gra.ms ((12 * y + 12 : Nat) : Int) - Gra.ms ((12 * y : Nat) : Int) = Z := ⟨_, rfl⟩
            have hZ2 : Z = Gra.yr ((y : Int) + 1) - Gra.yr y := by rw [← hZ]; exact year_len y
            rw [hZ]
            have ZH := Lib.hid hZ2
            clear hZ hZ2 bA bB
            subst hgo
            go_wp2_with (at_builtin; refine wpList_append_own _ rfl _ _ 69 rfl w9.heap.size 3 i0 (.int .i64 0) 1 8 Tryz.underlying69 hi' hz0 hz1 hz2 rfl (by decide) _ y _ rfl (own_in hOH.out (Gra.lens_len _ _) _) ⟨wr.heap.size, 0, none⟩ 1 1 [.int .i64 Z] rfl rfl (news1 _ _ _) (one1 _) (by unfold maxLen; omega) (by omega) (by simp; omega) ?_; intro v' w4 hown hgrow _; obtain ⟨b', cap', rfl⟩ := grow_shape hown (by omega); have RH := Lib.hid (len_push hb9 hOH.out ZH.out hown hgrow); clear hown hgrow)
            go_roundg (gko - 1)
            case measure => omega
            case rel => exact ⟨y + 1, by omega, by go_num, RH.out.1, RH.out.2, by omega⟩
      · obtain rfl : y = 400 := by omega
        obtain ⟨b', cap', rfl, hB, hcap, hI⟩ := hOH.out.row (by rw [Gra.lens_len]; omega)
        have hIH' := Lib.hid hI
        have hq : decide (12 * ((400 : Nat) : Int) < 4800) = false := by decide
        have hb := below_then hb hb9
        have hRr := Lib.hid (hR9.out.later hb9)
        have hlen := Gra.lens_len Gra.yr 400
        rw [hlen]
        clear hI hlen
        go_wp2_with fail
        refine (grow_any Gra.yr 400 146097 0 b' cap' _ Gra.years hIH'.out (by omega) (by omega)).mono ?_; rintro e w5 ⟨b2, rfl, hI2, hB2, hb5⟩
        have hR5 := Lib.hid (hRr.out.later hb5)
        have hI5 := Lib.hid hI2
        have hlr := hRr.out.lt
        have hb := below_then hb hb5
        clear hb5 hI2
        obtain ⟨r, r0, r1, r2, s0, s1, s2⟩ := hR5.out
        go_wp2_with fail
        have Z0 := hR5.out.set0 (.int .i64 0)
        have Z1 := Z0.set1 (.int .i64 146097)
        have Z2 := Z1.set2 (.slice (some ⟨b2, 0, none⟩) 400 400)
        have z0 := Z2.c0
        have z1 := Z2.c1
        have z2 := Z2.c2
        have ne4 : w.heap.size ≠ b2 := by omega
        have hs5 := hb.size
        refine bodyPost_ret (v := .tuple #[.agg #[.int .i64 0, .int .i64 146097, .slice (some ⟨b2, 0, none⟩) 400 400], .int .i64 0]) (by simp [results, Tryz.results30, go_sem, z0, z1, z2]) rfl ⟨b2, rfl, ?_, ?_⟩
        · exact ((hI5.out.setFar _ _ ne4).setFar _ _ ne4).setFar _ _ ne4
        · (repeat' (first | (with_reducible exact Below.refl _ _) | (with_reducible assumption) | (with_reducible refine below_drewN ?_ _) | (with_reducible refine Below.drew ?_) | (with_reducible refine Below.alloc ?_ ?_ _) | (with_reducible refine Below.setCell ?_ ?_ _) | (simp; done) | (simp; omega)))
end Go.Proofs.YtehjjinlpilelaaGreatDoor
