/- Contracts of group.blocks and group.Groups. Conditions: the calendar of months lies in memory. -/
import Derived.Test.YtehjjinlpilelaaGreatDoorMq
import Derived.Test.YtehjjinlpilelaaGreatDoorMr
namespace Go.Proofs.YtehjjinlpilelaaGreatDoor
open Go.ChangeShapes Go.WideShapes Go.ChangeAt Go.RowKit

set_option maxHeartbeats 2000000 in
theorem ublocks_12 (b cap : Nat) (w : World) :
    Calls Tryz.prog 79 #[.agg #[.int .i64 0, .int .i64 146097, .slice (some ⟨b, 0, none⟩) 4800 cap], .int .i64 12] w fun e w' => e = .returned (.tuple #[.int .i64 146097, .int .i64 400, .int .i64 0]) ∧ Below w.heap.size w w' := by
  go_enter Tryz.func79, Tryz.ntmps79
  go_wp2_with fail
  refine (igcd_12 _).mono ?_; rintro e w1 ⟨rfl, hb1⟩
  obtain ⟨d, c0, c1, c2⟩ := (CalC.new w 0 146097 b 4800 cap).later hb1
  have hb := below_box hb1
  clear hb1
  go_wp2_with fail
  go_quiet ((go_at_call 103; exact quiet_same (imul_1 _)))
  go_wp2_with fail
  go_quiet (fail)
  go_wp2_with fail
  go_ret3
  exact ⟨rfl, by (repeat' (first | (with_reducible exact Below.refl _ _) | (with_reducible assumption) | (with_reducible refine below_drewN ?_ _) | (with_reducible refine Below.drew ?_) | (with_reducible refine Below.alloc ?_ ?_ _) | (with_reducible refine Below.setCell ?_ ?_ _) | (simp; done) | (simp; omega)))⟩
/-- the boxes of the arguments and of the result -/
theorem grp_boxes (w : World) (b cap : Nat) (hI : Ints w b (Gra.sp Gra.ms 4800)) :
    Cap3 ((((w.alloc (Obj.cells #[.int .i64 0, .int .i64 146097, .slice (some ⟨b, 0, none⟩) 4800 cap] 34)).alloc (Obj.cells #[.int .i64 0] 3)).alloc (Obj.cells #[.int .i64 12] 3)).alloc (Obj.cells #[.int .i64 0, .int .i64 0, .slice none 0 0] 34)) w.heap.size b cap ∧
      Box3 ((((w.alloc (Obj.cells #[.int .i64 0, .int .i64 146097, .slice (some ⟨b, 0, none⟩) 4800 cap] 34)).alloc (Obj.cells #[.int .i64 0] 3)).alloc (Obj.cells #[.int .i64 12] 3)).alloc (Obj.cells #[.int .i64 0, .int .i64 0, .slice none 0 0] 34)) (w.heap.size + 3) (.int .i64 0) (.int .i64 0) (.slice none 0 0) := by
  have e1 : (w.alloc (Obj.cells #[.int .i64 0, .int .i64 146097, .slice (some ⟨b, 0, none⟩) 4800 cap] 34)).heap.size = w.heap.size + 1 := by simp only [World.size_alloc]
  have e2 : ((w.alloc (Obj.cells #[.int .i64 0, .int .i64 146097, .slice (some ⟨b, 0, none⟩) 4800 cap] 34)).alloc (Obj.cells #[.int .i64 0] 3)).heap.size = w.heap.size + 2 := by simp only [World.size_alloc]
  refine ⟨⟨(((CalC.new w 0 146097 b 4800 cap).alloc _).alloc _).alloc _, ?_, ?_, ?_, (((hI.alloc _).alloc _).alloc _).alloc _⟩, ?_⟩
  · simp only [World.size_alloc]; omega
  · rw [World.cell?_alloc_lt _ _ _ (by simp only [World.size_alloc]; omega), World.cell?_alloc_lt _ _ _ (by simp only [World.size_alloc]; omega), ← e1]; exact cell_new1 _ _ _
  · rw [World.cell?_alloc_lt _ _ _ (by simp only [World.size_alloc]; omega), ← e2]; exact cell_new1 _ _ _
  have := Box3.new (((w.alloc (Obj.cells #[.int .i64 0, .int .i64 146097, .slice (some ⟨b, 0, none⟩) 4800 cap] 34)).alloc (Obj.cells #[.int .i64 0] 3)).alloc (Obj.cells #[.int .i64 12] 3)) (.int .i64 0) (.int .i64 0) (.slice none 0 0) 34
  simpa using this
set_option maxHeartbeats 4000000 in
set_option maxRecDepth 100000 in
theorem ugroups_12 (b cap : Nat) (w : World) (hI : Ints w b (Gra.sp Gra.ms 4800)) :
    Calls Tryz.prog 33 #[.agg #[.int .i64 0, .int .i64 146097, .slice (some ⟨b, 0, none⟩) 4800 cap], .int .i64 0, .int .i64 12] w fun e w' => ∃ b', e = .returned (.tuple #[.agg #[.int .i64 0, .int .i64 146097, .slice (some ⟨b', 0, none⟩) 400 400], .int .i64 0]) ∧ Ints w' b' (Gra.sp Gra.yr 400) ∧ Below w.heap.size w w' := by
  obtain ⟨hC0, hR0⟩ := grp_boxes w b cap hI
  have hC0H := Lib.hid hC0
  have hR0H := Lib.hid hR0
  clear hC0 hR0 hI
  go_enter Tryz.func33, Tryz.ntmps33
  go_wp2_with fail
  refine (gvalid_any Gra.ms 4800 146097 0 b cap _ Gra.months hC0H.out.2.2.2.2 (by omega) (by omega)).mono ?_; rintro e w1 ⟨rfl, hb1⟩
  have hb : Below w.heap.size w w1 := below_box (below_box (below_box (below_box hb1)))
  have hR1 := Lib.hid (hR0H.out.later hb1)
  have hC1 := hC0H.out.later hb1
  have hC1H := Lib.hid hC1
  clear hb1 hC0H hR0H
  obtain ⟨⟨l0, c0, c1, c2⟩, l1, d0, d1, _⟩ := hC1
  go_wp2_with fail
  refine (ublocks_12 b cap _).mono ?_; rintro e w2 ⟨rfl, hb2⟩
  have hb := below_then hb hb2
  have hR2 := Lib.hid (hR1.out.later hb2)
  have hC2 := Lib.hid (hC1H.out.later hb2)
  clear hb2 l0 c0 c1 c2 l1 d0 d1 hC1H hR1
  go_wp2_with fail
  refine (ucollect_any w.heap.size b cap _ hC2.out).mono ?_; rintro e w3 ⟨b2, rfl, hI2, hB2, hb3⟩
  have hb := below_then hb hb3
  have hR3 := Lib.hid (hR2.out.later hb3)
  have hI3 := Lib.hid hI2
  have hl2 := hR2.out.lt
  clear hb3 hI2
  obtain ⟨r, r0, r1, r2, s0, s1, s2⟩ := hR3.out
  go_wp2_with fail
  have Z0 := hR3.out.set0 (.int .i64 0)
  have Z1 := Z0.set1 (.int .i64 146097)
  have Z2 := Z1.set2 (.slice (some ⟨b2, 0, none⟩) 400 400)
  have z0 := Z2.c0
  have z1 := Z2.c1
  have z2 := Z2.c2
  have ne4 : w.heap.size + 3 ≠ b2 := by omega
  have hs5 := hb.size
  refine bodyPost_ret (v := .tuple #[.agg #[.int .i64 0, .int .i64 146097, .slice (some ⟨b2, 0, none⟩) 400 400], .int .i64 0]) (by simp [results, Tryz.results33, go_sem, z0, z1, z2]) rfl ⟨b2, rfl, ?_, ?_⟩
  · exact ((hI3.out.setFar _ _ ne4).setFar _ _ ne4).setFar _ _ ne4
  · (repeat' (first | (with_reducible exact Below.refl _ _) | (with_reducible assumption) | (with_reducible refine below_drewN ?_ _) | (with_reducible refine Below.drew ?_) | (with_reducible refine Below.alloc ?_ ?_ _) | (with_reducible refine Below.setCell ?_ ?_ _) | (simp; done) | (simp; omega)))
end Go.Proofs.YtehjjinlpilelaaGreatDoor
