/- The walks of the laws of layer 5 that need no date of a day. Condition: the table of lengths. -/
import Derived.Test.YtiacppcnballeaaDoorJul
import Derived.Test.YtiacppcnballeaaDoorCivil
import Derived.Test.YtiacppcnballeaaDoorRefJul
namespace Go.Proofs.YtiacppcnballeaaDoor
open Go.ChangeShapes Go.WideShapes Go.ChangeAt Go.RowKit

theorem awake_any (w : World) (ht : Tab w) :
    Calls Tryd.prog 12 #[] w fun e w' => e = .returned (.bool true) ∧ Below w.heap.size w w' := by
  have a1 : Cal.dayJn 1900 3 1 = -25495 := by decide +kernel
  have a2 : Cal.dayJe 1900 3 1 = 0 := by decide +kernel
  have a3 : Cal.dayGn 1900 3 14 = -25495 := by decide +kernel
  have a4 : Cal.dayGe 1900 3 14 = 0 := by decide +kernel
  have a5 : Cal.numJ 0 = 2440588 := by decide +kernel
  have a6 : Cal.inE 0 = 0 := by decide +kernel
  go_enter Tryd.func12, Tryd.ntmps12
  go_wp2_with (first | (go_at_call 13; refine (jday_any _ _ _ _ ht).mono ?_; rintro e w1 ⟨rfl, hb1⟩) | (go_at_call 32; refine (cday_any _ _ _ _).mono ?_; rintro e w2 ⟨rfl, hb2⟩) | (go_at_call 20; refine (jnumber_any _ _).mono ?_; rintro e w3 ⟨rfl, rfl⟩))
  go_ret
  exact ⟨rfl, below_then hb1 hb2⟩

theorem wJulianDays (y m d : Int) (w : World) (_hy : -9223372036854775808 ≤ y ∧ y ≤ 9223372036854775807) (_hm : -9223372036854775808 ≤ m ∧ m ≤ 9223372036854775807) (_hd : -9223372036854775808 ≤ d ∧ d ≤ 9223372036854775807) (ht : Tab w) :
    Calls Tryd.prog 3 #[.agg #[.int .i64 y, .int .i64 m, .int .i64 d]] w fun e w' => e = .returned (.bool true) ∧ Below w.heap.size w w' := by
  go_enter Tryd.func3, Tryd.ntmps3
  go_wp2_with (first | (go_at_call 12; refine (awake_any _ (ht.later (by go_grown))).mono ?_; rintro e w1 ⟨rfl, hb1⟩; obtain ⟨c0, c1, c2⟩ := box3 hb1; have ht1 := ht.later (below_box hb1)) | (go_at_call 13; refine (jday_any _ _ _ _ ht1).mono ?_; rintro e w2 ⟨rfl, hb2⟩; have hb2 := below_then hb1 hb2; obtain ⟨c3, c4, c5⟩ := box3 hb2) | (go_at_call 14; refine (rday_any _ _ _ _).mono ?_; rintro e w3 ⟨rfl, hb3⟩; have hb3 := below_then hb2 hb3; obtain ⟨c6, c7, c8⟩ := box3 hb3; have ht3 := ht.later (below_box hb3)))
  go_quiet ((first | (go_at_call 15; exact quiet_same (jleap_any _ _)) | (go_at_call 16; exact quiet_same (rleap_any _ _)) | (go_at_call 17; exact quiet_same (jlength_any _ _ _ (ht3.drewN _))) | (go_at_call 18; exact quiet_same (rlength_any _ _ _))))
  go_wp2
  go_ret
  exact ⟨by simp, below_drewN (below_box hb3) _⟩
end Go.Proofs.YtiacppcnballeaaDoor
