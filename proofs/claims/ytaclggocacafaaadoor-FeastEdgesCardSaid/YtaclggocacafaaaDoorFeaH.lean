/- The walk of FeastYears. Condition: the table of lengths. -/
import Derived.Test.YtaclggocacafaaaDoorFeaG
namespace Go.Proofs.YtaclggocacafaaaDoor
open Go.ChangeShapes Go.WideShapes Go.ChangeAt Go.RowKit

def FyIn (w wr : World) (b : Nat) (L : List Int) (p : Prop) : Prop := Below w.heap.size w wr ∧ Ints wr b L ∧ p
theorem ints_get {w : World} {b : Nat} {xs : List Int} {i : Nat} {x : Int} (h : Ints w b xs) (hi : i < xs.length) (hx : xs.getD i 0 = x) : w.cell? ⟨b, i, none⟩ = some (.int .i64 x) := by rw [← hx]; exact h.2 i hi
set_option maxHeartbeats 8000000 in
set_option maxRecDepth 100000 in
theorem fyears_law (o m d fr to lo hi : Int) (w : World) (ht : Tab w) (ways : (fr < 1 ∧ to ≤ 9999 ∧ lo = 1 ∧ hi = to) ∨ (1 ≤ fr ∧ to ≤ 9999 ∧ lo = fr ∧ hi = to) ∨ (1 ≤ fr ∧ 9999 < to ∧ lo = fr ∧ hi = 9999)) (h0 : lo ≤ hi) (h60 : hi - lo ≤ 60) :
    Calls Tryd.prog 9 #[.int .i64 o, .int .i64 m, .int .i64 d, .int .i64 fr, .int .i64 to] w fun e w' => e = .returned (.bool true) ∧ Below w.heap.size w w' := by
  have hlo1 : 1 ≤ lo := by omega
  have hhi9 : hi ≤ 9999 := by omega
  have hY := Lib.hid (fun w => fyears_any o m d fr to lo hi w (by omega) (by omega) (by omega) (by omega))
  have hAt := Lib.hid (fun j => Fea.fl_at o m d lo (hi + 1 - lo).toNat j)
  have hW := Lib.hid (fun y => Fea.fits_ways o m d y)
  have hLen := Lib.hid (fun k => Fea.fl_len o m d lo k)
  obtain ⟨L, hL⟩ : ∃ L, L = Fea.fl o m d lo (hi + 1 - lo).toNat := ⟨_, rfl⟩
  have hLH := Lib.hid hL
  rw [← hL] at hAt hY
  clear hL
  rcases ways with ⟨a1, b1, a2, b2⟩ | ⟨a1, b1, a2, b2⟩ | ⟨a1, b1, a2, b2⟩
  all_goals
    have aH := Lib.hid (And.intro a2 b2)
    clear a2 b2
    first
      | (have u2 : to - 1 ≤ 60 ∧ 1 ≤ to := by have := aH.out; omega)
      | (have u2 : to - fr ≤ 60 ∧ fr ≤ to := by have := aH.out; omega)
      | (have u2 : 9999 - fr ≤ 60 ∧ fr ≤ 9999 := by have := aH.out; omega)
    go_enter Tryd.func9, Tryd.ntmps9
    go_wp2_with fail
    refine (awake_any _ ht).mono ?_; rintro e w1 ⟨rfl, hb1⟩
    go_wp2_with fail
    refine (hY.out _).mono ?_; rintro e w2 ⟨v, rfl, hO, hb2⟩
    have hb := below_then hb1 hb2
    clear hb1 hb2
    have hsh := hO.shape
    clear hO
    rcases hsh with ⟨hx, rfl⟩ | ⟨hx, b, cap, rfl, hI⟩
    · have hno : ∀ j : Nat, j < (hi + 1 - lo).toNat → Fea.fits o m d (lo + j) = false := by
        intro j hj
        cases q : Fea.fits o m d (lo + j)
        · rfl
        · have := (hAt.out j hj q).1; rw [hx] at this; simp at this
      have hnoH := Lib.hid hno
      have hxH := Lib.hid hx
      clear hno hx
      go_wp2_with fail
      go_loopg [14, 15] 62 (fun g t14 t15 wr => ∃ j : Nat, lo + j ≤ hi + 1 ∧ t15 = .int .i64 (lo + j) ∧ t14 = .int .i64 0 ∧ Below w.heap.size w wr ∧ (hi + 1 - lo - j).toNat ≤ g)
      case atStart => exact ⟨0, by omega, val_int (by have := aH.out; omega), rfl, hb, by omega⟩
      case round =>
        clear hb
        obtain ⟨j, hj, rfl, rfl, hb, hg⟩ := hrel
        by_cases hlt : lo + j ≤ hi
        · have hc1 : lo + j ≤ to := by have := aH.out; omega
          have hc2 : lo + j ≤ 9999 := by omega
          rcases hW.out (lo + j) with ⟨q, h⟩ | ⟨q, h, hE, h2 | ⟨h2, h3⟩⟩ | ⟨q, h, hE, h2, h3⟩
          · have hB := Lib.hid h
            have hE := Lib.hid (rfl : (0 : Int) = 0)
            have hq := Lib.hid q
            clear h q
            go_wp2_with (first | (go_at_call 27; refine (rmove_any _ _ _).mono ?_; rintro e w4 ⟨rfl, hb4⟩; rw [hB.out]) | (go_at_call 25; refine (cdate_any _ _).mono ?_; rintro e w5 ⟨rfl, hb5⟩; (try rw [hE.out])))
            go_roundg (gk - 1)
            case measure => omega
            case rel => exact ⟨j + 1, by omega, by go_num, rfl, by (repeat (first | exact Below.refl _ _ | assumption | refine below_drewN ?_ _ | refine below_alloc1 ?_ _ | refine below_then ?_ (by assumption))), by omega⟩
          · have hB := Lib.hid h
            have hE := Lib.hid hE
            have hq := Lib.hid q
            clear h q
            go_wp2_with (first | (go_at_call 27; refine (rmove_any _ _ _).mono ?_; rintro e w4 ⟨rfl, hb4⟩; rw [hB.out]) | (go_at_call 25; refine (cdate_any _ _).mono ?_; rintro e w5 ⟨rfl, hb5⟩; (try rw [hE.out])))
            go_roundg (gk - 1)
            case measure => omega
            case rel => exact ⟨j + 1, by omega, by go_num, rfl, by (repeat (first | exact Below.refl _ _ | assumption | refine below_drewN ?_ _ | refine below_alloc1 ?_ _ | refine below_then ?_ (by assumption))), by omega⟩
          · have hB := Lib.hid h
            have hE := Lib.hid hE
            have hq := Lib.hid q
            clear h q
            go_wp2_with (first | (go_at_call 27; refine (rmove_any _ _ _).mono ?_; rintro e w4 ⟨rfl, hb4⟩; rw [hB.out]) | (go_at_call 25; refine (cdate_any _ _).mono ?_; rintro e w5 ⟨rfl, hb5⟩; (try rw [hE.out])))
            go_roundg (gk - 1)
            case measure => omega
            case rel => exact ⟨j + 1, by omega, by go_num, rfl, by (repeat (first | exact Below.refl _ _ | assumption | refine below_drewN ?_ _ | refine below_alloc1 ?_ _ | refine below_then ?_ (by assumption))), by omega⟩
          · have := hnoH.out j (by omega)
            rw [q] at this; cases this
        · first | (have hc1 : ¬ lo + j ≤ to := by have := aH.out; omega) | (have hc1 : ¬ lo + j ≤ 9999 := by have := aH.out; omega)
          go_wp2_with fail
          go_ret
          exact ⟨by simp, hb⟩
    · clear hx
      generalize hn : L.length = n at *
      have hnH := Lib.hid hn
      clear hn
      have hn61 : n ≤ 61 := by have h1 := hLen.out (hi + 1 - lo).toNat; have h2 := hnH.out; rw [hLH.out] at h2; omega
      have hIH := Lib.hid hI
      clear hI
      go_wp2_with fail
      go_loopg [14, 15] 62 (fun g t14 t15 wr => ∃ j : Nat, lo + j ≤ hi + 1 ∧ t15 = .int .i64 (lo + j) ∧ t14 = .int .i64 (Fea.fl o m d lo j).length ∧ FyIn w wr b L ((hi + 1 - lo - j).toNat ≤ g))
      case atStart => exact ⟨0, by omega, val_int (by have := aH.out; omega), rfl, hb, hIH.out, by omega⟩
      case round =>
        clear hb hIH
        obtain ⟨j, hj, rfl, rfl, hb, hI, hg⟩ := hrel
        have hIH := Lib.hid hI
        clear hI
        have hlj := hLen.out j
        by_cases hlt : lo + j ≤ hi
        · have hc1 : lo + j ≤ to := by have := aH.out; omega
          have hc2 : lo + j ≤ 9999 := by omega
          rcases hW.out (lo + j) with ⟨q, h⟩ | ⟨q, h, hE, h2 | ⟨h2, h3⟩⟩ | ⟨q, h, hE, h2, h3⟩
          · have hB := Lib.hid h
            have hE := Lib.hid (rfl : (0 : Int) = 0)
            have hq := Lib.hid q
            clear h q
            go_wp2_with (first | (go_at_call 27; refine (rmove_any _ _ _).mono ?_; rintro e w4 ⟨rfl, hb4⟩; rw [hB.out]) | (go_at_call 25; refine (cdate_any _ _).mono ?_; rintro e w5 ⟨rfl, hb5⟩; (try rw [hE.out])))
            go_roundg (gk - 1)
            case measure => omega
            case rel => exact ⟨j + 1, by omega, by go_num, val_int (by rw [Fea.fl_no hq.out]), by (repeat (first | exact Below.refl _ _ | assumption | refine below_drewN ?_ _ | refine below_alloc1 ?_ _ | refine below_then ?_ (by assumption))), Ints.later (Ints.later hIH.out hb4) (by (repeat (first | exact Below.refl _ _ | assumption | refine below_drewN ?_ _ | refine below_alloc1 ?_ _ | refine below_then ?_ (by assumption)))), by omega⟩
          · have hB := Lib.hid h
            have hE := Lib.hid hE
            have hq := Lib.hid q
            clear h q
            go_wp2_with (first | (go_at_call 27; refine (rmove_any _ _ _).mono ?_; rintro e w4 ⟨rfl, hb4⟩; rw [hB.out]) | (go_at_call 25; refine (cdate_any _ _).mono ?_; rintro e w5 ⟨rfl, hb5⟩; (try rw [hE.out])))
            go_roundg (gk - 1)
            case measure => omega
            case rel => exact ⟨j + 1, by omega, by go_num, val_int (by rw [Fea.fl_no hq.out]), by (repeat (first | exact Below.refl _ _ | assumption | refine below_drewN ?_ _ | refine below_alloc1 ?_ _ | refine below_then ?_ (by assumption))), Ints.later (Ints.later hIH.out hb4) (by (repeat (first | exact Below.refl _ _ | assumption | refine below_drewN ?_ _ | refine below_alloc1 ?_ _ | refine below_then ?_ (by assumption)))), by omega⟩
          · have hB := Lib.hid h
            have hE := Lib.hid hE
            have hq := Lib.hid q
            clear h q
            go_wp2_with (first | (go_at_call 27; refine (rmove_any _ _ _).mono ?_; rintro e w4 ⟨rfl, hb4⟩; rw [hB.out]) | (go_at_call 25; refine (cdate_any _ _).mono ?_; rintro e w5 ⟨rfl, hb5⟩; (try rw [hE.out])))
            go_roundg (gk - 1)
            case measure => omega
            case rel => exact ⟨j + 1, by omega, by go_num, val_int (by rw [Fea.fl_no hq.out]), by (repeat (first | exact Below.refl _ _ | assumption | refine below_drewN ?_ _ | refine below_alloc1 ?_ _ | refine below_then ?_ (by assumption))), Ints.later (Ints.later hIH.out hb4) (by (repeat (first | exact Below.refl _ _ | assumption | refine below_drewN ?_ _ | refine below_alloc1 ?_ _ | refine below_then ?_ (by assumption)))), by omega⟩
          · have hB := Lib.hid h
            have hE := Lib.hid hE
            obtain ⟨k1, k2⟩ := hAt.out j (by omega) q
            have k3 := Lib.hid (And.intro (show (Fea.fl o m d lo j).length < L.length by rw [hnH.out]; exact k1) k2)
            have hq := Lib.hid q
            have k4 : (Fea.fl o m d lo j).length < n := k1
            clear h q k1 k2
            have hc := fun wr' (hw : Below wr.heap.size wr wr') => ints_get (hIH.out.later hw) k3.out.1 k3.out.2
            generalize hz : (Fea.fl o m d lo j).length = z at *
            have hzH := Lib.hid hz
            clear hz
            go_wp2_with (first | (go_at_call 27; refine (rmove_any _ _ _).mono ?_; rintro e w4 ⟨rfl, hb4⟩; rw [hB.out]) | (go_at_call 25; refine (cdate_any _ _).mono ?_; rintro e w5 ⟨rfl, hb5⟩; rw [hE.out]; have hcc := fun ob => hc (w5.alloc ob) (below_alloc1 (below_then hb4 hb5) ob)))
            go_roundg (gk - 1)
            case measure => omega
            case rel => exact ⟨j + 1, by omega, by go_num, val_int (by rw [Fea.fl_yes hq.out, List.length_append, hzH.out]; simp), by (repeat (first | exact Below.refl _ _ | assumption | refine below_drewN ?_ _ | refine below_alloc1 ?_ _ | refine below_then ?_ (by assumption))), Ints.later (Ints.later hIH.out hb4) (by (repeat (first | exact Below.refl _ _ | assumption | refine below_drewN ?_ _ | refine below_alloc1 ?_ _ | refine below_then ?_ (by assumption)))), by omega⟩
        · have hee : j = (hi + 1 - lo).toNat := by omega
          have hlast : (Fea.fl o m d lo j).length = n := by rw [hee, ← hLH.out]; exact hnH.out
          have hlH := Lib.hid hlast
          rw [hlast]
          clear hlast hee hlj
          first | (have hc1 : ¬ lo + j ≤ to := by have := aH.out; omega) | (have hc1 : ¬ lo + j ≤ 9999 := by have := aH.out; omega)
          go_wp2_with fail
          go_ret
          exact ⟨by simp, hb⟩
end Go.Proofs.YtaclggocacafaaaDoor
