/- Contracts of Anniversary, of the reference of layer 7. No conditions. -/
import Derived.Test.YtpoehjnhinapoaaHebN
import Derived.Deep.CutRange
namespace Go.Proofs.Ytpoehjnhinapoaa
open Go.ChangeShapes Go.WideShapes Go.ChangeAt Go.RowKit

def CutA (w wx : World) (b : Nat) (X : Int) : Prop := Below w.heap.size w wx ∧ Box3 wx b (.int .i64 (Heb.yH X)) (.int .i64 (Heb.mH X)) (.int .i64 (Heb.aH X)) ∧ Box3 wx (w.heap.size + 1) (.int .i64 0) (.int .i64 0) (.int .i64 0)

set_option maxHeartbeats 4000000 in
theorem rhanniv_good (y m d y2 : Int) (w : World) (ho : Heb.okb y m d = true) (h2 : Heb.yB y2 = true) :
    Calls Try.prog 37 #[.agg #[.int .i64 y, .int .i64 m, .int .i64 d], .int .i64 y2] w fun e w' => e = .returned (.tuple #[.agg #[.int .i64 (Heb.yH (Heb.anX y m d y2)), .int .i64 (Heb.mH (Heb.anX y m d y2)), .int .i64 (Heb.aH (Heb.anX y m d y2))], .int .i64 0]) ∧ Below w.heap.size w w' := by
  have hok := Heb.okb_iff.1 ho
  obtain ⟨a1, a2, a3, a4, _, _⟩ := Heb.an_ways hok h2
  have hlb := Heb.len_bd y m
  have hlb2 := Heb.len_bd y2 (Heb.an y m y2)
  obtain ⟨hy, m1, m2, d1, d2⟩ := hok
  obtain ⟨y1, y1'⟩ := Heb.yB_iff.1 hy
  obtain ⟨z1, z2⟩ := Heb.yB_iff.1 h2
  have hst := Heb.bg_step (y := y2)
  have hmono := Heb.bg_mono (a := y2) (b := 20001) (by omega) (by omega) (by omega)
  have hlo := Heb.bg_mono (a := 0) (b := y2) (by omega) (by omega) (by omega)
  rw [show (0 : Int) + 1 = 1 by rfl, Heb.bg_1] at hlo
  rw [Heb.bg_20001] at hmono
  have hX : Heb.anX y m d y2 = Heb.bg y2 + Heb.off y2 (Heb.an y m y2) + d - 1 := rfl
  have hx1 : -2092590 ≤ Heb.bg y2 + Heb.off y2 (Heb.an y m y2) + d - 1 ∧ Heb.bg y2 + Heb.off y2 (Heb.an y m y2) + d - 1 < 5212335 := by omega
  have hob : Heb.off y2 (Heb.an y m y2) ≤ 400 := by have := Heb.ylen_bd (y := y2) (by omega) (by omega); omega
  have hbgb : -2092590 ≤ Heb.bg y2 ∧ Heb.bg y2 ≤ 5212335 := by have := Heb.ylen_bd (y := y2) (by omega) (by omega); omega
  have h2H := Lib.hid h2
  have haH := Lib.hid (And.intro a1 a2)
  have hd30 : d ≤ 30 := by omega
  have h21H := Lib.hid Heb.bg_20001
  rw [hX]
  have hways : (m = Heb.mthc y ∧ Heb.an y m y2 = Heb.mthc y2) ∨ ((m == Heb.mthc y) = false ∧ Heb.an y m y2 = m) := by
    by_cases q : m = Heb.mthc y
    · exact Or.inl ⟨q, by unfold Heb.an; rw [if_pos q]⟩
    · exact Or.inr ⟨by simpa using q, by unfold Heb.an; rw [if_neg q]⟩
  clear hX hst hmono hlo hlb2 hy a1 a2 m2 d2 hlb
  generalize hK : Heb.an y m y2 = K at *
  have hKH := Lib.hid hK
  clear hK
  obtain ⟨X, hX⟩ : ∃ X, X = Heb.bg y2 + Heb.off y2 K + d - 1 := ⟨_, rfl⟩
  have hyX : Heb.yB (Heb.yH X) = true := by rw [hX]; exact (Heb.dt_spec (Heb.rB_iff.2 hx1)).1.1
  have hyH := Lib.hid hyX
  rw [← hX]
  have hXH := Lib.hid hX
  clear hX hyX
  have hw1 : IntKind.i64.wrap (Heb.bg y2 + Heb.off y2 K + d) = Heb.bg y2 + Heb.off y2 K + d := IntWalk.i64_in _ (by omega)
  have hw2 : IntKind.i64.wrap (Heb.bg y2 + Heb.off y2 K + d - 1) = Heb.bg y2 + Heb.off y2 K + d - 1 := IntWalk.i64_in _ (by omega)
  rcases hways with ⟨q, q2⟩ | ⟨q, q2⟩
  all_goals
    first | (have q' : (m == Heb.mthc y) = true := by simpa using q) | (have q' : (m == Heb.mthc y) = false := q)
    clear q
    have q2H : Hid (K = Heb.mthc y2) ∨ True := by first | exact Or.inl (Lib.hid q2) | exact Or.inr trivial
    first | subst q2 | skip
    go_enter Try.func37, Try.ntmps37
    go_wp2_with fail
    refine (rhvalid_any _ _ _ _).mono ?_; rintro e w1 ⟨rfl, hb1⟩
    have hZ := Lib.hid (ZB.start hb1)
    have hb := below_box (below_box hb1)
    clear hb1
    obtain ⟨⟨lt, c0, c1, c2, _, _, _⟩, _⟩ := hZ.out
    go_wp2_with (first | (go_at_call 25; refine (rhyear_any _ _).mono ?_; rintro e w' ⟨rfl, rfl⟩) | (go_at_call 23; refine (rhmonths_any _ _).mono ?_; rintro e w' ⟨rfl, rfl⟩))
    clear c0 c1
    have c2a := keep1 ((Below.refl _ _).alloc (Nat.le_refl _) (Obj.cells #[.int .i64 0, .int .i64 0, .int .i64 0] 23)) lt c2
    clear ho q' q2H
    go_cut [7] from 26 to 33 (fun t7 wx => ∃ b : Nat, t7 = .pointer (some ⟨b, 0, none⟩) ∧ CutA w wx b X)
    case first =>
      go_region_with (first | (go_at_call 41; refine (rhfirst_any _ _ _ h2H.out haH.out.1 haH.out.2).mono ?_; rintro e w2 ⟨rfl, hbx⟩; (first | (have hq : Below w1.heap.size w1 w2 := below_undrew hbx) | (have hq : Below w1.heap.size w1 w2 := below_box (below_undrew hbx))); have c2 := keep1 hq lt c2; have c2b := keep1 ((Below.refl _ _).alloc (Nat.le_refl _) (Obj.cells #[.int .i64 0, .int .i64 0, .int .i64 0] 23)) (Nat.lt_of_lt_of_le lt hq.size) c2; (first | (have hN := Box3.born (below_undrew hbx); have hN2 := hN; obtain ⟨_, n0, n1, n2, p0, p1, p2⟩ := hN2) | skip)) | (go_at_call 56; refine (rhat_any _ _ (by omega) (by omega)).mono ?_; rintro e w3 ⟨rfl, hb3⟩; (first | (have hq3 : Below w2.heap.size w2 w3 := hb3) | (have hq3 : Below w2.heap.size w2 w3 := below_box hb3)); (first | (have hN := Box3.born hb3; have hN2 := hN; obtain ⟨_, n0, n1, n2, p0, p1, p2⟩ := hN2) | (have hN := Box3.later (by assumption) hb3; have hN2 := hN; obtain ⟨_, n0, n1, n2, p0, p1, p2⟩ := hN2) | skip)))
      all_goals
        have hbA := below_then (below_then hb hq) hq3
        have hZ3 := (hZ.out.later hq).later hq3
        have l0 := hZ.out.2.lt
        have l1 := hq.size
        have l2 := hq3.size
        go_wp2_with fail
        go_meet
        case rel =>
          refine ⟨_, rfl, ?_⟩
          rw [hXH.out]
          first
            | exact ⟨below_alloc1 hbA _, Box3.new w3 _ _ _ _, hZ3.2.alloc _⟩
            | exact ⟨((hbA.setCell (by show w.heap.size ≤ w2.heap.size; omega) _).setCell (by show w.heap.size ≤ w2.heap.size; omega) _).setCell (by show w.heap.size ≤ w2.heap.size; omega) _, (((show Box3 w3 w2.heap.size _ _ _ from by assumption).set0 _).set1 _).set2 _, ((hZ3.2.setFar _ _ (by show w2.heap.size ≠ w.heap.size + 1; omega)).setFar _ _ (by show w2.heap.size ≠ w.heap.size + 1; omega)).setFar _ _ (by show w2.heap.size ≠ w.heap.size + 1; omega)⟩
            | exact ⟨((hbA.setCell (by show w.heap.size ≤ w1.heap.size; omega) _).setCell (by show w.heap.size ≤ w1.heap.size; omega) _).setCell (by show w.heap.size ≤ w1.heap.size; omega) _, (((show Box3 w3 w1.heap.size _ _ _ from by assumption).set0 _).set1 _).set2 _, ((hZ3.2.setFar _ _ (by show w1.heap.size ≠ w.heap.size + 1; omega)).setFar _ _ (by show w1.heap.size ≠ w.heap.size + 1; omega)).setFar _ _ (by show w1.heap.size ≠ w.heap.size + 1; omega)⟩
    case rest =>
      obtain ⟨b, rfl, hbW, hBW, hZW⟩ := hcut
      obtain ⟨_, n0, n1, n2, p0, p1, p2⟩ := hBW
      obtain ⟨_, r0, r1, r2, g0, g1, g2⟩ := hZW
      have hyX := hyH.out
      go_wp2_with (first | (go_at_call 25; refine (rhyear_any _ _).mono ?_; rintro e w' ⟨rfl, rfl⟩))
      refine bodyPost_ret (by simp [results, Try.results37, go_sem, r0, r1, r2]) rfl ⟨rfl, hbW.trans (by go_grown)⟩

set_option maxHeartbeats 1000000 in
theorem rhanniv_bad (y m d y2 : Int) (w : World) (h : Heb.okb y m d = false ∨ (Heb.okb y m d = true ∧ Heb.yB y2 = false)) :
    Calls Try.prog 37 #[.agg #[.int .i64 y, .int .i64 m, .int .i64 d], .int .i64 y2] w fun e w' => e = .returned (.tuple #[.agg #[.int .i64 0, .int .i64 0, .int .i64 0], .int .i64 2]) ∧ Below w.heap.size w w' := by
  rcases h with h | ⟨h, h2⟩
  all_goals
    go_enter Try.func37, Try.ntmps37
    go_wp2_with fail
    refine (rhvalid_any _ _ _ _).mono ?_; rintro e w1 ⟨rfl, hb1⟩
    obtain ⟨_, ⟨_, r0, r1, r2, g0, g1, g2⟩⟩ := ZB.start hb1
    have hb := below_box (below_box hb1)
    go_wp2_with (first | (go_at_call 25; refine (rhyear_any _ _).mono ?_; rintro e w' ⟨rfl, rfl⟩))
    exact bodyPost_ret (v := .tuple #[.agg #[.int .i64 0, .int .i64 0, .int .i64 0], .int .i64 2]) (by simp [results, Try.results37, go_sem, r0, r1, r2]) rfl ⟨rfl, hb.trans (by go_grown)⟩
theorem rhanniv_any (y m d y2 : Int) (w : World) :
    Calls Try.prog 37 #[.agg #[.int .i64 y, .int .i64 m, .int .i64 d], .int .i64 y2] w fun e w' => e = .returned (.tuple #[.agg #[.int .i64 (Heb.anY y m d y2), .int .i64 (Heb.anM y m d y2), .int .i64 (Heb.anA y m d y2)], .int .i64 (Heb.anE y m d y2)]) ∧ Below w.heap.size w w' := by
  by_cases ho : Heb.okb y m d = true
  · by_cases h2 : Heb.yB y2 = true
    · have e : Heb.anB y m d y2 = true := by simp [Heb.anB, ho, h2]
      have := rhanniv_good y m d y2 w ho h2
      simpa only [Heb.anY, Heb.anM, Heb.anA, Heb.anE, e, if_true] using this
    · have e : Heb.anB y m d y2 = false := by simp [Heb.anB, h2]
      have := rhanniv_bad y m d y2 w (Or.inr ⟨ho, by simpa using h2⟩)
      simpa only [Heb.anY, Heb.anM, Heb.anA, Heb.anE, e, if_false, Bool.false_eq_true] using this
  · have e : Heb.anB y m d y2 = false := by simp [Heb.anB, ho]
    have := rhanniv_bad y m d y2 w (Or.inl (by simpa using ho))
    simpa only [Heb.anY, Heb.anM, Heb.anA, Heb.anE, e, if_false, Bool.false_eq_true] using this
end Go.Proofs.Ytpoehjnhinapoaa
