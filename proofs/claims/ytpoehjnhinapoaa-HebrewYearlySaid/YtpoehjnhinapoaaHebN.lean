/- Contracts of Anniversary, of package hebrew. No conditions. -/
import Derived.Test.YtpoehjnhinapoaaHebM
namespace Heb
def an (y m y2 : Int) : Int := if m = mthc y then mthc y2 else m
def anX (y m d y2 : Int) : Int := bg y2 + off y2 (an y m y2) + d - 1
def anB (y m d y2 : Int) : Bool := okb y m d && yB y2
noncomputable def anY (y m d y2 : Int) : Int := if anB y m d y2 then yH (anX y m d y2) else 0
noncomputable def anM (y m d y2 : Int) : Int := if anB y m d y2 then mH (anX y m d y2) else 0
noncomputable def anA (y m d y2 : Int) : Int := if anB y m d y2 then aH (anX y m d y2) else 0
def anE (y m d y2 : Int) : Int := if anB y m d y2 then 0 else 2
theorem len_6 (y : Int) : len y 6 = 29 := by simp [len, lenA]
theorem len_last (y : Int) : len y (mths y) = 29 := by
  rcases lp_mths y with ⟨q, e⟩ | ⟨q, e⟩ <;> rw [e] <;> simp [len, lenA, q]
/-- what an anniversary comes to -/
theorem an_ways {y m d y2 : Int} (h : ok y m d) (h2 : yB y2 = true) : 1 ≤ an y m y2 ∧ an y m y2 ≤ mths y2 ∧ 0 ≤ off y2 (an y m y2) ∧ off y2 (an y m y2) + d ≤ ylen y2 ∧
    ((yH (anX y m d y2) = y2 ∧ mH (anX y m d y2) = an y m y2 ∧ aH (anX y m d y2) = d) ∨ (d = 30 ∧ aH (anX y m d y2) = 1)) ∧ (an y m y2 = m ∨ (12 ≤ m ∧ 12 ≤ an y m y2)) := by
  have hk := h
  obtain ⟨hy, m1, m2, d1, d2⟩ := h
  obtain ⟨z1, z2⟩ := yB_iff.1 h2
  have hc : mthc y = mths y := by unfold mthc; rw [if_pos hy]
  have hc2 : mthc y2 = mths y2 := by unfold mthc; rw [if_pos h2]
  have b1 := mths_bd y; have b2 := mths_bd y2
  have hlb := len_bd y m
  by_cases q : m = mths y
  · have e : an y m y2 = mths y2 := by unfold an; rw [hc, if_pos q, hc2]
    have l2 := len_last y2
    have l1 := len_last y
    rw [← q] at l1
    have ho := off_bd (y := y2) (m := mths y2) z1 (by omega) (by omega) (by omega)
    have hok : ok y2 (mths y2) d := ⟨h2, by omega, by omega, d1, by omega⟩
    obtain ⟨r1, r2, r3⟩ := dt_day hok
    rw [e]
    refine ⟨by omega, by omega, ho.1, by omega, Or.inl ?_, Or.inr ⟨by omega, by omega⟩⟩
    have ex : anX y m d y2 = day y2 (mths y2) d := by unfold anX day; rw [e]
    rw [ex]; exact ⟨r1, r2, r3⟩
  · have e : an y m y2 = m := by unfold an; rw [hc, if_neg q]
    have ho := off_bd (y := y2) (m := m) z1 (by omega) m1 (by omega)
    have hl2 := len_bd y2 m
    rw [e]
    have ex : anX y m d y2 = bg y2 + off y2 m + d - 1 := by unfold anX; rw [e]
    by_cases k : d ≤ len y2 m
    · have hok : ok y2 m d := ⟨h2, m1, by omega, d1, k⟩
      obtain ⟨r1, r2, r3⟩ := dt_day hok
      refine ⟨m1, by omega, ho.1, by omega, Or.inl ?_, Or.inl rfl⟩
      have ex2 : anX y m d y2 = day y2 m d := ex
      rw [ex2]; exact ⟨r1, r2, r3⟩
    · have k6 : m ≠ 6 := by
        rintro rfl
        have := len_6 y; have := len_6 y2; omega
      obtain ⟨f1, f2, f3⟩ := fol_off (y := y2) z1 z2 m1 (by omega) k6
      have hf := off_bd (y := y2) (m := folM y2 m) z1 (by omega) f2 f3
      have hfl := len_bd y2 (folM y2 m)
      have hok : ok y2 (folM y2 m) 1 := ⟨h2, f2, f3, by omega, by omega⟩
      obtain ⟨r1, r2, r3⟩ := dt_day hok
      refine ⟨m1, by omega, ho.1, by omega, Or.inr ⟨by omega, ?_⟩, Or.inl rfl⟩
      have ex2 : anX y m d y2 = day y2 (folM y2 m) 1 := by rw [ex]; unfold day; rw [f1]; omega
      rw [ex2]; exact r3
end Heb
namespace Go.Proofs.Ytpoehjnhinapoaa
open Go.ChangeShapes Go.WideShapes Go.ChangeAt Go.RowKit

def ZB (w wr : World) (y m d : Int) : Prop := Box3 wr w.heap.size (.int .i64 y) (.int .i64 m) (.int .i64 d) ∧ Box3 wr (w.heap.size + 1) (.int .i64 0) (.int .i64 0) (.int .i64 0)
theorem ZB.start {w w1 : World} {y m d : Int} {t : TypeId} (hb : Below ((w.alloc (.cells #[.int .i64 y, .int .i64 m, .int .i64 d] t)).alloc (.cells #[.int .i64 0, .int .i64 0, .int .i64 0] t)).heap.size ((w.alloc (.cells #[.int .i64 y, .int .i64 m, .int .i64 d] t)).alloc (.cells #[.int .i64 0, .int .i64 0, .int .i64 0] t)) w1) : ZB w w1 y m d := by
  refine ⟨((Box3.new w _ _ _ t).alloc _).later hb, ?_⟩
  have := Box3.born hb; simpa using this
theorem ZB.later {w wr w1 : World} {y m d : Int} (h : ZB w wr y m d) (hb : Below wr.heap.size wr w1) : ZB w w1 y m d := ⟨h.1.later hb, h.2.later hb⟩
theorem ZB.drewN {w wr : World} {y m d : Int} (h : ZB w wr y m d) (k : Nat) : ZB w (wr.drewN k) y m d := ⟨h.1.drewN k, h.2.drewN k⟩

set_option maxHeartbeats 4000000 in
theorem hanniv_good (y m d y2 : Int) (w : World) (ho : Heb.okb y m d = true) (h2 : Heb.yB y2 = true) :
    Calls Try.prog 36 #[.agg #[.int .i64 y, .int .i64 m, .int .i64 d], .int .i64 y2] w fun e w' => e = .returned (.tuple #[.agg #[.int .i64 (Heb.yH (Heb.anX y m d y2)), .int .i64 (Heb.mH (Heb.anX y m d y2)), .int .i64 (Heb.aH (Heb.anX y m d y2))], .int .i64 0]) ∧ Below w.heap.size w w' := by
  have hok := Heb.okb_iff.1 ho
  obtain ⟨a1, a2, a3, a4, _, _⟩ := Heb.an_ways hok h2
  have hlb := Heb.len_bd y m
  have hlb2 := Heb.len_bd y2 (Heb.an y m y2)
  obtain ⟨hy, m1, m2, d1, d2⟩ := hok
  obtain ⟨y1, y1'⟩ := Heb.yB_iff.1 hy
  obtain ⟨z1, z2⟩ := Heb.yB_iff.1 h2
  have hst := Heb.bg_step (y := y2)
  have hmono := Heb.bg_mono (a := y2) (b := 20001) (by omega) (by omega) (by omega)
  have hlo := Heb.bg_mono (a := 0) (b := y2) (by omega) (by omega) (by omega)
  rw [show (0 : Int) + 1 = 1 by rfl, Heb.bg_1] at hlo
  rw [Heb.bg_20001] at hmono
  have hX : Heb.anX y m d y2 = Heb.bg y2 + Heb.off y2 (Heb.an y m y2) + d - 1 := rfl
  have hx1 : -2092590 ≤ Heb.bg y2 + Heb.off y2 (Heb.an y m y2) + d - 1 ∧ Heb.bg y2 + Heb.off y2 (Heb.an y m y2) + d - 1 < 5212335 := by omega
  have hob : Heb.off y2 (Heb.an y m y2) ≤ 400 := by have := Heb.ylen_bd (y := y2) (by omega) (by omega); omega
  have hbgb : -2092590 ≤ Heb.bg y2 ∧ Heb.bg y2 ≤ 5212335 := by have := Heb.ylen_bd (y := y2) (by omega) (by omega); omega
  have h2H := Lib.hid h2
  have haH := Lib.hid (And.intro a1 a2)
  have hd30 : d ≤ 30 := by omega
  have h21H := Lib.hid Heb.bg_20001
  rw [hX]
  have hways : (m = Heb.mthc y ∧ Heb.an y m y2 = Heb.mthc y2) ∨ ((m == Heb.mthc y) = false ∧ Heb.an y m y2 = m) := by
    by_cases q : m = Heb.mthc y
    · exact Or.inl ⟨q, by unfold Heb.an; rw [if_pos q]⟩
    · exact Or.inr ⟨by simpa using q, by unfold Heb.an; rw [if_neg q]⟩
  clear hX hst hmono hlo hlb2 hy a1 a2 m2 d2 hlb
  generalize hK : Heb.an y m y2 = K at *
  have hKH := Lib.hid hK
  clear hK
  rcases hways with ⟨q, q2⟩ | ⟨q, q2⟩
  all_goals
    first | (have q' : (m == Heb.mthc y) = true := by simpa using q) | (have q' : (m == Heb.mthc y) = false := q)
    clear q
    have q2H : Hid (K = Heb.mthc y2) ∨ True := by first | exact Or.inl (Lib.hid q2) | exact Or.inr trivial
    first | subst q2 | skip
    go_enter Try.func36, Try.ntmps36
    go_wp2_with fail
    refine (hvalid_any _ _ _ _).mono ?_; rintro e w1 ⟨rfl, hb1⟩
    have hZ := Lib.hid (ZB.start hb1)
    have hb := below_box (below_box hb1)
    clear hb1
    obtain ⟨⟨lt, c0, c1, c2, _, _, _⟩, _⟩ := hZ.out
    first
      | (go_wp2_with (first | (go_at_call 43; refine (hyear_any _ _).mono ?_; rintro e w' ⟨rfl, rfl⟩) | (go_at_call 17; refine (hmonths_any _ _).mono ?_; rintro e w' ⟨rfl, kd, rfl⟩)))
    clear c0 c1
    go_region_held3 (fun w' => w'.cell? ⟨w.heap.size, 2, none⟩ = some (.int .i64 d))
      (first | go_keep | exact keep1 hbx lt (by assumption))
      (first | (go_at_call 40; refine (hfirst_any _ _ _ h2H.out haH.out.1 haH.out.2).mono ?_; rintro e w2 ⟨rfl, hbx⟩))
    have hbx2 : Below w1.heap.size w1 w2 := ⟨hbx.os, hbx.tape, hbx.output, hbx.size, hbx.block⟩
    have hZ3 := Lib.hid (hZ.out.later hbx2)
    have hb := below_then hb hbx2
    clear hbx hbx2 hZ c2
    simp (disch := omega) only [IntWalk.i64_in]
    go_wp2_with (first | (go_at_call 45; refine (hbegin_any _ _ (by omega) (by omega)).mono ?_; rintro e w' ⟨rfl, kd, rfl⟩; rw [h21H.out]) | (go_at_call 55; refine (hdate_any _ _ (by omega) (by omega)).mono ?_; rintro e w3 ⟨rfl, hb3⟩; obtain ⟨_, r0, r1, r2, g0, g1, g2⟩ := (hZ3.out.later (below_draw hb3)).2))
    refine bodyPost_ret (by simp [results, Try.results36, go_sem, r0, r1, r2]) rfl ⟨rfl, (below_then hb (below_draw hb3)).trans (by go_grown)⟩

set_option maxHeartbeats 1000000 in
theorem hanniv_bad (y m d y2 : Int) (w : World) (h : Heb.okb y m d = false ∨ (Heb.okb y m d = true ∧ Heb.yB y2 = false)) :
    Calls Try.prog 36 #[.agg #[.int .i64 y, .int .i64 m, .int .i64 d], .int .i64 y2] w fun e w' => e = .returned (.tuple #[.agg #[.int .i64 0, .int .i64 0, .int .i64 0], .int .i64 2]) ∧ Below w.heap.size w w' := by
  rcases h with h | ⟨h, h2⟩
  all_goals
    go_enter Try.func36, Try.ntmps36
    go_wp2_with fail
    refine (hvalid_any _ _ _ _).mono ?_; rintro e w1 ⟨rfl, hb1⟩
    obtain ⟨_, ⟨_, r0, r1, r2, g0, g1, g2⟩⟩ := ZB.start hb1
    have hb := below_box (below_box hb1)
    go_wp2_with (first | (go_at_call 43; refine (hyear_any _ _).mono ?_; rintro e w' ⟨rfl, rfl⟩))
    exact bodyPost_ret (v := .tuple #[.agg #[.int .i64 0, .int .i64 0, .int .i64 0], .int .i64 2]) (by simp [results, Try.results36, go_sem, r0, r1, r2]) rfl ⟨rfl, hb.trans (by go_grown)⟩
theorem hanniv_any (y m d y2 : Int) (w : World) :
    Calls Try.prog 36 #[.agg #[.int .i64 y, .int .i64 m, .int .i64 d], .int .i64 y2] w fun e w' => e = .returned (.tuple #[.agg #[.int .i64 (Heb.anY y m d y2), .int .i64 (Heb.anM y m d y2), .int .i64 (Heb.anA y m d y2)], .int .i64 (Heb.anE y m d y2)]) ∧ Below w.heap.size w w' := by
  by_cases ho : Heb.okb y m d = true
  · by_cases h2 : Heb.yB y2 = true
    · have e : Heb.anB y m d y2 = true := by simp [Heb.anB, ho, h2]
      have := hanniv_good y m d y2 w ho h2
      simpa only [Heb.anY, Heb.anM, Heb.anA, Heb.anE, e, if_true] using this
    · have e : Heb.anB y m d y2 = false := by simp [Heb.anB, h2]
      have := hanniv_bad y m d y2 w (Or.inr ⟨ho, by simpa using h2⟩)
      simpa only [Heb.anY, Heb.anM, Heb.anA, Heb.anE, e, if_false, Bool.false_eq_true] using this
  · have e : Heb.anB y m d y2 = false := by simp [Heb.anB, ho]
    have := hanniv_bad y m d y2 w (Or.inl (by simpa using ho))
    simpa only [Heb.anY, Heb.anM, Heb.anA, Heb.anE, e, if_false, Bool.false_eq_true] using this
end Go.Proofs.Ytpoehjnhinapoaa
