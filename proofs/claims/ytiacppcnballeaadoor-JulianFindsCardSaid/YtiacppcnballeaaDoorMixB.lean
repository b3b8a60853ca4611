/- Contracts of julian.Switch, Mixed and MixedDay, and of the reference's MixedDay. Condition: the table of lengths, where julian's functions read it. -/
import Derived.Test.YtiacppcnballeaaDoorMix
namespace Go.Proofs.YtiacppcnballeaaDoor
open Go.ChangeShapes Go.WideShapes Go.ChangeAt Go.RowKit

theorem jswitch_any (n : Int) (w : World) :
    Calls Tryd.prog 28 #[.int .i64 n] w fun e w' => e = .returned (.agg #[.int .i64 n]) ∧ Below w.heap.size w w' := by
  go_enter Tryd.func28, Tryd.ntmps28
  go_wp2
  exact bodyPost_ret (v := .agg #[.int .i64 n]) (by simp [results, Tryd.results28, go_sem]) rfl ⟨rfl, by go_grown⟩

def refB (f : Int) : Bool := decide (-719162 ≤ f ∧ f ≤ 2932897)
theorem jright_any (f : Int) (w : World) :
    Calls Tryd.prog 43 #[.agg #[.int .i64 f]] w fun e w' => e = .returned (.bool (refB f)) ∧ Below w.heap.size w w' := by
  have hl : refB f = (decide (-719162 ≤ f) && decide (f ≤ 2932897)) := by rw [Bool.eq_iff_iff]; simp [refB]
  rw [hl]; clear hl
  by_cases h1 : -719162 ≤ f
  · go_enter Tryd.func43, Tryd.ntmps43
    go_wp2
    go_ret
    exact ⟨by simp [h1], by go_grown⟩
  · go_enter Tryd.func43, Tryd.ntmps43
    go_wp2
    go_ret
    exact ⟨by simp; omega, by go_grown⟩

/-- a block with one cell, kept over a call -/
theorem one_born {w w1 : World} {x : Value} {t : TypeId} (hb : Below (w.alloc (.cells #[x] t)).heap.size (w.alloc (.cells #[x] t)) w1) : w1.cell? ⟨w.heap.size, 0, none⟩ = some x ∧ w.heap.size < w1.heap.size :=
  ⟨by rw [hb.cell (by simp)]; simp, Nat.lt_of_lt_of_le (by simp) hb.size⟩

noncomputable def mixY (f n : Int) : Int := if refB f then if n < f then Cal.yJ n else Cal.yG n else 0
noncomputable def mixM (f n : Int) : Int := if refB f then if n < f then Cal.mJ n else Cal.mG n else 0
noncomputable def mixA (f n : Int) : Int := if refB f then if n < f then Cal.aJ n else Cal.aG n else 0
def mixE (f n : Int) : Int := if refB f then Cal.inE n else 1
set_option maxHeartbeats 1000000 in
theorem jmixed_any (f n : Int) (w : World) (ht : Tab w) :
    Calls Tryd.prog 29 #[.agg #[.int .i64 f], .int .i64 n] w fun e w' => e = .returned (.tuple #[.agg #[.int .i64 (mixY f n), .int .i64 (mixM f n), .int .i64 (mixA f n)], .int .i64 (mixE f n)]) ∧ Below w.heap.size w w' := by
  by_cases hr : refB f = true
  · by_cases hn : n < f
    · have a1 : mixY f n = Cal.yJ n := by simp [mixY, hr, hn]
      have a2 : mixM f n = Cal.mJ n := by simp [mixM, hr, hn]
      have a3 : mixA f n = Cal.aJ n := by simp [mixA, hr, hn]
      have a4 : mixE f n = Cal.inE n := by simp [mixE, hr]
      rw [a1, a2, a3, a4]; clear a1 a2 a3 a4
      go_enter Tryd.func29, Tryd.ntmps29
      go_wp2_with fail
      refine (jright_any _ _).mono ?_; rintro e w1 ⟨rfl, hb1⟩
      have hb := below_box hb1
      have hR : Box3 w1 (w.heap.size + 1) (.int .i64 0) (.int .i64 0) (.int .i64 0) := by have := Box3.born hb1; simpa using this
      have hF : w1.cell? ⟨w.heap.size, 0, none⟩ = some (.int .i64 f) := by rw [hb.cell (by simp)]; simp
      have hbw := below_box hb
      have ht1 := ht.later hbw
      have hRH := Lib.hid hR
      clear hb1 hb hR
      go_wp2_with fail
      refine (jdate_any _ _ ht1).mono ?_; rintro e w2 ⟨rfl, hb2⟩
      obtain ⟨_, r0, r1, r2, g0, g1, g2⟩ := hRH.out.later hb2
      go_wp2_with fail
      refine bodyPost_ret (v := .tuple #[.agg #[.int .i64 (Cal.yJ n), .int .i64 (Cal.mJ n), .int .i64 (Cal.aJ n)], .int .i64 (Cal.inE n)]) (by simp [results, Tryd.results29, go_sem, r0, r1, r2]) rfl ⟨rfl, ?_⟩
      exact (below_then hbw hb2).trans (by go_grown)
    · have a1 : mixY f n = Cal.yG n := by simp [mixY, hr, hn]
      have a2 : mixM f n = Cal.mG n := by simp [mixM, hr, hn]
      have a3 : mixA f n = Cal.aG n := by simp [mixA, hr, hn]
      have a4 : mixE f n = Cal.inE n := by simp [mixE, hr]
      rw [a1, a2, a3, a4]; clear a1 a2 a3 a4
      go_enter Tryd.func29, Tryd.ntmps29
      go_wp2_with fail
      refine (jright_any _ _).mono ?_; rintro e w1 ⟨rfl, hb1⟩
      have hb := below_box hb1
      have hR : Box3 w1 (w.heap.size + 1) (.int .i64 0) (.int .i64 0) (.int .i64 0) := by have := Box3.born hb1; simpa using this
      have hF : w1.cell? ⟨w.heap.size, 0, none⟩ = some (.int .i64 f) := by rw [hb.cell (by simp)]; simp
      have hbw := below_box hb
      have hRH := Lib.hid hR
      clear hb1 hb hR
      go_wp2_with fail
      refine (cdate_any _ _).mono ?_; rintro e w2 ⟨rfl, hb2⟩
      obtain ⟨_, r0, r1, r2, g0, g1, g2⟩ := hRH.out.later hb2
      go_wp2_with fail
      refine bodyPost_ret (v := .tuple #[.agg #[.int .i64 (Cal.yG n), .int .i64 (Cal.mG n), .int .i64 (Cal.aG n)], .int .i64 (Cal.inE n)]) (by simp [results, Tryd.results29, go_sem, r0, r1, r2]) rfl ⟨rfl, ?_⟩
      exact (below_then hbw hb2).trans (by go_grown)
  · have a1 : mixY f n = 0 := by simp [mixY, hr]
    have a2 : mixM f n = 0 := by simp [mixM, hr]
    have a3 : mixA f n = 0 := by simp [mixA, hr]
    have a4 : mixE f n = 1 := by simp [mixE, hr]
    have hr' : refB f = false := by simpa using hr
    rw [a1, a2, a3, a4]; clear a1 a2 a3 a4 hr
    go_enter Tryd.func29, Tryd.ntmps29
    go_wp2_with fail
    refine (jright_any _ _).mono ?_; rintro e w1 ⟨rfl, hb1⟩
    obtain ⟨_, r0, r1, r2, g0, g1, g2⟩ := (show Box3 w1 (w.heap.size + 1) (.int .i64 0) (.int .i64 0) (.int .i64 0) by have := Box3.born hb1; simpa using this)
    have hb := below_box (below_box hb1)
    clear hb1
    go_wp2_with fail
    refine bodyPost_ret (v := .tuple #[.agg #[.int .i64 0, .int .i64 0, .int .i64 0], .int .i64 1]) (by simp [results, Tryd.results29, go_sem, r0, r1, r2]) rfl ⟨rfl, ?_⟩
    exact hb.trans (by go_grown)

/-- MixedDay's results -/
def mdN (f y m d : Int) : Int :=
  if refB f && (Cal.okJb y m d || Cal.okGb y m d) then
    if Cal.okJb y m d && Cal.inB (Cal.dayJ y m d) && decide (Cal.dayJ y m d < f) then Cal.dayJ y m d
    else if Cal.okGb y m d && decide (f ≤ Cal.dayG y m d) then Cal.dayG y m d else 0
  else 0
def mdE (f y m d : Int) : Int :=
  if refB f && (Cal.okJb y m d || Cal.okGb y m d) then
    if Cal.okJb y m d && Cal.inB (Cal.dayJ y m d) && decide (Cal.dayJ y m d < f) then 0
    else if Cal.okGb y m d && decide (f ≤ Cal.dayG y m d) then 0 else 7
  else 1
end Go.Proofs.YtiacppcnballeaaDoor
