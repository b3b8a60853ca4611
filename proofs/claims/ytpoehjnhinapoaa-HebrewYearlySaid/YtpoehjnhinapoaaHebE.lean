/- Contracts of the first day of a month, of package hebrew and of its reference. No conditions but that the month is one. -/
import Derived.Test.YtpoehjnhinapoaaHebD
import Derived.Deep.LoopGhost
namespace Heb
theorem cum_lenc {y : Int} (hy : yB y = true) {k : Nat} (h : k < nm (lp y)) : cumA (lp y) (ylen y % 10) k + lenc y (ordF (lp y) k) = cumA (lp y) (ylen y % 10) (k + 1) := by
  obtain ⟨o1, o2, _⟩ := ord_of h
  rw [nm_mths] at o2
  have : lenc y (ordF (lp y) k) = len y (ordF (lp y) k) := by unfold lenc mthc; rw [if_pos hy, if_pos ⟨o1, o2⟩]
  rw [this]; rfl
theorem ord_ne {l : Bool} {m : Int} {k : Nat} (h : k < posA l m) (h2 : posA l m < nm l) : ordF l k ≠ m := by
  intro e
  have := (ord_of (l := l) (k := k) (by omega)).2.2
  rw [e] at this; omega
end Heb
namespace Go.Proofs.Ytpoehjnhinapoaa
open Go.ChangeShapes Go.WideShapes Go.ChangeAt Go.RowKit

theorem below_draw {w w1 : World} {k : Nat} (h : Below (w.drewN k).heap.size (w.drewN k) w1) : Below w.heap.size w w1 := ⟨h.os, h.tape, h.output, h.size, h.block⟩
/-- the order of the months lies in block b, and nothing that was there has turned -/
def FstRel (w : World) (b : Nat) (xs : List Int) (wr : World) (p : Prop) : Prop := Below w.heap.size w wr ∧ Ints wr b xs ∧ p
theorem ints_cell {w : World} {b : Nat} {l : Bool} (h : Ints w b (Heb.ordL l)) {k : Nat} (hk : k < Heb.nm l) : w.cell? ⟨b, k, none⟩ = some (.int .i64 (Heb.ordF l k)) := h.2 k (by rw [Heb.ordL_len]; exact hk)

set_option maxHeartbeats 1000000 in
theorem hfirst_any (y m : Int) (w : World) (hy : Heb.yB y = true) (m1 : 1 ≤ m) (m2 : m ≤ Heb.mths y) :
    Calls Try.prog 40 #[.int .i64 y, .int .i64 m] w fun e w' => e = .returned (.int .i64 (Heb.bg y + Heb.off y m)) ∧ Below w.heap.size w w' := by
  obtain ⟨h1, h2⟩ := Heb.yB_iff.1 hy
  have hyH := Lib.hid hy
  have hp := Heb.pos_of (l := Heb.lp y) m1 (by rw [Heb.nm_mths]; exact m2)
  obtain ⟨p1, p2⟩ := hp
  have hN : Heb.nm (Heb.lp y) ≤ 13 := by cases Heb.lp y <;> decide
  have hO : Heb.off y m = Heb.cumA (Heb.lp y) (Heb.ylen y % 10) (Heb.posA (Heb.lp y) m) := rfl
  have hS := Lib.hid (fun k (h : k < Heb.nm (Heb.lp y)) => Heb.cum_lenc hy h)
  have hB := Lib.hid (fun k => Heb.cum_bd (Heb.lp y) (Heb.ylen y % 10) k)
  have hNe := Lib.hid (fun k (h : k < Heb.posA (Heb.lp y) m) => Heb.ord_ne h p1)
  have hsz := Heb.bg_size (y := y) (by omega) (by omega)
  have hlc := fun k => Heb.lenc_bd y (Heb.ordF (Heb.lp y) k)
  have p2H := Lib.hid p2
  have hz : Heb.cumA (Heb.lp y) (Heb.ylen y % 10) 0 = 0 := rfl
  have hzH := Lib.hid hz
  rw [hO]
  clear hy p2 hz hO
  generalize Heb.posA (Heb.lp y) m = P at *
  generalize Heb.cumA (Heb.lp y) (Heb.ylen y % 10) = C at *
  go_enter Try.func40, Try.ntmps40
  go_wp2_with (first | (go_at_call 45; refine (hbegin_any _ _ (by omega) (by omega)).mono ?_; rintro e w' ⟨rfl, kd, rfl⟩) | (go_at_call 57; refine (horder_any _ _ hyH.out).mono ?_; rintro e w' ⟨b, cap, rfl, hI, hbo⟩; have hIH := Lib.hid hI; clear hI))
  have hb0 : Below w.heap.size w w' := by first | exact below_draw hbo | exact hbo
  have hcl := Lib.hid (fun (wr : World) (h : Ints wr b (Heb.ordL (Heb.lp y))) k (hk : k < Heb.nm (Heb.lp y)) => ints_cell h hk)
  clear hbo
  generalize Heb.ordL (Heb.lp y) = L at *
  generalize Heb.ordF (Heb.lp y) = F at *
  generalize Heb.nm (Heb.lp y) = N at *
  go_loopg [5, 13] 14 (fun g t5 t7 wr => ∃ k : Nat, k ≤ P ∧ t7 = .int .i64 k ∧ t5 = .int .i64 (Heb.bg y + C k) ∧ FstRel w b L wr (14 - k ≤ g))
  case atStart => exact ⟨0, by omega, rfl, val_int (by rw [hzH.out]; omega), hb0, hIH.out, by omega⟩
  case round =>
    clear hb0 hIH
    obtain ⟨k, hk, rfl, rfl, hb, hI, hg⟩ := hrel
    have hcb := hB.out k
    have hc := hcl.out wr hI k (by omega)
    have hIH := Lib.hid hI
    clear hI
    by_cases hlt : k < P
    · have hne : (F k == m) = false := by simpa using hNe.out k hlt
      have hne2 : (F k != m) = true := by simpa using hNe.out k hlt
      have hcb2 := hB.out (k + 1)
      have hs := hS.out k (by omega)
      have hlk := hlc k
      have hsH := Lib.hid hs
      clear hs hlc
      generalize F k = x at *
      go_wp2_with (first | (go_at_call 28; refine (hlength_any _ _ _).mono ?_; rintro e w' ⟨rfl, kd, rfl⟩))
      go_roundg (gk - 1)
      case measure => omega
      case rel => exact ⟨k + 1, by omega, by go_num, val_int (by rw [← hsH.out]; omega), below_drewN hb _, hIH.out.drewN _, by omega⟩
    · obtain rfl : k = P := by omega
      rw [p2H.out] at hc
      clear hlc
      go_wp2
      go_ret
      exact ⟨rfl, hb⟩

set_option maxHeartbeats 1000000 in
theorem rhfirst_any (y m : Int) (w : World) (hy : Heb.yB y = true) (m1 : 1 ≤ m) (m2 : m ≤ Heb.mths y) :
    Calls Try.prog 41 #[.int .i64 y, .int .i64 m] w fun e w' => e = .returned (.int .i64 (Heb.bg y + Heb.off y m)) ∧ Below w.heap.size w w' := by
  obtain ⟨h1, h2⟩ := Heb.yB_iff.1 hy
  have hyH := Lib.hid hy
  have hp := Heb.pos_of (l := Heb.lp y) m1 (by rw [Heb.nm_mths]; exact m2)
  obtain ⟨p1, p2⟩ := hp
  have hN : Heb.nm (Heb.lp y) ≤ 13 := by cases Heb.lp y <;> decide
  have hO : Heb.off y m = Heb.cumA (Heb.lp y) (Heb.ylen y % 10) (Heb.posA (Heb.lp y) m) := rfl
  have hS := Lib.hid (fun k (h : k < Heb.nm (Heb.lp y)) => Heb.cum_lenc hy h)
  have hB := Lib.hid (fun k => Heb.cum_bd (Heb.lp y) (Heb.ylen y % 10) k)
  have hNe := Lib.hid (fun k (h : k < Heb.posA (Heb.lp y) m) => Heb.ord_ne h p1)
  have hsz := Heb.bg_size (y := y) (by omega) (by omega)
  have hlc := fun k => Heb.lenc_bd y (Heb.ordF (Heb.lp y) k)
  have p2H := Lib.hid p2
  have hz : Heb.cumA (Heb.lp y) (Heb.ylen y % 10) 0 = 0 := rfl
  have hzH := Lib.hid hz
  rw [hO]
  clear hy p2 hz hO
  generalize Heb.posA (Heb.lp y) m = P at *
  generalize Heb.cumA (Heb.lp y) (Heb.ylen y % 10) = C at *
  go_enter Try.func41, Try.ntmps41
  go_wp2_with (first | (go_at_call 27; refine (rhnew_any _ _ (by omega) (by omega)).mono ?_; rintro e w' ⟨rfl, rfl⟩) | (go_at_call 58; refine (rhorder_any _ _ hyH.out).mono ?_; rintro e w' ⟨b, cap, rfl, hI, hbo⟩; have hIH := Lib.hid hI; clear hI))
  have hb0 : Below w.heap.size w w' := by first | exact below_draw hbo | exact hbo
  have hcl := Lib.hid (fun (wr : World) (h : Ints wr b (Heb.ordL (Heb.lp y))) k (hk : k < Heb.nm (Heb.lp y)) => ints_cell h hk)
  clear hbo
  generalize Heb.ordL (Heb.lp y) = L at *
  generalize Heb.ordF (Heb.lp y) = F at *
  generalize Heb.nm (Heb.lp y) = N at *
  go_loopg [5, 7] 14 (fun g t5 t7 wr => ∃ k : Nat, k ≤ P ∧ t7 = .int .i64 k ∧ t5 = .int .i64 (Heb.bg y + C k) ∧ FstRel w b L wr (14 - k ≤ g))
  case atStart => exact ⟨0, by omega, rfl, val_int (by rw [hzH.out]; omega), hb0, hIH.out, by omega⟩
  case round =>
    clear hb0 hIH
    obtain ⟨k, hk, rfl, rfl, hb, hI, hg⟩ := hrel
    have hcb := hB.out k
    have hc := hcl.out wr hI k (by omega)
    have hIH := Lib.hid hI
    clear hI
    by_cases hlt : k < P
    · have hne : (F k == m) = false := by simpa using hNe.out k hlt
      have hne2 : (F k != m) = true := by simpa using hNe.out k hlt
      have hcb2 := hB.out (k + 1)
      have hs := hS.out k (by omega)
      have hlk := hlc k
      have hsH := Lib.hid hs
      clear hs hlc
      generalize F k = x at *
      go_wp2_with (first | (go_at_call 32; refine (rhlength_any _ _ _).mono ?_; rintro e w' ⟨rfl, rfl⟩))
      go_roundg (gk - 1)
      case measure => omega
      case rel => exact ⟨k + 1, by omega, by go_num, val_int (by rw [← hsH.out]; omega), hb, hIH.out, by omega⟩
    · obtain rfl : k = P := by omega
      rw [p2H.out] at hc
      clear hlc
      go_wp2
      go_ret
      exact ⟨rfl, hb⟩
end Go.Proofs.Ytpoehjnhinapoaa
