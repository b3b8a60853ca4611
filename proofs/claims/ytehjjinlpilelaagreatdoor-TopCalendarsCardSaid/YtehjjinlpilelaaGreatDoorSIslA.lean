/- Contracts of the small functions of package islamic: leap years, lengths, the first day of a year. No conditions. -/
import Derived.Test.YtehjjinlpilelaaGreatDoorMa
import Derived.Test.YtehjjinlpilelaaGreatDoorMb
namespace Isl
theorem cnt_take (l : List Int) (p : Int) (k : Nat) (h : k < l.length) : cnt (l.take (k + 1)) p = cnt (l.take k) p + (if l.getD k 0 < p then 1 else 0) := by
  unfold cnt
  rw [List.take_succ_eq_append_getElem h, List.filter_append, List.length_append]
  have e : l.getD k 0 = l[k] := by simp [List.getD, h]
  rw [e]
  by_cases q : l[k] < p <;> simp [q]
theorem cnt_le (l : List Int) (p : Int) (k : Nat) : 0 ≤ cnt (l.take k) p ∧ cnt (l.take k) p ≤ k := by
  unfold cnt
  have h := List.length_filter_le (fun x => decide (x < p)) (l.take k)
  have h2 := List.length_take_le k l
  omega
theorem leapsL_len (k : Int) : (leapsL k).length = 11 := by unfold leapsL; split <;> (try rfl); split <;> (try rfl); split <;> rfl
end Isl
namespace Go.Proofs.YtehjjinlpilelaaGreatDoor
open Go.ChangeShapes Go.WideShapes Go.ChangeAt Go.RowKit

/-- block b holds the integers xs -/
def Row (w : World) (b : Nat) (xs : List Int) : Prop := b < w.heap.size ∧ ∀ i : Nat, i < xs.length → w.cell? ⟨b, i, none⟩ = some (.int .i64 (xs.getD i 0))
theorem Row.later {w w' : World} {b : Nat} {xs : List Int} (h : Row w b xs) (hb : Below w.heap.size w w') : Row w' b xs :=
  ⟨Nat.lt_of_lt_of_le h.1 hb.size, fun i hi => keep1 hb h.1 (h.2 i hi)⟩

theorem ivalid_any (k : Int) (w : World) :
    Calls Tryz.prog 64 #[.int .i64 k] w fun e w' => e = .returned (.bool (Isl.kB k)) ∧ w = w' := by
  have hl : Isl.kB k = (decide (1 ≤ k) && decide (k ≤ 4)) := by rw [Bool.eq_iff_iff]; simp [Isl.kB]
  rw [hl]; clear hl
  by_cases h1 : 1 ≤ k
  · go_enter Tryz.func64, Tryz.ntmps64
    go_wp2
    go_ret
    exact ⟨by simp [h1], rfl⟩
  · go_enter Tryz.func64, Tryz.ntmps64
    go_wp2
    go_ret
    exact ⟨by simp; omega, rfl⟩
theorem iyear_any (y : Int) (w : World) :
    Calls Tryz.prog 96 #[.int .i64 y] w fun e w' => e = .returned (.bool (Isl.yB y)) ∧ w = w' := by
  have hl : Isl.yB y = (decide (1 ≤ y) && decide (y ≤ 9600)) := by rw [Bool.eq_iff_iff]; simp [Isl.yB]
  rw [hl]; clear hl
  by_cases h1 : 1 ≤ y
  · go_enter Tryz.func96, Tryz.ntmps96
    go_wp2
    go_ret
    exact ⟨by simp [h1], rfl⟩
  · go_enter Tryz.func96, Tryz.ntmps96
    go_wp2
    go_ret
    exact ⟨by simp; omega, rfl⟩
theorem iplace_any (y : Int) (w : World) (h1 : 1 ≤ y) (h2 : y ≤ 100000) :
    Calls Tryz.prog 67 #[.int .i64 y] w fun e w' => e = .returned (.int .i64 (Isl.place y)) ∧ w = w' := by
  go_enter Tryz.func67, Tryz.ntmps67
  go_wp2
  go_ret
  exact ⟨rfl, rfl⟩
theorem ibefore_any (m : Int) (w : World) (h1 : 1 ≤ m) (h2 : m ≤ 13) :
    Calls Tryz.prog 66 #[.int .i64 m] w fun e w' => e = .returned (.int .i64 (Isl.before m)) ∧ w = w' := by
  go_enter Tryz.func66, Tryz.ntmps66
  go_wp2
  go_ret
  exact ⟨rfl, rfl⟩

def LeapsOut (k : Int) (w : World) (e : Ending) (w' : World) : Prop := ∃ b, e = .returned (.slice (some ⟨b, 0, none⟩) 11 11) ∧ Row w' b (Isl.leapsL k) ∧ Below w.heap.size w w'
theorem ten_one {i : Nat} (h : i < 11) : i = 0 ∨ i = 1 ∨ i = 2 ∨ i = 3 ∨ i = 4 ∨ i = 5 ∨ i = 6 ∨ i = 7 ∨ i = 8 ∨ i = 9 ∨ i = 10 := by omega
set_option maxHeartbeats 1000000 in
theorem ileaps_any (k : Int) (w : World) (hk : Isl.kB k = true) :
    Calls Tryz.prog 95 #[.int .i64 k] w (LeapsOut k w) := by
  rcases Isl.kinds hk with rfl | rfl | rfl | rfl
  all_goals
    go_enter Tryz.func95, Tryz.ntmps95
    go_wp2
    go_ret
    refine ⟨_, rfl, ⟨by simp; try omega, fun i hi => ?_⟩, by go_grown⟩
    have hi' : i < 11 := hi
    rcases ten_one hi' with rfl | rfl | rfl | rfl | rfl | rfl | rfl | rfl | rfl | rfl | rfl <;> simp [go_sem, Isl.leapsL]

def IndexOut (xs : List Int) (v : Int) (w : World) (e : Ending) (w' : World) : Prop := ∃ r : Int, e = .returned (.int .i64 r) ∧ (0 ≤ r ↔ v ∈ xs) ∧ w = w'
set_option maxHeartbeats 400000 in
theorem index_any (b cap : Nat) (xs : List Int) (v : Int) (w : World) (h : Row w b xs) (hl : xs.length ≤ 1000) :
    Calls Tryz.prog 117 #[.slice (some ⟨b, 0, none⟩) xs.length cap, .int .i64 v] w (IndexOut xs v w) := by
  have hH := Lib.hid h
  clear h
  go_enter Tryz.func117, Tryz.ntmps117
  go_wp2
  go_loop [8] (fun t => ∃ k : Nat, k ≤ xs.length ∧ t = .int .i64 k ∧ Hid (∀ j, j < k → xs.getD j 0 ≠ v)) (fun t => xs.length - (intOf t).toNat)
  case atStart => exact ⟨0, Nat.zero_le _, rfl, fun j hj => absurd hj (by omega)⟩
  case round =>
    obtain ⟨k, hk, rfl, hno⟩ := hrel
    by_cases hlt : k < xs.length
    · have hc := hH.out.2 k hlt
      by_cases hv : xs.getD k 0 = v
      · rw [hv] at hc
        go_wp2
        go_ret
        refine ⟨k, rfl, ⟨fun _ => ?_, fun _ => by omega⟩, rfl⟩
        rw [← hv]; simp only [List.getD, List.getElem?_eq_getElem hlt, Option.getD_some]; exact List.getElem_mem hlt
      · generalize hx : xs.getD k 0 = x at hc hv
        have hv' : (v == x) = false := by simpa using fun e => hv e.symm
        have hxH := Lib.hid hx
        have hvH := Lib.hid hv
        clear hx hv
        go_wp2
        go_round
        case rel => exact ⟨k + 1, by omega, by go_num, fun j hj => by
          rcases (show j < k ∨ j = k by omega) with q | q
          · exact hno.out j q
          · subst q; rw [hxH.out]; exact hvH.out⟩
        case measure => simp [intOf]; omega
    · obtain rfl : k = xs.length := by omega
      go_wp2
      go_ret
      refine ⟨-1, rfl, ⟨fun q => by omega, fun q => ?_⟩, rfl⟩
      obtain ⟨j, hj, e⟩ := List.mem_iff_getElem.1 q
      exact absurd (by simp [List.getD, hj, e]) (hno.out j hj)
theorem contains_any (b cap : Nat) (xs : List Int) (v : Int) (w : World) (h : Row w b xs) (hl : xs.length ≤ 1000) :
    Calls Tryz.prog 110 #[.slice (some ⟨b, 0, none⟩) xs.length cap, .int .i64 v] w fun e w' => e = .returned (.bool (xs.contains v)) ∧ w = w' := by
  go_enter Tryz.func110, Tryz.ntmps110
  go_wp2_with (go_at_call 117; refine (index_any _ _ _ _ _ h hl).mono ?_; rintro e w' ⟨r, rfl, hr, rfl⟩; have hrH := Lib.hid hr; clear hr)
  go_ret
  have h2 : xs.contains v = decide (0 ≤ r) := by rw [Bool.eq_iff_iff]; simp [hrH.out]
  rw [h2]
  exact ⟨rfl, rfl⟩
end Go.Proofs.YtehjjinlpilelaaGreatDoor
