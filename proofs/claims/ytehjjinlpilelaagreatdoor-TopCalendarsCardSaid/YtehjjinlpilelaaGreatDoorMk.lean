/- Contracts of granule.least, interval.Valid and granule.ascending. Conditions: a calendar of granules that repeats, and sizes. -/
import Derived.Deep.Cut
import Derived.Deep.CutRange
import Derived.Deep.RegionHeld3
import Derived.Test.YtehjjinlpilelaaGreatDoorMa
import Derived.Test.YtehjjinlpilelaaGreatDoorMb
namespace Go.Proofs.YtehjjinlpilelaaGreatDoor
open Go.ChangeShapes Go.WideShapes Go.ChangeAt Go.RowKit

theorem below_undrewG {w w' : World} (h : Below w.drew.heap.size w.drew w') : Below w.heap.size w w' := ⟨h.os, h.tape, h.output, h.size, h.block⟩
theorem vline_any (x : Int) (w : World) (h1 : -4398046511104 ≤ x) (h2 : x ≤ 4398046511104) :
    Calls Tryz.prog 114 #[.int .i64 x] w fun e w' => e = .returned (.bool true) ∧ w = w' := by
  go_enter Tryz.func114, Tryz.ntmps114
  go_wp2
  go_ret
  exact ⟨by simp; try omega, rfl⟩
theorem gline_any (x : Int) (w : World) (h1 : -4398046511104 ≤ x) (h2 : x ≤ 4398046511104) :
    Calls Tryz.prog 69 #[.int .i64 x] w fun e w' => e = .returned (.bool true) ∧ w = w' := by
  go_enter Tryz.func69, Tryz.ntmps69
  go_wp2
  go_ret
  exact ⟨by simp; try omega, rfl⟩
theorem ghalf_any (x : Int) (w : World) (h1 : -2199023255552 ≤ x) (h2 : x ≤ 2199023255552) :
    Calls Tryz.prog 86 #[.int .i64 x] w fun e w' => e = .returned (.bool true) ∧ w = w' := by
  go_enter Tryz.func86, Tryz.ntmps86
  go_wp2
  go_ret
  exact ⟨by simp; try omega, rfl⟩
theorem vvalid_any (a b : Int) (w : World) (h1 : -4398046511104 ≤ a) (h2 : b ≤ 4398046511104) (h : a < b) :
    Calls Tryz.prog 105 #[.agg #[.int .i64 a, .int .i64 b]] w fun e w' => e = .returned (.bool true) ∧ Below w.heap.size w w' := by
  go_enter Tryz.func105, Tryz.ntmps105
  go_wp2_with (first | (go_at_call 114; refine (vline_any _ _ (by omega) (by omega)).mono ?_; rintro e w' ⟨rfl, rfl⟩))
  go_ret
  exact ⟨by simp; try omega, (Below.refl _ _).alloc (Nat.le_refl _) _⟩
/-- the cells of a span of the list -/
theorem row_at {w : World} {b : Nat} {f : Int → Int} {n i : Nat} (h : Ints w b (Gra.sp f n)) (hi : i < n) : w.cell? ⟨b, i * 2, none⟩ = some (.int .i64 (f i)) ∧ w.cell? ⟨b, i * 2 + 1, none⟩ = some (.int .i64 (f (i + 1))) := by
  have hl := Gra.sp_len f n
  obtain ⟨a, c⟩ := Gra.sp_get f n i hi
  constructor
  · have := h.2 (i * 2) (by omega)
    rw [Nat.mul_comm i 2] at this ⊢; rw [a] at this; exact this
  · have := h.2 (i * 2 + 1) (by omega)
    rw [Nat.mul_comm i 2] at this ⊢; rw [c] at this; exact this
set_option maxHeartbeats 4000000 in
set_option maxRecDepth 100000 in
/-- no smaller period is found -/
theorem gleast_any (f : Int → Int) (n : Nat) (P : Int) (b cap : Nat) (w : World) (g : Gra.Gr f n P) (hI : Ints w b (Gra.sp f n)) :
    Calls Tryz.prog 88 #[.int .i64 P, .slice (some ⟨b, 0, none⟩) n cap] w fun e w' => e = .returned (.int .i64 n) ∧ Below w.heap.size w w' := by
  have gH := Lib.hid g
  have hIH := Lib.hid hI
  have n1 := g.n1
  have n2 := g.n2
  have p1 := g.p1
  have p2 := g.p2
  clear g hI
  have hn0 : ((n : Int) == 0) = false := by simp; omega
  go_enter Tryz.func88, Tryz.ntmps88
  go_wp2_with fail
  go_loopg [6] 4802 (fun g t wr => ∃ m : Nat, 1 ≤ m ∧ m ≤ n ∧ t = .int .i64 m ∧ Below w.heap.size w wr ∧ n - m ≤ g)
  case atStart => exact ⟨1, by omega, by omega, rfl, Below.refl _ _, by omega⟩
  case round =>
    obtain ⟨m, m1, m2, rfl, hb, hg⟩ := hrel
    by_cases hlt : m < n
    · have e1 : Int.tmod n m = ((n % m : Nat) : Int) := by rw [Int.tmod_eq_emod_of_nonneg (by omega)]; simp
      have e2 : Int.tdiv n m = ((n / m : Nat) : Int) := by rw [Int.tdiv_eq_ediv_of_nonneg (by omega)]; simp
      have hm0 : ((m : Int) == 0) = false := by simp; omega
      have hnm : 1 ≤ n / m := Nat.div_pos m2 (by omega)
      have hnm2 : n / m ≤ n := Nat.div_le_self _ _
      have e3 : Int.tmod P ((n / m : Nat) : Int) = P % ((n / m : Nat) : Int) := Int.tmod_eq_emod_of_nonneg (by omega)
      have e4 : Int.tdiv P ((n / m : Nat) : Int) = P / ((n / m : Nat) : Int) := Int.tdiv_eq_ediv_of_nonneg (by omega)
      have hle := gH.out.least m m1 hlt
      obtain ⟨r, hr⟩ : ∃ r, n % m = r := ⟨_, rfl⟩
      obtain ⟨q, hq⟩ : ∃ q, n / m = q := ⟨_, rfl⟩
      rw [hr] at e1 hle
      rw [hq] at e2 e3 e4 hnm hnm2 hle
      have hq0 : ((q : Int) == 0) = false := by simp; omega
      have rqH := Lib.hid (And.intro hr hq)
      clear hr hq
      by_cases hr0 : r = 0
      · by_cases hP0 : P % (q : Int) = 0
        · have hne := hle hr0 hP0
          have hPb : (P % (q : Int) != 0) = false := by simpa using hP0
          have hrb : ((r : Int) != 0) = false := by simp; omega
          obtain ⟨c1, c2⟩ := row_at hIH.out hlt
          obtain ⟨d1, d2⟩ := row_at hIH.out n1
          have z0 := gH.out.zero
          have bm := gH.out.bd (i := m) (by omega) (by omega)
          have bm1 := gH.out.bd (i := m + 1) (by omega) (by omega)
          have b1 := gH.out.bd (i := 1) (by omega) (by omega)
          have hD : 0 ≤ P / (q : Int) ∧ P / (q : Int) ≤ P := ⟨Int.ediv_nonneg (by omega) (by omega), Int.ediv_le_self _ (by omega)⟩
          simp only [Nat.zero_mul, Nat.zero_add, Int.zero_add, Int.natCast_zero] at d1 d2
          rw [z0] at d1
          generalize f (m : Int) = FM at *
          generalize f ((m : Int) + 1) = FN at *
          generalize f 1 = F1 at *
          generalize P / (q : Int) = D at *
          have hneb : (FM == D) = false := by simpa using hne
          have c1 := keep1 hb hIH.out.1 c1
          have c2 := keep1 hb hIH.out.1 c2
          have d1 := keep1 hb hIH.out.1 d1
          have d2 := keep1 hb hIH.out.1 d2
          clear hle hr0 hne z0
          obtain ⟨gko, hgo⟩ : ∃ x, x = gk := ⟨_, rfl⟩
          go_wp2_with fail
          go_loopg [8, 9] 4 (fun g t8 t9 wx => (t9 = .int .i64 0 ∧ t8 = .bool true ∧ wr = wx ∧ 2 ≤ g) ∨ (t9 = .int .i64 1 ∧ t8 = .bool false ∧ Below w.heap.size w wx ∧ 1 ≤ g))
          case atStart => exact Or.inl ⟨rfl, rfl, rfl, by omega⟩
          case round =>
            rcases hrel with ⟨rfl, rfl, rfl, hg2⟩ | ⟨rfl, rfl, hb2, hg2⟩
            · go_wp2_with fail
              go_region
              all_goals (try go_wp2_with fail)
              go_roundg (gk - 1)
              case measure => omega
              case rel => exact Or.inr ⟨rfl, by simp, below_drewN hb 1, by omega⟩
            · subst hgo
              by_cases h1 : (1 : Int) + (m : Int) < n
              all_goals
                go_wp2_with fail
                go_roundg (gko - 1)
                case measure => omega
                case rel => exact ⟨m + 1, by omega, by omega, by go_num, hb2, by omega⟩
        · have hPb : (P % (q : Int) != 0) = true := by simpa using hP0
          have hrb : ((r : Int) != 0) = false := by simp; omega
          clear hle hr0
          go_wp2_with fail
          go_roundg (gk - 1)
          case measure => omega
          case rel => exact ⟨m + 1, by omega, by omega, by go_num, hb, by omega⟩
      · have hrb : ((r : Int) != 0) = true := by simp; omega
        clear hle
        go_wp2_with fail
        go_roundg (gk - 1)
        case measure => omega
        case rel => exact ⟨m + 1, by omega, by omega, by go_num, hb, by omega⟩
    · have e : m = n := by omega
      subst e
      go_wp2_with fail
      go_ret
      exact ⟨rfl, hb⟩
end Go.Proofs.YtehjjinlpilelaaGreatDoor
namespace Go.Proofs.YtehjjinlpilelaaGreatDoor
open Go.ChangeShapes Go.WideShapes Go.ChangeAt Go.RowKit

set_option maxHeartbeats 4000000 in
set_option maxRecDepth 100000 in
/-- the list ascends -/
theorem gascend_any (f : Int → Int) (n : Nat) (P : Int) (b cap : Nat) (w : World) (g : Gra.Gr f n P) (hI : Ints w b (Gra.sp f n)) :
    Calls Tryz.prog 87 #[.slice (some ⟨b, 0, none⟩) n cap] w fun e w' => e = .returned (.bool true) ∧ Below w.heap.size w w' := by
  have gH := Lib.hid g
  have hIH := Lib.hid hI
  have n1 := g.n1
  have n2 := g.n2
  have p2 := g.p2
  clear g hI
  have hn0 : ((n : Int) == 0) = false := by simp; omega
  go_enter Tryz.func87, Tryz.ntmps87
  go_wp2_with fail
  go_loopg [7] 4802 (fun g t wr => ∃ j : Nat, j ≤ n ∧ t = .int .i64 j ∧ Below w.heap.size w wr ∧ n - j ≤ g)
  case atStart => exact ⟨0, by omega, rfl, Below.refl _ _, by omega⟩
  case round =>
    obtain ⟨j, hj, rfl, hb, hg⟩ := hrel
    by_cases hlt : j < n
    · have hIr := hIH.out.later hb
      obtain ⟨c1, c2⟩ := row_at hIr hlt
      have b1 := gH.out.bd (i := j) (by omega) (by omega)
      have b2 := gH.out.bd (i := j + 1) (by omega) (by omega)
      have up := gH.out.up j
      obtain ⟨A, hA⟩ : ∃ A, f (j : Int) = A := ⟨_, rfl⟩
      obtain ⟨B, hB⟩ : ∃ B, f ((j : Int) + 1) = B := ⟨_, rfl⟩
      rw [hA] at c1 b1 up
      rw [hB] at c2 b2 up
      have hbn := hIr.1
      by_cases h0 : j = 0
      · subst h0
        clear hA hB
        have q0 : decide ((0 : Int) < 0) = false := by decide
        go_wp2_with fail
        refine wp_region_held_drew (S := fun w' => w'.cell? ⟨wr.heap.size, 0, none⟩ = some (.int .i64 A) ∧ w'.cell? ⟨wr.heap.size, 1, none⟩ = some (.int .i64 B)) (by kernel_rfl) (by constructor <;> simp) (fun hHeld => ?_)
        refine wpAnyH_take (i := 0) (v := ?_) (by simp only [List.getElem?_toArray, List.getElem?_cons_zero]; rfl) (by kernel_rfl) (by kernel_rfl) (by kernel_rfl) (by intro _ _ _ h; exact h) (Or.inl ⟨by rfl, ?_⟩) (by assumption) ?_
        rotate_left; · (intro w hSw; (try dsimp only at hSw); go_simp; try with_reducible rfl)
        simp only [Act.put, List.setIfInBounds_toArray, List.set_cons_zero, List.set_cons_succ]
        refine wpAnyH_ready (rs := [1]) (by kernel_rfl) (by simp) ?_
        refine AllReadyH.cons rfl (fun K hK => ?_) AllReadyH.nil
        go_simp
        refine (vvalid_any _ _ _ (by omega) (by omega) (by omega)).mono ?_; rintro e w9 ⟨rfl, hb9⟩
        go_wp2_with fail
        refine hK.out _ _ ⟨keep1 hb9 (by simp) hHeld.1, keep1 hb9 (by simp) hHeld.2⟩ (fun hHeld => ?_)
        clear hK K
        refine wpAnyH_take (i := 2) (v := ?_) (by simp only [List.getElem?_toArray, List.getElem?_cons_succ, List.getElem?_cons_zero]; rfl) (by kernel_rfl) (by kernel_rfl) (by kernel_rfl) (by intro _ _ _ h; exact h) (Or.inl ⟨by rfl, ?_⟩) (by assumption) ?_
        rotate_left; · (intro w hSw; (try dsimp only at hSw); go_simp; try with_reducible rfl)
        simp only [Act.put, List.setIfInBounds_toArray, List.set_cons_zero, List.set_cons_succ]
        refine wpAnyH_take (i := 3) (v := ?_) (by simp only [List.getElem?_toArray, List.getElem?_cons_succ, List.getElem?_cons_zero]; rfl) (by kernel_rfl) (by kernel_rfl) (by kernel_rfl) (by intro _ _ _ h; exact h) (Or.inl ⟨by rfl, ?_⟩) (by assumption) ?_
        rotate_left; · (intro w hSw; (try dsimp only at hSw); go_simp; try with_reducible rfl)
        simp only [Act.put, List.setIfInBounds_toArray, List.set_cons_zero, List.set_cons_succ]
        refine wpAnyH_take (i := 4) (v := ?_) (by simp only [List.getElem?_toArray, List.getElem?_cons_succ, List.getElem?_cons_zero]; rfl) (by kernel_rfl) (by kernel_rfl) (by kernel_rfl) (by intro _ _ _ h; exact h) (Or.inl ⟨by rfl, ?_⟩) (by assumption) ?_
        rotate_left; · (intro w hSw; (try dsimp only at hSw); go_simp; try with_reducible rfl)
        simp only [Act.put, List.setIfInBounds_toArray, List.set_cons_zero, List.set_cons_succ]
        refine wpAnyH_take (i := 5) (v := ?_) (by simp only [List.getElem?_toArray, List.getElem?_cons_succ, List.getElem?_cons_zero]; rfl) (by kernel_rfl) (by kernel_rfl) (by kernel_rfl) (by intro _ _ _ h; exact h) (Or.inl ⟨by rfl, ?_⟩) (by assumption) ?_
        rotate_left; · (intro w hSw; (try dsimp only at hSw); go_simp; try with_reducible rfl)
        simp only [Act.put, List.setIfInBounds_toArray, List.set_cons_zero, List.set_cons_succ]
        refine wpAnyH_take (i := 6) (v := ?_) (by simp only [List.getElem?_toArray, List.getElem?_cons_succ, List.getElem?_cons_zero]; rfl) (by kernel_rfl) (by kernel_rfl) (by kernel_rfl) (by intro _ _ _ h; exact h) (Or.inl ⟨by rfl, ?_⟩) (by assumption) ?_
        rotate_left; · (intro w hSw; (try dsimp only at hSw); go_simp; try with_reducible rfl)
        simp only [Act.put, List.setIfInBounds_toArray, List.set_cons_zero, List.set_cons_succ]
        refine wpAnyH_take (i := 7) (v := undef) (by simp only [List.getElem?_toArray, List.getElem?_cons_succ, List.getElem?_cons_zero]; rfl) (by kernel_rfl) (by kernel_rfl) (by kernel_rfl) (by intro _ _ _ h; exact h) (Or.inr ⟨by rfl, rfl⟩) (by assumption) ?_
        simp only [Act.put, List.setIfInBounds_toArray, List.set_cons_zero, List.set_cons_succ]
        refine wpAnyH_take (i := 8) (v := undef) (by simp only [List.getElem?_toArray, List.getElem?_cons_succ, List.getElem?_cons_zero]; rfl) (by kernel_rfl) (by kernel_rfl) (by kernel_rfl) (by intro _ _ _ h; exact h) (Or.inr ⟨by rfl, rfl⟩) (by assumption) ?_
        simp only [Act.put, List.setIfInBounds_toArray, List.set_cons_zero, List.set_cons_succ]
        refine wpAnyH_take (i := 9) (v := undef) (by simp only [List.getElem?_toArray, List.getElem?_cons_succ, List.getElem?_cons_zero]; rfl) (by kernel_rfl) (by kernel_rfl) (by kernel_rfl) (by intro _ _ _ h; exact h) (Or.inr ⟨by rfl, rfl⟩) (by assumption) ?_
        simp only [Act.put, List.setIfInBounds_toArray, List.set_cons_zero, List.set_cons_succ]
        refine wpAnyH_take (i := 10) (v := undef) (by simp only [List.getElem?_toArray, List.getElem?_cons_succ, List.getElem?_cons_zero]; rfl) (by kernel_rfl) (by kernel_rfl) (by kernel_rfl) (by intro _ _ _ h; exact h) (Or.inr ⟨by rfl, rfl⟩) (by assumption) ?_
        simp only [Act.put, List.setIfInBounds_toArray, List.set_cons_zero, List.set_cons_succ]
        refine wpAnyH_take (i := 11) (v := undef) (by simp only [List.getElem?_toArray, List.getElem?_cons_succ, List.getElem?_cons_zero]; rfl) (by kernel_rfl) (by kernel_rfl) (by kernel_rfl) (by intro _ _ _ h; exact h) (Or.inr ⟨by rfl, rfl⟩) (by assumption) ?_
        simp only [Act.put, List.setIfInBounds_toArray, List.set_cons_zero, List.set_cons_succ]
        refine wpAnyH_take (i := 12) (v := undef) (by simp only [List.getElem?_toArray, List.getElem?_cons_succ, List.getElem?_cons_zero]; rfl) (by kernel_rfl) (by kernel_rfl) (by kernel_rfl) (by intro _ _ _ h; exact h) (Or.inr ⟨by rfl, rfl⟩) (by assumption) ?_
        simp only [Act.put, List.setIfInBounds_toArray, List.set_cons_zero, List.set_cons_succ]
        refine wpAnyH_take (i := 13) (v := undef) (by simp only [List.getElem?_toArray, List.getElem?_cons_succ, List.getElem?_cons_zero]; rfl) (by kernel_rfl) (by kernel_rfl) (by kernel_rfl) (by intro _ _ _ h; exact h) (Or.inr ⟨by rfl, rfl⟩) (by assumption) ?_
        simp only [Act.put, List.setIfInBounds_toArray, List.set_cons_zero, List.set_cons_succ]
        refine wpAnyH_take (i := 14) (v := undef) (by simp only [List.getElem?_toArray, List.getElem?_cons_succ, List.getElem?_cons_zero]; rfl) (by kernel_rfl) (by kernel_rfl) (by kernel_rfl) (by intro _ _ _ h; exact h) (Or.inr ⟨by rfl, rfl⟩) (by assumption) ?_
        simp only [Act.put, List.setIfInBounds_toArray, List.set_cons_zero, List.set_cons_succ]
        refine wpAnyH_take (i := 15) (v := undef) (by simp only [List.getElem?_toArray, List.getElem?_cons_succ, List.getElem?_cons_zero]; rfl) (by kernel_rfl) (by kernel_rfl) (by kernel_rfl) (by intro _ _ _ h; exact h) (Or.inr ⟨by rfl, rfl⟩) (by assumption) ?_
        simp only [Act.put, List.setIfInBounds_toArray, List.set_cons_zero, List.set_cons_succ]
        refine wpAnyH_take (i := 16) (v := ?_) (by simp only [List.getElem?_toArray, List.getElem?_cons_succ, List.getElem?_cons_zero]; rfl) (by kernel_rfl) (by kernel_rfl) (by kernel_rfl) (by intro _ _ _ h; exact h) (Or.inl ⟨by rfl, ?_⟩) (by assumption) ?_
        rotate_left; · (intro w hSw; (try dsimp only at hSw); go_simp; try with_reducible rfl)
        simp only [Act.put, List.setIfInBounds_toArray, List.set_cons_zero, List.set_cons_succ]
        refine wpAnyH_take (i := 17) (v := ?_) (by simp only [List.getElem?_toArray, List.getElem?_cons_succ, List.getElem?_cons_zero]; rfl) (by kernel_rfl) (by kernel_rfl) (by kernel_rfl) (by intro _ _ _ h; exact h) (Or.inl ⟨by rfl, ?_⟩) (by assumption) ?_
        rotate_left; · (intro w hSw; (try dsimp only at hSw); go_simp; try with_reducible rfl)
        simp only [Act.put, List.setIfInBounds_toArray, List.set_cons_zero, List.set_cons_succ]
        refine wpAnyH_done (by kernel_rfl) ?_ _
        have hb' := below_then (below_alloc2 hb (Obj.cells #[.int .i64 A, .int .i64 B] 73)) (below_undrewG hb9)
        go_wp2_with fail
        go_roundg (gk - 1)
        case measure => omega
        case rel => exact ⟨0 + 1, by omega, by go_num, hb', by omega⟩
      · obtain ⟨i, rfl⟩ : ∃ i, j = i + 1 := ⟨j - 1, by omega⟩
        obtain ⟨_, c4⟩ := row_at hIr (show i < n by omega)
        rw [show ((i : Nat) : Int) + 1 = ((i + 1 : Nat) : Int) by omega, hA] at c4
        have q0 : decide ((0 : Int) < (i : Int) + 1) = true := decide_eq_true (by omega)
        have q00 : decide ((i : Int) + 1 > 0) = true := q0
        have q1 : IntKind.i64.wrap ((i : Int) + 1 - 1) = i := by rw [show (i : Int) + 1 - 1 = i by omega]; exact IntWalk.i64_in _ (by omega)
        have q2 : IntKind.i64.wrap (i : Int) = i := IntWalk.i64_in _ (by omega)
        have hin : 0 ≤ (i : Int) ∧ (i : Int) < n := by omega
        have c4 := keep1 ((Below.refl _ _).alloc (Nat.le_refl _) (Obj.cells #[.int .i64 A, .int .i64 B] 73)) hbn c4
        clear hA hB h0
        go_wp2_with fail
        go_region_held3 (fun w' => (w'.cell? ⟨wr.heap.size, 0, none⟩ = some (.int .i64 A) ∧ w'.cell? ⟨wr.heap.size, 1, none⟩ = some (.int .i64 B)) ∧ w'.cell? ⟨b, i * 2 + 1, none⟩ = some (.int .i64 A))
          (first | go_keep | (go_split_ands; exact ⟨⟨keep1 hb9 (by simp) (by assumption), keep1 hb9 (by simp) (by assumption)⟩, keep1 hb9 (by simp; omega) (by assumption)⟩))
          (first | (go_at_call 105; refine (vvalid_any _ _ _ (by omega) (by omega) (by omega)).mono ?_; rintro e w9 ⟨rfl, hb9⟩))
        have hb' := below_then (below_alloc2 hb (Obj.cells #[.int .i64 A, .int .i64 B] 73)) (below_undrewG hb9)
        go_wp2_with fail
        go_roundg (gk - 1)
        case measure => omega
        case rel => exact ⟨i + 1 + 1, by omega, by go_num, hb', by omega⟩
    · have e : j = n := by omega
      subst e
      go_wp2_with fail
      go_ret
      exact ⟨by simp; try omega, hb⟩
end Go.Proofs.YtehjjinlpilelaaGreatDoor
