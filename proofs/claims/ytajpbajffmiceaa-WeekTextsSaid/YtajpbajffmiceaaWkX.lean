/- The contract of the reference's Parse. No conditions. -/
import Derived.Test.YtajpbajffmiceaaWkW
namespace Wk
/-- the number of the digits before place i -/
def nm (s : ByteArray) : Nat → Int
  | 0 => 0
  | i + 1 => if fm i = 100 then 10 * nm s i + (cB s i - 48) else nm s i
theorem nm_10 (s : ByteArray) : nm s 10 = 1000 * pvY s + 10 * pvK s + pvD s := by simp [nm, fm, pvY, pvK, pvD]; omega
theorem nm_dig {s : ByteArray} {j : Nat} {c : Int} (hf : fm j = 100) (hc : cB s j = c) : nm s (j + 1) = 10 * nm s j + (c - 48) := by simp [nm, hf, hc]
theorem nm_fix {s : ByteArray} {j : Nat} (hf : fm j ≠ 100) : nm s (j + 1) = nm s j := by simp [nm, hf]
theorem nm_bd (s : ByteArray) (h : ∀ i, 0 ≤ i → okc s i = true → fm i = 100 → 0 ≤ cB s i - 48 ∧ cB s i - 48 ≤ 9) : ∀ j : Nat, (∀ i : Nat, i < j → okc s i = true) → 0 ≤ nm s j ∧ nm s j < 10 ^ j
  | 0, _ => by simp [nm]
  | j + 1, hj => by
    obtain ⟨a, b⟩ := nm_bd s h j (fun i hi => hj i (by omega))
    by_cases hf : fm j = 100
    · have hd := h j (by omega) (hj j (by omega)) hf
      rw [nm_dig hf rfl, Int.pow_succ]; omega
    · rw [nm_fix hf, Int.pow_succ]; omega
end Wk
namespace Go.Proofs.Ytajpbajffmiceaa
open Go.ChangeShapes Go.WideShapes Go.ChangeAt Go.RowKit

set_option maxHeartbeats 2000000 in
theorem rparse_size (s : ByteArray) (w : World) (hs : ¬ s.size = 10) :
    Calls Try.prog 31 #[.string s] w fun e w' => e = .returned (.tuple #[.agg #[.int .i64 (Wk.pY s), .int .i64 (Wk.pK s), .int .i64 (Wk.pD s)], .int .i64 (Wk.pE s)]) ∧ Below w.heap.size w w' := by
  obtain ⟨e1, e2, e3, e4⟩ := Wk.p_bad (Wk.okF_size hs)
  rw [e1, e2, e3, e4]
  clear e1 e2 e3 e4
  have hsb : ((s.size : Int) != 10) = true := by simp; omega
  go_enter Try.func31, Try.ntmps31
  go_wp2_with fail
  exact bodyPost_ret (v := .tuple #[.agg #[.int .i64 0, .int .i64 0, .int .i64 0], .int .i64 3]) (by simp [results, Try.results31, go_sem]) rfl ⟨rfl, by go_grown⟩
def RarRel (w wr : World) (p : Prop) : Prop := Below w.heap.size w wr ∧ Box3 wr w.heap.size (.int .i64 0) (.int .i64 0) (.int .i64 0) ∧ p
set_option maxHeartbeats 16000000 in
set_option maxRecDepth 100000 in
theorem rparse_ten (s : ByteArray) (w : World) (hs : s.size = 10) :
    Calls Try.prog 31 #[.string s] w fun e w' => e = .returned (.tuple #[.agg #[.int .i64 (Wk.pY s), .int .i64 (Wk.pK s), .int .i64 (Wk.pD s)], .int .i64 (Wk.pE s)]) ∧ Below w.heap.size w w' := by
  have hsH := Lib.hid hs
  have hWays := Lib.hid (fun i => Wk.okc_ways s i)
  have hBd := Lib.hid (fun i => Wk.cB_bd s i)
  have hNb := Lib.hid (fun j => Wk.nm_bd s (fun i _ h hf => ok_dig h hf) j)
  have hsb : (s.size : Int) = 10 := by omega
  clear hs
  go_enter Try.func31, Try.ntmps31
  go_wp2_with fail
  go_loopg [5, 6] 12 (fun g t5 t6 wr => ∃ j : Nat, j ≤ 10 ∧ t6 = .int .i64 j ∧ t5 = .int .i64 (Wk.nm s j) ∧ (∀ i : Nat, i < j → Wk.okc s i = true) ∧ RarRel w wr (10 - j ≤ g))
  case atStart => exact ⟨0, by omega, rfl, rfl, fun i h => by omega, by (repeat (first | exact Below.refl _ _ | assumption | refine below_drewN ?_ _ | refine below_alloc1 ?_ _ | refine below_then ?_ (by assumption))), Box3.new _ _ _ _ _, by omega⟩
  case round =>
    obtain ⟨j, hj, rfl, rfl, hok, hb, hR, hg⟩ := hrel
    obtain ⟨n0, n9⟩ := hNb.out j hok
    have hokH := Lib.hid hok
    have hRH := Lib.hid hR
    clear hok hR
    by_cases hlt : j < 10
    · have hget := Wk.cB_get s j (by rw [hsH.out]; exact hlt)
      have hbd := hBd.out j
      obtain ⟨N, hN⟩ : ∃ N, Wk.nm s j = N := ⟨_, rfl⟩
      rw [hN] at n0 n9 ⊢
      have hNH := Lib.hid hN
      have h10 : j = 0 ∨ j = 1 ∨ j = 2 ∨ j = 3 ∨ j = 4 ∨ j = 5 ∨ j = 6 ∨ j = 7 ∨ j = 8 ∨ j = 9 := by omega
      clear hN
      rcases h10 with rfl | rfl | rfl | rfl | rfl | rfl | rfl | rfl | rfl | rfl
      · have hfm : (((⟨#[100, 100, 100, 100, 45, 87, 100, 100, 45, 100]⟩ : ByteArray)[0]'(by decide)).toNat : Int) = 100 := by rfl
        have n9 : N < 1 := n9
        rcases hWays.out 0 with ⟨_, ⟨a, q1, q2⟩ | ⟨a, q | ⟨q, q2⟩⟩⟩ | ⟨n, _⟩
        · have aH := Lib.hid a
          obtain ⟨c, hc⟩ : ∃ c, Wk.cB s 0 = c := ⟨_, rfl⟩
          rw [hc] at hget hbd q1 q2
          have hcH := Lib.hid hc
          clear a hc
          go_wp2_with fail
          go_roundg (gk - 1)
          case measure => omega
          case rel => exact ⟨1, by omega, by go_num, val_int (by rw [Wk.nm_dig rfl hcH.out, hNH.out]), okc_next hokH.out aH.out, hb, hRH.out, by omega⟩
        · generalize Wk.cB s 0 = c at *
          have pH := Lib.hid (Wk.p_bad (Wk.okF_no (by omega) a))
          clear a
          obtain ⟨rt, r0, r1, r2, x0, x1, x2⟩ := hRH.out
          go_wp2_with fail
          obtain ⟨zb, _, z0, z1, z2, _, _, _⟩ := zero_stored hb hRH.out
          exact bodyPost_ret (v := .tuple #[.agg #[.int .i64 0, .int .i64 0, .int .i64 0], .int .i64 3]) (by simp [results, Try.results31, go_sem, z0, z1, z2]) rfl ⟨by rw [pH.out.1, pH.out.2.1, pH.out.2.2.1, pH.out.2.2.2], zb⟩
        · generalize Wk.cB s 0 = c at *
          have pH := Lib.hid (Wk.p_bad (Wk.okF_no (by omega) a))
          clear a
          obtain ⟨rt, r0, r1, r2, x0, x1, x2⟩ := hRH.out
          go_wp2_with fail
          obtain ⟨zb, _, z0, z1, z2, _, _, _⟩ := zero_stored hb hRH.out
          exact bodyPost_ret (v := .tuple #[.agg #[.int .i64 0, .int .i64 0, .int .i64 0], .int .i64 3]) (by simp [results, Try.results31, go_sem, z0, z1, z2]) rfl ⟨by rw [pH.out.1, pH.out.2.1, pH.out.2.2.1, pH.out.2.2.2], zb⟩
        · exact absurd rfl n
      · have hfm : (((⟨#[100, 100, 100, 100, 45, 87, 100, 100, 45, 100]⟩ : ByteArray)[1]'(by decide)).toNat : Int) = 100 := by rfl
        have n9 : N < 10 := n9
        rcases hWays.out 1 with ⟨_, ⟨a, q1, q2⟩ | ⟨a, q | ⟨q, q2⟩⟩⟩ | ⟨n, _⟩
        · have aH := Lib.hid a
          obtain ⟨c, hc⟩ : ∃ c, Wk.cB s 1 = c := ⟨_, rfl⟩
          rw [hc] at hget hbd q1 q2
          have hcH := Lib.hid hc
          clear a hc
          go_wp2_with fail
          go_roundg (gk - 1)
          case measure => omega
          case rel => exact ⟨2, by omega, by go_num, val_int (by rw [Wk.nm_dig rfl hcH.out, hNH.out]), okc_next hokH.out aH.out, hb, hRH.out, by omega⟩
        · generalize Wk.cB s 1 = c at *
          have pH := Lib.hid (Wk.p_bad (Wk.okF_no (by omega) a))
          clear a
          obtain ⟨rt, r0, r1, r2, x0, x1, x2⟩ := hRH.out
          go_wp2_with fail
          obtain ⟨zb, _, z0, z1, z2, _, _, _⟩ := zero_stored hb hRH.out
          exact bodyPost_ret (v := .tuple #[.agg #[.int .i64 0, .int .i64 0, .int .i64 0], .int .i64 3]) (by simp [results, Try.results31, go_sem, z0, z1, z2]) rfl ⟨by rw [pH.out.1, pH.out.2.1, pH.out.2.2.1, pH.out.2.2.2], zb⟩
        · generalize Wk.cB s 1 = c at *
          have pH := Lib.hid (Wk.p_bad (Wk.okF_no (by omega) a))
          clear a
          obtain ⟨rt, r0, r1, r2, x0, x1, x2⟩ := hRH.out
          go_wp2_with fail
          obtain ⟨zb, _, z0, z1, z2, _, _, _⟩ := zero_stored hb hRH.out
          exact bodyPost_ret (v := .tuple #[.agg #[.int .i64 0, .int .i64 0, .int .i64 0], .int .i64 3]) (by simp [results, Try.results31, go_sem, z0, z1, z2]) rfl ⟨by rw [pH.out.1, pH.out.2.1, pH.out.2.2.1, pH.out.2.2.2], zb⟩
        · exact absurd rfl n
      · have hfm : (((⟨#[100, 100, 100, 100, 45, 87, 100, 100, 45, 100]⟩ : ByteArray)[2]'(by decide)).toNat : Int) = 100 := by rfl
        have n9 : N < 100 := n9
        rcases hWays.out 2 with ⟨_, ⟨a, q1, q2⟩ | ⟨a, q | ⟨q, q2⟩⟩⟩ | ⟨n, _⟩
        · have aH := Lib.hid a
          obtain ⟨c, hc⟩ : ∃ c, Wk.cB s 2 = c := ⟨_, rfl⟩
          rw [hc] at hget hbd q1 q2
          have hcH := Lib.hid hc
          clear a hc
          go_wp2_with fail
          go_roundg (gk - 1)
          case measure => omega
          case rel => exact ⟨3, by omega, by go_num, val_int (by rw [Wk.nm_dig rfl hcH.out, hNH.out]), okc_next hokH.out aH.out, hb, hRH.out, by omega⟩
        · generalize Wk.cB s 2 = c at *
          have pH := Lib.hid (Wk.p_bad (Wk.okF_no (by omega) a))
          clear a
          obtain ⟨rt, r0, r1, r2, x0, x1, x2⟩ := hRH.out
          go_wp2_with fail
          obtain ⟨zb, _, z0, z1, z2, _, _, _⟩ := zero_stored hb hRH.out
          exact bodyPost_ret (v := .tuple #[.agg #[.int .i64 0, .int .i64 0, .int .i64 0], .int .i64 3]) (by simp [results, Try.results31, go_sem, z0, z1, z2]) rfl ⟨by rw [pH.out.1, pH.out.2.1, pH.out.2.2.1, pH.out.2.2.2], zb⟩
        · generalize Wk.cB s 2 = c at *
          have pH := Lib.hid (Wk.p_bad (Wk.okF_no (by omega) a))
          clear a
          obtain ⟨rt, r0, r1, r2, x0, x1, x2⟩ := hRH.out
          go_wp2_with fail
          obtain ⟨zb, _, z0, z1, z2, _, _, _⟩ := zero_stored hb hRH.out
          exact bodyPost_ret (v := .tuple #[.agg #[.int .i64 0, .int .i64 0, .int .i64 0], .int .i64 3]) (by simp [results, Try.results31, go_sem, z0, z1, z2]) rfl ⟨by rw [pH.out.1, pH.out.2.1, pH.out.2.2.1, pH.out.2.2.2], zb⟩
        · exact absurd rfl n
      · have hfm : (((⟨#[100, 100, 100, 100, 45, 87, 100, 100, 45, 100]⟩ : ByteArray)[3]'(by decide)).toNat : Int) = 100 := by rfl
        have n9 : N < 1000 := n9
        rcases hWays.out 3 with ⟨_, ⟨a, q1, q2⟩ | ⟨a, q | ⟨q, q2⟩⟩⟩ | ⟨n, _⟩
        · have aH := Lib.hid a
          obtain ⟨c, hc⟩ : ∃ c, Wk.cB s 3 = c := ⟨_, rfl⟩
          rw [hc] at hget hbd q1 q2
          have hcH := Lib.hid hc
          clear a hc
          go_wp2_with fail
          go_roundg (gk - 1)
          case measure => omega
          case rel => exact ⟨4, by omega, by go_num, val_int (by rw [Wk.nm_dig rfl hcH.out, hNH.out]), okc_next hokH.out aH.out, hb, hRH.out, by omega⟩
        · generalize Wk.cB s 3 = c at *
          have pH := Lib.hid (Wk.p_bad (Wk.okF_no (by omega) a))
          clear a
          obtain ⟨rt, r0, r1, r2, x0, x1, x2⟩ := hRH.out
          go_wp2_with fail
          obtain ⟨zb, _, z0, z1, z2, _, _, _⟩ := zero_stored hb hRH.out
          exact bodyPost_ret (v := .tuple #[.agg #[.int .i64 0, .int .i64 0, .int .i64 0], .int .i64 3]) (by simp [results, Try.results31, go_sem, z0, z1, z2]) rfl ⟨by rw [pH.out.1, pH.out.2.1, pH.out.2.2.1, pH.out.2.2.2], zb⟩
        · generalize Wk.cB s 3 = c at *
          have pH := Lib.hid (Wk.p_bad (Wk.okF_no (by omega) a))
          clear a
          obtain ⟨rt, r0, r1, r2, x0, x1, x2⟩ := hRH.out
          go_wp2_with fail
          obtain ⟨zb, _, z0, z1, z2, _, _, _⟩ := zero_stored hb hRH.out
          exact bodyPost_ret (v := .tuple #[.agg #[.int .i64 0, .int .i64 0, .int .i64 0], .int .i64 3]) (by simp [results, Try.results31, go_sem, z0, z1, z2]) rfl ⟨by rw [pH.out.1, pH.out.2.1, pH.out.2.2.1, pH.out.2.2.2], zb⟩
        · exact absurd rfl n
      · have hfm : (((⟨#[100, 100, 100, 100, 45, 87, 100, 100, 45, 100]⟩ : ByteArray)[4]'(by decide)).toNat : Int) = 45 := by rfl
        have n9 : N < 10000 := n9
        rcases hWays.out 4 with ⟨n, _⟩ | ⟨_, ⟨a, q⟩ | ⟨a, q⟩⟩
        · exact absurd n (by decide)
        · have aH := Lib.hid a
          clear a
          rw [q] at hget
          rw [show Wk.fm 4 = 45 by rfl] at hget
          clear q hbd
          go_wp2_with fail
          go_region
          all_goals (try go_wp2_with fail)
          go_roundg (gk - 1)
          case measure => omega
          case rel => exact ⟨5, by omega, by go_num, val_int (by rw [Wk.nm_fix (by decide), hNH.out]), okc_next hokH.out aH.out, below_drewN hb 1, Box3.drewN hRH.out 1, by omega⟩
        · rw [show Wk.fm 4 = 45 by rfl] at q
          generalize Wk.cB s 4 = c at hget hbd q
          have qb : (c != 45) = true := by simpa using q
          have pH := Lib.hid (Wk.p_bad (Wk.okF_no (by omega) a))
          clear a q
          obtain ⟨rt, r0, r1, r2, x0, x1, x2⟩ := hRH.out
          go_wp2_with fail
          go_region
          all_goals (try go_wp2_with fail)
          have hb1 : Below w.heap.size w wr.drew := below_drewN hb 1
          have hR1 : Box3 wr.drew w.heap.size (.int .i64 0) (.int .i64 0) (.int .i64 0) := Box3.drewN hRH.out 1
          obtain ⟨zb, _⟩ := zero_stored hb1 hR1
          obtain ⟨_, _, z0, z1, z2, _, _, _⟩ := zero_stored hb hRH.out
          exact bodyPost_ret (v := .tuple #[.agg #[.int .i64 0, .int .i64 0, .int .i64 0], .int .i64 3]) (by simp [results, Try.results31, go_sem, z0, z1, z2]) rfl ⟨by rw [pH.out.1, pH.out.2.1, pH.out.2.2.1, pH.out.2.2.2], zb⟩
      · have hfm : (((⟨#[100, 100, 100, 100, 45, 87, 100, 100, 45, 100]⟩ : ByteArray)[5]'(by decide)).toNat : Int) = 87 := by rfl
        have n9 : N < 100000 := n9
        rcases hWays.out 5 with ⟨n, _⟩ | ⟨_, ⟨a, q⟩ | ⟨a, q⟩⟩
        · exact absurd n (by decide)
        · have aH := Lib.hid a
          clear a
          rw [q] at hget
          rw [show Wk.fm 5 = 87 by rfl] at hget
          clear q hbd
          go_wp2_with fail
          go_region
          all_goals (try go_wp2_with fail)
          go_roundg (gk - 1)
          case measure => omega
          case rel => exact ⟨6, by omega, by go_num, val_int (by rw [Wk.nm_fix (by decide), hNH.out]), okc_next hokH.out aH.out, below_drewN hb 1, Box3.drewN hRH.out 1, by omega⟩
        · rw [show Wk.fm 5 = 87 by rfl] at q
          generalize Wk.cB s 5 = c at hget hbd q
          have qb : (c != 87) = true := by simpa using q
          have pH := Lib.hid (Wk.p_bad (Wk.okF_no (by omega) a))
          clear a q
          obtain ⟨rt, r0, r1, r2, x0, x1, x2⟩ := hRH.out
          go_wp2_with fail
          go_region
          all_goals (try go_wp2_with fail)
          have hb1 : Below w.heap.size w wr.drew := below_drewN hb 1
          have hR1 : Box3 wr.drew w.heap.size (.int .i64 0) (.int .i64 0) (.int .i64 0) := Box3.drewN hRH.out 1
          obtain ⟨zb, _⟩ := zero_stored hb1 hR1
          obtain ⟨_, _, z0, z1, z2, _, _, _⟩ := zero_stored hb hRH.out
          exact bodyPost_ret (v := .tuple #[.agg #[.int .i64 0, .int .i64 0, .int .i64 0], .int .i64 3]) (by simp [results, Try.results31, go_sem, z0, z1, z2]) rfl ⟨by rw [pH.out.1, pH.out.2.1, pH.out.2.2.1, pH.out.2.2.2], zb⟩
      · have hfm : (((⟨#[100, 100, 100, 100, 45, 87, 100, 100, 45, 100]⟩ : ByteArray)[6]'(by decide)).toNat : Int) = 100 := by rfl
        have n9 : N < 1000000 := n9
        rcases hWays.out 6 with ⟨_, ⟨a, q1, q2⟩ | ⟨a, q | ⟨q, q2⟩⟩⟩ | ⟨n, _⟩
        · have aH := Lib.hid a
          obtain ⟨c, hc⟩ : ∃ c, Wk.cB s 6 = c := ⟨_, rfl⟩
          rw [hc] at hget hbd q1 q2
          have hcH := Lib.hid hc
          clear a hc
          go_wp2_with fail
          go_roundg (gk - 1)
          case measure => omega
          case rel => exact ⟨7, by omega, by go_num, val_int (by rw [Wk.nm_dig rfl hcH.out, hNH.out]), okc_next hokH.out aH.out, hb, hRH.out, by omega⟩
        · generalize Wk.cB s 6 = c at *
          have pH := Lib.hid (Wk.p_bad (Wk.okF_no (by omega) a))
          clear a
          obtain ⟨rt, r0, r1, r2, x0, x1, x2⟩ := hRH.out
          go_wp2_with fail
          obtain ⟨zb, _, z0, z1, z2, _, _, _⟩ := zero_stored hb hRH.out
          exact bodyPost_ret (v := .tuple #[.agg #[.int .i64 0, .int .i64 0, .int .i64 0], .int .i64 3]) (by simp [results, Try.results31, go_sem, z0, z1, z2]) rfl ⟨by rw [pH.out.1, pH.out.2.1, pH.out.2.2.1, pH.out.2.2.2], zb⟩
        · generalize Wk.cB s 6 = c at *
          have pH := Lib.hid (Wk.p_bad (Wk.okF_no (by omega) a))
          clear a
          obtain ⟨rt, r0, r1, r2, x0, x1, x2⟩ := hRH.out
          go_wp2_with fail
          obtain ⟨zb, _, z0, z1, z2, _, _, _⟩ := zero_stored hb hRH.out
          exact bodyPost_ret (v := .tuple #[.agg #[.int .i64 0, .int .i64 0, .int .i64 0], .int .i64 3]) (by simp [results, Try.results31, go_sem, z0, z1, z2]) rfl ⟨by rw [pH.out.1, pH.out.2.1, pH.out.2.2.1, pH.out.2.2.2], zb⟩
        · exact absurd rfl n
      · have hfm : (((⟨#[100, 100, 100, 100, 45, 87, 100, 100, 45, 100]⟩ : ByteArray)[7]'(by decide)).toNat : Int) = 100 := by rfl
        have n9 : N < 10000000 := n9
        rcases hWays.out 7 with ⟨_, ⟨a, q1, q2⟩ | ⟨a, q | ⟨q, q2⟩⟩⟩ | ⟨n, _⟩
        · have aH := Lib.hid a
          obtain ⟨c, hc⟩ : ∃ c, Wk.cB s 7 = c := ⟨_, rfl⟩
          rw [hc] at hget hbd q1 q2
          have hcH := Lib.hid hc
          clear a hc
          go_wp2_with fail
          go_roundg (gk - 1)
          case measure => omega
          case rel => exact ⟨8, by omega, by go_num, val_int (by rw [Wk.nm_dig rfl hcH.out, hNH.out]), okc_next hokH.out aH.out, hb, hRH.out, by omega⟩
        · generalize Wk.cB s 7 = c at *
          have pH := Lib.hid (Wk.p_bad (Wk.okF_no (by omega) a))
          clear a
          obtain ⟨rt, r0, r1, r2, x0, x1, x2⟩ := hRH.out
          go_wp2_with fail
          obtain ⟨zb, _, z0, z1, z2, _, _, _⟩ := zero_stored hb hRH.out
          exact bodyPost_ret (v := .tuple #[.agg #[.int .i64 0, .int .i64 0, .int .i64 0], .int .i64 3]) (by simp [results, Try.results31, go_sem, z0, z1, z2]) rfl ⟨by rw [pH.out.1, pH.out.2.1, pH.out.2.2.1, pH.out.2.2.2], zb⟩
        · generalize Wk.cB s 7 = c at *
          have pH := Lib.hid (Wk.p_bad (Wk.okF_no (by omega) a))
          clear a
          obtain ⟨rt, r0, r1, r2, x0, x1, x2⟩ := hRH.out
          go_wp2_with fail
          obtain ⟨zb, _, z0, z1, z2, _, _, _⟩ := zero_stored hb hRH.out
          exact bodyPost_ret (v := .tuple #[.agg #[.int .i64 0, .int .i64 0, .int .i64 0], .int .i64 3]) (by simp [results, Try.results31, go_sem, z0, z1, z2]) rfl ⟨by rw [pH.out.1, pH.out.2.1, pH.out.2.2.1, pH.out.2.2.2], zb⟩
        · exact absurd rfl n
      · have hfm : (((⟨#[100, 100, 100, 100, 45, 87, 100, 100, 45, 100]⟩ : ByteArray)[8]'(by decide)).toNat : Int) = 45 := by rfl
        have n9 : N < 100000000 := n9
        rcases hWays.out 8 with ⟨n, _⟩ | ⟨_, ⟨a, q⟩ | ⟨a, q⟩⟩
        · exact absurd n (by decide)
        · have aH := Lib.hid a
          clear a
          rw [q] at hget
          rw [show Wk.fm 8 = 45 by rfl] at hget
          clear q hbd
          go_wp2_with fail
          go_region
          all_goals (try go_wp2_with fail)
          go_roundg (gk - 1)
          case measure => omega
          case rel => exact ⟨9, by omega, by go_num, val_int (by rw [Wk.nm_fix (by decide), hNH.out]), okc_next hokH.out aH.out, below_drewN hb 1, Box3.drewN hRH.out 1, by omega⟩
        · rw [show Wk.fm 8 = 45 by rfl] at q
          generalize Wk.cB s 8 = c at hget hbd q
          have qb : (c != 45) = true := by simpa using q
          have pH := Lib.hid (Wk.p_bad (Wk.okF_no (by omega) a))
          clear a q
          obtain ⟨rt, r0, r1, r2, x0, x1, x2⟩ := hRH.out
          go_wp2_with fail
          go_region
          all_goals (try go_wp2_with fail)
          have hb1 : Below w.heap.size w wr.drew := below_drewN hb 1
          have hR1 : Box3 wr.drew w.heap.size (.int .i64 0) (.int .i64 0) (.int .i64 0) := Box3.drewN hRH.out 1
          obtain ⟨zb, _⟩ := zero_stored hb1 hR1
          obtain ⟨_, _, z0, z1, z2, _, _, _⟩ := zero_stored hb hRH.out
          exact bodyPost_ret (v := .tuple #[.agg #[.int .i64 0, .int .i64 0, .int .i64 0], .int .i64 3]) (by simp [results, Try.results31, go_sem, z0, z1, z2]) rfl ⟨by rw [pH.out.1, pH.out.2.1, pH.out.2.2.1, pH.out.2.2.2], zb⟩
      · have hfm : (((⟨#[100, 100, 100, 100, 45, 87, 100, 100, 45, 100]⟩ : ByteArray)[9]'(by decide)).toNat : Int) = 100 := by rfl
        have n9 : N < 1000000000 := n9
        rcases hWays.out 9 with ⟨_, ⟨a, q1, q2⟩ | ⟨a, q | ⟨q, q2⟩⟩⟩ | ⟨n, _⟩
        · have aH := Lib.hid a
          obtain ⟨c, hc⟩ : ∃ c, Wk.cB s 9 = c := ⟨_, rfl⟩
          rw [hc] at hget hbd q1 q2
          have hcH := Lib.hid hc
          clear a hc
          go_wp2_with fail
          go_roundg (gk - 1)
          case measure => omega
          case rel => exact ⟨10, by omega, by go_num, val_int (by rw [Wk.nm_dig rfl hcH.out, hNH.out]), okc_next hokH.out aH.out, hb, hRH.out, by omega⟩
        · generalize Wk.cB s 9 = c at *
          have pH := Lib.hid (Wk.p_bad (Wk.okF_no (by omega) a))
          clear a
          obtain ⟨rt, r0, r1, r2, x0, x1, x2⟩ := hRH.out
          go_wp2_with fail
          obtain ⟨zb, _, z0, z1, z2, _, _, _⟩ := zero_stored hb hRH.out
          exact bodyPost_ret (v := .tuple #[.agg #[.int .i64 0, .int .i64 0, .int .i64 0], .int .i64 3]) (by simp [results, Try.results31, go_sem, z0, z1, z2]) rfl ⟨by rw [pH.out.1, pH.out.2.1, pH.out.2.2.1, pH.out.2.2.2], zb⟩
        · generalize Wk.cB s 9 = c at *
          have pH := Lib.hid (Wk.p_bad (Wk.okF_no (by omega) a))
          clear a
          obtain ⟨rt, r0, r1, r2, x0, x1, x2⟩ := hRH.out
          go_wp2_with fail
          obtain ⟨zb, _, z0, z1, z2, _, _, _⟩ := zero_stored hb hRH.out
          exact bodyPost_ret (v := .tuple #[.agg #[.int .i64 0, .int .i64 0, .int .i64 0], .int .i64 3]) (by simp [results, Try.results31, go_sem, z0, z1, z2]) rfl ⟨by rw [pH.out.1, pH.out.2.1, pH.out.2.2.1, pH.out.2.2.2], zb⟩
        · exact absurd rfl n
    · obtain rfl : j = 10 := by omega
      have hF := Wk.okF_all hsH.out hokH.out
      have b0 := ok_dig (hokH.out 0 (by omega)) rfl
      have b1 := ok_dig (hokH.out 1 (by omega)) rfl
      have b2 := ok_dig (hokH.out 2 (by omega)) rfl
      have b3 := ok_dig (hokH.out 3 (by omega)) rfl
      have b4 := ok_dig (hokH.out 6 (by omega)) rfl
      have b5 := ok_dig (hokH.out 7 (by omega)) rfl
      have b6 := ok_dig (hokH.out 9 (by omega)) rfl
      have hN := Wk.nm_10 s
      have ey : 0 ≤ Wk.pvY s ∧ Wk.pvY s ≤ 9999 := by unfold Wk.pvY; omega
      have ek : 0 ≤ Wk.pvK s ∧ Wk.pvK s ≤ 99 := by unfold Wk.pvK; omega
      have ed : 0 ≤ Wk.pvD s ∧ Wk.pvD s ≤ 9 := by unfold Wk.pvD; omega
      have hP : (Wk.shB (Wk.pvY s) (Wk.pvK s) (Wk.pvD s) = false ∧ Wk.pE s = 2 ∧ Wk.pY s = 0 ∧ Wk.pK s = 0 ∧ Wk.pD s = 0) ∨ (Wk.shB (Wk.pvY s) (Wk.pvK s) (Wk.pvD s) = true ∧ Wk.pE s = 0 ∧ Wk.pY s = Wk.pvY s ∧ Wk.pK s = Wk.pvK s ∧ Wk.pD s = Wk.pvD s) := by
        cases q : Wk.shB (Wk.pvY s) (Wk.pvK s) (Wk.pvD s)
        · exact Or.inl ⟨rfl, Wk.p_none hF q⟩
        · exact Or.inr ⟨rfl, Wk.p_good hF q⟩
      generalize Wk.pvY s = Y at *
      generalize Wk.pvK s = K at *
      generalize Wk.pvD s = D at *
      have f1 : Wk.nm s 10 / 1000 = Y := by omega
      have f2 : Wk.nm s 10 / 10 % 100 = K := by omega
      have f3 : Wk.nm s 10 % 10 = D := by omega
      generalize Wk.nm s 10 = N at *
      have hPH := Lib.hid hP
      clear hP b0 b1 b2 b3 b4 b5 b6 hF hN
      go_wp2_with fail
      refine (rknown_any _ _ _ _).mono ?_; rintro e w5 ⟨rfl, hb5⟩
      have hX := Lib.hid ((Box3.new wr (.int .i64 Y) (.int .i64 K) (.int .i64 D) 26).later hb5)
      have hR5 := Lib.hid ((hRH.out.alloc _).later hb5)
      have hb9 := below_then (below_alloc1 hb _) hb5
      clear hb5 hRH hb f1 f2 f3
      obtain ⟨_, g0, g1, g2, _, _, _⟩ := hX.out
      obtain ⟨_, r0, r1, r2, x0, x1, x2⟩ := hR5.out
      rcases hPH.out with ⟨hsh, hp⟩ | ⟨hsh, hp⟩
      all_goals
        have pH := Lib.hid hp
        rw [hsh]
        clear hsh hp
        go_wp2_with fail
      · obtain ⟨zb, _, z0, z1, z2, _, _, _⟩ := zero_stored hb9 hR5.out
        exact bodyPost_ret (v := .tuple #[.agg #[.int .i64 0, .int .i64 0, .int .i64 0], .int .i64 2]) (by simp [results, Try.results31, go_sem, z0, z1, z2]) rfl ⟨by rw [pH.out.1, pH.out.2.1, pH.out.2.2.1, pH.out.2.2.2], zb⟩
      · have R3 := (((hR5.out.set0 (.int .i64 Y)).set1 (.int .i64 K)).set2 (.int .i64 D))
        have B3 := ((hb9.setCell (p := ⟨w.heap.size, 0, none⟩) (Nat.le_refl _) (.int .i64 Y)).setCell (p := ⟨w.heap.size, 1, none⟩) (Nat.le_refl _) (.int .i64 K)).setCell (p := ⟨w.heap.size, 2, none⟩) (Nat.le_refl _) (.int .i64 D)
        obtain ⟨_, z0, z1, z2, _, _, _⟩ := R3
        exact bodyPost_ret (v := .tuple #[.agg #[.int .i64 Y, .int .i64 K, .int .i64 D], .int .i64 0]) (by simp [results, Try.results31, go_sem, z0, z1, z2]) rfl ⟨by rw [pH.out.1, pH.out.2.1, pH.out.2.2.1, pH.out.2.2.2], B3⟩
theorem rparse_any (s : ByteArray) (w : World) :
    Calls Try.prog 31 #[.string s] w fun e w' => e = .returned (.tuple #[.agg #[.int .i64 (Wk.pY s), .int .i64 (Wk.pK s), .int .i64 (Wk.pD s)], .int .i64 (Wk.pE s)]) ∧ Below w.heap.size w w' := by
  by_cases h : s.size = 10
  · exact rparse_ten s w h
  · exact rparse_size s w h
end Go.Proofs.Ytajpbajffmiceaa
