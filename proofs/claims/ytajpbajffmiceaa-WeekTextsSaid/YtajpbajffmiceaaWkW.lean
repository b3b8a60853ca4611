/- Parsing of dates of weeks: what it gives, and the contract of week.Parse. No conditions. -/
import Derived.Test.YtajpbajffmiceaaWkV
import Derived.Test.YtajpbajffmiceaaAppB
namespace Wk
/-- byte i of a string -/
def cB (s : ByteArray) (i : Nat) : Int := ((s.data.getD i 0).toNat : Int)
theorem cB_get (s : ByteArray) (i : Nat) (h : i < s.size) : ((s[i]'h).toNat : Int) = cB s i := by
  unfold cB
  have h' : i < s.data.size := h
  have e : s.data.getD i 0 = s.data[i]'h' := by
    unfold Array.getD
    rw [dif_pos h']; rfl
  rw [e]; rfl
theorem cB_bd (s : ByteArray) (i : Nat) : 0 ≤ cB s i ∧ cB s i ≤ 255 := by
  unfold cB
  have := (s.data.getD i 0).toNat_lt
  omega
/-- the bytes of the form -/
def fm (i : Nat) : Int := if i = 4 ∨ i = 8 then 45 else if i = 5 then 87 else 100
def okc (s : ByteArray) (i : Nat) : Bool := if fm i = 100 then decide (48 ≤ cB s i ∧ cB s i ≤ 57) else decide (cB s i = fm i)
def okF (s : ByteArray) : Bool := decide (s.size = 10) && (okc s 0 && (okc s 1 && (okc s 2 && (okc s 3 && (okc s 4 && (okc s 5 && (okc s 6 && (okc s 7 && (okc s 8 && okc s 9)))))))))
def pvY (s : ByteArray) : Int := 1000 * (cB s 0 - 48) + 100 * (cB s 1 - 48) + 10 * (cB s 2 - 48) + (cB s 3 - 48)
def pvK (s : ByteArray) : Int := 10 * (cB s 6 - 48) + (cB s 7 - 48)
def pvD (s : ByteArray) : Int := cB s 9 - 48
def pE (s : ByteArray) : Int := if okF s then if shB (pvY s) (pvK s) (pvD s) then 0 else 2 else 3
def pY (s : ByteArray) : Int := if pE s = 0 then pvY s else 0
def pK (s : ByteArray) : Int := if pE s = 0 then pvK s else 0
def pD (s : ByteArray) : Int := if pE s = 0 then pvD s else 0
theorem p_bad {s : ByteArray} (h : okF s = false) : pE s = 3 ∧ pY s = 0 ∧ pK s = 0 ∧ pD s = 0 := by
  have e : pE s = 3 := by simp [pE, h]
  simp [pY, pK, pD, e]
theorem p_none {s : ByteArray} (h : okF s = true) (h2 : shB (pvY s) (pvK s) (pvD s) = false) : pE s = 2 ∧ pY s = 0 ∧ pK s = 0 ∧ pD s = 0 := by
  have e : pE s = 2 := by simp [pE, h, h2]
  simp [pY, pK, pD, e]
theorem p_good {s : ByteArray} (h : okF s = true) (h2 : shB (pvY s) (pvK s) (pvD s) = true) : pE s = 0 ∧ pY s = pvY s ∧ pK s = pvK s ∧ pD s = pvD s := by
  have e : pE s = 0 := by simp [pE, h, h2]
  simp [pY, pK, pD, e]
theorem okF_size {s : ByteArray} (h : ¬ s.size = 10) : okF s = false := by simp [okF, h]
theorem okF_no {s : ByteArray} {i : Nat} (hi : i < 10) (h : okc s i = false) : okF s = false := by
  have : i = 0 ∨ i = 1 ∨ i = 2 ∨ i = 3 ∨ i = 4 ∨ i = 5 ∨ i = 6 ∨ i = 7 ∨ i = 8 ∨ i = 9 := by omega
  rcases this with rfl | rfl | rfl | rfl | rfl | rfl | rfl | rfl | rfl | rfl <;> simp [okF, h]
theorem okF_all {s : ByteArray} (hs : s.size = 10) (h : ∀ i : Nat, i < 10 → okc s i = true) : okF s = true := by
  simp [okF, hs, h]
/-- the digits before place i -/
def dl (s : ByteArray) : Nat → List Int
  | 0 => []
  | i + 1 => if fm i = 100 then dl s i ++ [cB s i - 48] else dl s i
theorem dl_len (s : ByteArray) : ∀ i, (dl s i).length ≤ i
  | 0 => by simp [dl]
  | i + 1 => by
    have := dl_len s i
    simp only [dl]; split
    · simp; omega
    · omega
theorem dl_10 (s : ByteArray) : dl s 10 = [cB s 0 - 48, cB s 1 - 48, cB s 2 - 48, cB s 3 - 48, cB s 6 - 48, cB s 7 - 48, cB s 9 - 48] := by simp [dl, fm]
theorem okc_dig {s : ByteArray} {i : Nat} (h : fm i = 100) : okc s i = decide (48 ≤ cB s i ∧ cB s i ≤ 57) := by simp [okc, h]
theorem okc_fix {s : ByteArray} {i : Nat} (h : fm i ≠ 100) : okc s i = decide (cB s i = fm i) := by simp [okc, h]
/-- the ways of one byte -/
theorem okc_ways (s : ByteArray) (i : Nat) : (fm i = 100 ∧ ((okc s i = true ∧ 48 ≤ cB s i ∧ cB s i ≤ 57) ∨ (okc s i = false ∧ (cB s i < 48 ∨ (48 ≤ cB s i ∧ 57 < cB s i))))) ∨ (fm i ≠ 100 ∧ ((okc s i = true ∧ cB s i = fm i) ∨ (okc s i = false ∧ cB s i ≠ fm i))) := by
  by_cases h : fm i = 100
  · refine Or.inl ⟨h, ?_⟩
    rw [okc_dig h]
    by_cases q : 48 ≤ cB s i ∧ cB s i ≤ 57
    · exact Or.inl ⟨decide_eq_true q, q⟩
    · exact Or.inr ⟨decide_eq_false q, by omega⟩
  · refine Or.inr ⟨h, ?_⟩
    rw [okc_fix h]
    by_cases q : cB s i = fm i
    · exact Or.inl ⟨decide_eq_true q, q⟩
    · exact Or.inr ⟨decide_eq_false q, q⟩
end Wk
namespace Go.Proofs.Ytajpbajffmiceaa
open Go.ChangeShapes Go.WideShapes Go.ChangeAt Go.RowKit

set_option maxHeartbeats 2000000 in
theorem kparse_size (s : ByteArray) (w : World) (hs : ¬ s.size = 10) (_hs2 : s.size ≤ 100) :
    Calls Try.prog 30 #[.string s] w fun e w' => e = .returned (.tuple #[.agg #[.int .i64 (Wk.pY s), .int .i64 (Wk.pK s), .int .i64 (Wk.pD s)], .int .i64 (Wk.pE s)]) ∧ Below w.heap.size w w' := by
  obtain ⟨e1, e2, e3, e4⟩ := Wk.p_bad (Wk.okF_size hs)
  rw [e1, e2, e3, e4]
  clear e1 e2 e3 e4
  have hsb : ((s.size : Int) != 10) = true := by simp; omega
  go_enter Try.func30, Try.ntmps30
  go_wp2_with fail
  exact bodyPost_ret (v := .tuple #[.agg #[.int .i64 0, .int .i64 0, .int .i64 0], .int .i64 3]) (by simp [results, Try.results30, go_sem]) rfl ⟨rfl, by go_grown⟩
/-- what a call's own list holds, and the cell of the result -/
def ParRel (w wr : World) (v : Value) (L : List Int) (p : Prop) : Prop := Below w.heap.size w wr ∧ Box3 wr w.heap.size (.int .i64 0) (.int .i64 0) (.int .i64 0) ∧ Own wr (w.heap.size + 1) v L ∧ p
theorem okc_next {s : ByteArray} {j : Nat} (h : ∀ i : Nat, i < j → Wk.okc s i = true) (hj : Wk.okc s j = true) : ∀ i : Nat, i < j + 1 → Wk.okc s i = true := fun i hi => by
  by_cases e : i = j
  · rw [e]; exact hj
  · exact h i (by omega)
theorem own_dig {w : World} {B j : Nat} {v : Value} {s : ByteArray} {c : Int} (hf : Wk.fm j = 100) (hc : Wk.cB s j = c) (h : OwnN w B v (Wk.dl s j ++ [c - 48])) : Own w B v (Wk.dl s (j + 1)) := by
  have e : Wk.dl s (j + 1) = Wk.dl s j ++ [c - 48] := by simp [Wk.dl, hf, hc]
  rw [e]; exact h.1
theorem own_fix {w : World} {B j : Nat} {v : Value} {s : ByteArray} (hf : Wk.fm j ≠ 100) (h : Own w B v (Wk.dl s j)) : Own w B v (Wk.dl s (j + 1)) := by
  have e : Wk.dl s (j + 1) = Wk.dl s j := by simp [Wk.dl, hf]
  rw [e]; exact h
theorem ok_dig {s : ByteArray} {i : Nat} (h : Wk.okc s i = true) (hf : Wk.fm i = 100) : 0 ≤ Wk.cB s i - 48 ∧ Wk.cB s i - 48 ≤ 9 := by
  rw [Wk.okc_dig hf] at h
  have := of_decide_eq_true h
  omega
/-- the zero result, stored -/
theorem zero_stored {w wr : World} (hb : Below w.heap.size w wr) (hR : Box3 wr w.heap.size (.int .i64 0) (.int .i64 0) (.int .i64 0)) :
    Below w.heap.size w (((wr.setCell ⟨w.heap.size, 0, none⟩ (.int .i64 0)).setCell ⟨w.heap.size, 1, none⟩ (.int .i64 0)).setCell ⟨w.heap.size, 2, none⟩ (.int .i64 0)) ∧
    Box3 (((wr.setCell ⟨w.heap.size, 0, none⟩ (.int .i64 0)).setCell ⟨w.heap.size, 1, none⟩ (.int .i64 0)).setCell ⟨w.heap.size, 2, none⟩ (.int .i64 0)) w.heap.size (.int .i64 0) (.int .i64 0) (.int .i64 0) :=
  ⟨((hb.setCell (Nat.le_refl _) _).setCell (Nat.le_refl _) _).setCell (Nat.le_refl _) _, ((hR.set0 _).set1 _).set2 _⟩
set_option maxHeartbeats 16000000 in
set_option maxRecDepth 100000 in
theorem kparse_ten (s : ByteArray) (w : World) (hs : s.size = 10) :
    Calls Try.prog 30 #[.string s] w fun e w' => e = .returned (.tuple #[.agg #[.int .i64 (Wk.pY s), .int .i64 (Wk.pK s), .int .i64 (Wk.pD s)], .int .i64 (Wk.pE s)]) ∧ Below w.heap.size w w' := by
  obtain ⟨i0, hi', hz0, hz1, hz2⟩ := info_parts infoInt
  have hsH := Lib.hid hs
  have hWays := Lib.hid (fun i => Wk.okc_ways s i)
  have hBd := Lib.hid (fun i => Wk.cB_bd s i)
  have hLen := Lib.hid (fun i => Wk.dl_len s i)
  have hsb : (s.size : Int) = 10 := by omega
  clear hs
  go_enter Try.func30, Try.ntmps30
  go_wp2_with fail
  go_loopg [4, 13] 12 (fun g t4 t13 wr => ∃ j : Nat, j ≤ 10 ∧ t13 = .int .i64 j ∧ (∀ i : Nat, i < j → Wk.okc s i = true) ∧ ParRel w wr t4 (Wk.dl s j) (10 - j ≤ g))
  case atStart => exact ⟨0, by omega, rfl, fun i h => by omega, by (repeat (first | exact Below.refl _ _ | assumption | refine below_drewN ?_ _ | refine below_alloc1 ?_ _ | refine below_then ?_ (by assumption))), Box3.new _ _ _ _ _, Own.nil _ _, by omega⟩
  case round =>
    obtain ⟨j, hj, rfl, hok, hb, hR, hO, hg⟩ := hrel
    have hokH := Lib.hid hok
    have hRH := Lib.hid hR
    have hOH := Lib.hid hO
    have hlen := hLen.out j
    clear hok hR hO
    by_cases hlt : j < 10
    · have hget := Wk.cB_get s j (by rw [hsH.out]; exact hlt)
      have hbd := hBd.out j
      have h10 : j = 0 ∨ j = 1 ∨ j = 2 ∨ j = 3 ∨ j = 4 ∨ j = 5 ∨ j = 6 ∨ j = 7 ∨ j = 8 ∨ j = 9 := by omega
      rcases h10 with rfl | rfl | rfl | rfl | rfl | rfl | rfl | rfl | rfl | rfl
      · have hfm : (((⟨#[100, 100, 100, 100, 45, 87, 100, 100, 45, 100]⟩ : ByteArray)[0]'(by decide)).toNat : Int) = 100 := by rfl
        rcases hWays.out 0 with ⟨_, ⟨a, q1, q2⟩ | ⟨a, q | ⟨q, q2⟩⟩⟩ | ⟨n, _⟩
        · have aH := Lib.hid a
          obtain ⟨c, hc⟩ : ∃ c, Wk.cB s 0 = c := ⟨_, rfl⟩
          rw [hc] at hget hbd q1 q2
          have hcH := Lib.hid hc
          clear a hc
          obtain ⟨n, hn⟩ : ∃ n, (Wk.dl s 0).length = n := ⟨_, rfl⟩
          rw [hn] at hlen
          have hnH := Lib.hid hn
          clear hn
          go_wp2_with (first | (at_builtin; refine wpList_append_own _ rfl _ _ 66 rfl (w.heap.size + 1) 3 i0 (.int .i64 0) 1 8 Try.underlying66 hi' hz0 hz1 hz2 rfl (by decide) _ n _ rfl (own_in hOH.out hnH.out _) ⟨wr.heap.size, 0, none⟩ 1 1 [.int .i64 (c - 48)] rfl rfl (news1 _ _ _) (one1 _) (by unfold maxLen; omega) (by omega) (by have := hRH.out.lt; simp; omega) ?_; intro v' w5 hown hgrow _; have RH := Lib.hid (own_push hnH.out hb (Nat.le_succ _) hRH.out.lt hOH.out hown hgrow); clear hown hgrow))
          go_roundg (gk - 1)
          case measure => omega
          case rel => exact ⟨1, by omega, by go_num, okc_next hokH.out aH.out, RH.out.1, hRH.out.keep RH.out.2.1 (by omega), own_dig rfl hcH.out RH.out.2.2, by omega⟩
        · generalize Wk.cB s 0 = c at *
          have pH := Lib.hid (Wk.p_bad (Wk.okF_no (by omega) a))
          clear a
          obtain ⟨rt, r0, r1, r2, x0, x1, x2⟩ := hRH.out
          go_wp2_with fail
          obtain ⟨zb, _, z0, z1, z2, _, _, _⟩ := zero_stored hb hRH.out
          exact bodyPost_ret (v := .tuple #[.agg #[.int .i64 0, .int .i64 0, .int .i64 0], .int .i64 3]) (by simp [results, Try.results30, go_sem, z0, z1, z2]) rfl ⟨by rw [pH.out.1, pH.out.2.1, pH.out.2.2.1, pH.out.2.2.2], zb⟩
        · generalize Wk.cB s 0 = c at *
          have pH := Lib.hid (Wk.p_bad (Wk.okF_no (by omega) a))
          clear a
          obtain ⟨rt, r0, r1, r2, x0, x1, x2⟩ := hRH.out
          go_wp2_with fail
          obtain ⟨zb, _, z0, z1, z2, _, _, _⟩ := zero_stored hb hRH.out
          exact bodyPost_ret (v := .tuple #[.agg #[.int .i64 0, .int .i64 0, .int .i64 0], .int .i64 3]) (by simp [results, Try.results30, go_sem, z0, z1, z2]) rfl ⟨by rw [pH.out.1, pH.out.2.1, pH.out.2.2.1, pH.out.2.2.2], zb⟩
        · exact absurd rfl n
      · have hfm : (((⟨#[100, 100, 100, 100, 45, 87, 100, 100, 45, 100]⟩ : ByteArray)[1]'(by decide)).toNat : Int) = 100 := by rfl
        rcases hWays.out 1 with ⟨_, ⟨a, q1, q2⟩ | ⟨a, q | ⟨q, q2⟩⟩⟩ | ⟨n, _⟩
        · have aH := Lib.hid a
          obtain ⟨c, hc⟩ : ∃ c, Wk.cB s 1 = c := ⟨_, rfl⟩
          rw [hc] at hget hbd q1 q2
          have hcH := Lib.hid hc
          clear a hc
          obtain ⟨n, hn⟩ : ∃ n, (Wk.dl s 1).length = n := ⟨_, rfl⟩
          rw [hn] at hlen
          have hnH := Lib.hid hn
          clear hn
          go_wp2_with (first | (at_builtin; refine wpList_append_own _ rfl _ _ 66 rfl (w.heap.size + 1) 3 i0 (.int .i64 0) 1 8 Try.underlying66 hi' hz0 hz1 hz2 rfl (by decide) _ n _ rfl (own_in hOH.out hnH.out _) ⟨wr.heap.size, 0, none⟩ 1 1 [.int .i64 (c - 48)] rfl rfl (news1 _ _ _) (one1 _) (by unfold maxLen; omega) (by omega) (by have := hRH.out.lt; simp; omega) ?_; intro v' w5 hown hgrow _; have RH := Lib.hid (own_push hnH.out hb (Nat.le_succ _) hRH.out.lt hOH.out hown hgrow); clear hown hgrow))
          go_roundg (gk - 1)
          case measure => omega
          case rel => exact ⟨2, by omega, by go_num, okc_next hokH.out aH.out, RH.out.1, hRH.out.keep RH.out.2.1 (by omega), own_dig rfl hcH.out RH.out.2.2, by omega⟩
        · generalize Wk.cB s 1 = c at *
          have pH := Lib.hid (Wk.p_bad (Wk.okF_no (by omega) a))
          clear a
          obtain ⟨rt, r0, r1, r2, x0, x1, x2⟩ := hRH.out
          go_wp2_with fail
          obtain ⟨zb, _, z0, z1, z2, _, _, _⟩ := zero_stored hb hRH.out
          exact bodyPost_ret (v := .tuple #[.agg #[.int .i64 0, .int .i64 0, .int .i64 0], .int .i64 3]) (by simp [results, Try.results30, go_sem, z0, z1, z2]) rfl ⟨by rw [pH.out.1, pH.out.2.1, pH.out.2.2.1, pH.out.2.2.2], zb⟩
        · generalize Wk.cB s 1 = c at *
          have pH := Lib.hid (Wk.p_bad (Wk.okF_no (by omega) a))
          clear a
          obtain ⟨rt, r0, r1, r2, x0, x1, x2⟩ := hRH.out
          go_wp2_with fail
          obtain ⟨zb, _, z0, z1, z2, _, _, _⟩ := zero_stored hb hRH.out
          exact bodyPost_ret (v := .tuple #[.agg #[.int .i64 0, .int .i64 0, .int .i64 0], .int .i64 3]) (by simp [results, Try.results30, go_sem, z0, z1, z2]) rfl ⟨by rw [pH.out.1, pH.out.2.1, pH.out.2.2.1, pH.out.2.2.2], zb⟩
        · exact absurd rfl n
      · have hfm : (((⟨#[100, 100, 100, 100, 45, 87, 100, 100, 45, 100]⟩ : ByteArray)[2]'(by decide)).toNat : Int) = 100 := by rfl
        rcases hWays.out 2 with ⟨_, ⟨a, q1, q2⟩ | ⟨a, q | ⟨q, q2⟩⟩⟩ | ⟨n, _⟩
        · have aH := Lib.hid a
          obtain ⟨c, hc⟩ : ∃ c, Wk.cB s 2 = c := ⟨_, rfl⟩
          rw [hc] at hget hbd q1 q2
          have hcH := Lib.hid hc
          clear a hc
          obtain ⟨n, hn⟩ : ∃ n, (Wk.dl s 2).length = n := ⟨_, rfl⟩
          rw [hn] at hlen
          have hnH := Lib.hid hn
          clear hn
          go_wp2_with (first | (at_builtin; refine wpList_append_own _ rfl _ _ 66 rfl (w.heap.size + 1) 3 i0 (.int .i64 0) 1 8 Try.underlying66 hi' hz0 hz1 hz2 rfl (by decide) _ n _ rfl (own_in hOH.out hnH.out _) ⟨wr.heap.size, 0, none⟩ 1 1 [.int .i64 (c - 48)] rfl rfl (news1 _ _ _) (one1 _) (by unfold maxLen; omega) (by omega) (by have := hRH.out.lt; simp; omega) ?_; intro v' w5 hown hgrow _; have RH := Lib.hid (own_push hnH.out hb (Nat.le_succ _) hRH.out.lt hOH.out hown hgrow); clear hown hgrow))
          go_roundg (gk - 1)
          case measure => omega
          case rel => exact ⟨3, by omega, by go_num, okc_next hokH.out aH.out, RH.out.1, hRH.out.keep RH.out.2.1 (by omega), own_dig rfl hcH.out RH.out.2.2, by omega⟩
        · generalize Wk.cB s 2 = c at *
          have pH := Lib.hid (Wk.p_bad (Wk.okF_no (by omega) a))
          clear a
          obtain ⟨rt, r0, r1, r2, x0, x1, x2⟩ := hRH.out
          go_wp2_with fail
          obtain ⟨zb, _, z0, z1, z2, _, _, _⟩ := zero_stored hb hRH.out
          exact bodyPost_ret (v := .tuple #[.agg #[.int .i64 0, .int .i64 0, .int .i64 0], .int .i64 3]) (by simp [results, Try.results30, go_sem, z0, z1, z2]) rfl ⟨by rw [pH.out.1, pH.out.2.1, pH.out.2.2.1, pH.out.2.2.2], zb⟩
        · generalize Wk.cB s 2 = c at *
          have pH := Lib.hid (Wk.p_bad (Wk.okF_no (by omega) a))
          clear a
          obtain ⟨rt, r0, r1, r2, x0, x1, x2⟩ := hRH.out
          go_wp2_with fail
          obtain ⟨zb, _, z0, z1, z2, _, _, _⟩ := zero_stored hb hRH.out
          exact bodyPost_ret (v := .tuple #[.agg #[.int .i64 0, .int .i64 0, .int .i64 0], .int .i64 3]) (by simp [results, Try.results30, go_sem, z0, z1, z2]) rfl ⟨by rw [pH.out.1, pH.out.2.1, pH.out.2.2.1, pH.out.2.2.2], zb⟩
        · exact absurd rfl n
      · have hfm : (((⟨#[100, 100, 100, 100, 45, 87, 100, 100, 45, 100]⟩ : ByteArray)[3]'(by decide)).toNat : Int) = 100 := by rfl
        rcases hWays.out 3 with ⟨_, ⟨a, q1, q2⟩ | ⟨a, q | ⟨q, q2⟩⟩⟩ | ⟨n, _⟩
        · have aH := Lib.hid a
          obtain ⟨c, hc⟩ : ∃ c, Wk.cB s 3 = c := ⟨_, rfl⟩
          rw [hc] at hget hbd q1 q2
          have hcH := Lib.hid hc
          clear a hc
          obtain ⟨n, hn⟩ : ∃ n, (Wk.dl s 3).length = n := ⟨_, rfl⟩
          rw [hn] at hlen
          have hnH := Lib.hid hn
          clear hn
          go_wp2_with (first | (at_builtin; refine wpList_append_own _ rfl _ _ 66 rfl (w.heap.size + 1) 3 i0 (.int .i64 0) 1 8 Try.underlying66 hi' hz0 hz1 hz2 rfl (by decide) _ n _ rfl (own_in hOH.out hnH.out _) ⟨wr.heap.size, 0, none⟩ 1 1 [.int .i64 (c - 48)] rfl rfl (news1 _ _ _) (one1 _) (by unfold maxLen; omega) (by omega) (by have := hRH.out.lt; simp; omega) ?_; intro v' w5 hown hgrow _; have RH := Lib.hid (own_push hnH.out hb (Nat.le_succ _) hRH.out.lt hOH.out hown hgrow); clear hown hgrow))
          go_roundg (gk - 1)
          case measure => omega
          case rel => exact ⟨4, by omega, by go_num, okc_next hokH.out aH.out, RH.out.1, hRH.out.keep RH.out.2.1 (by omega), own_dig rfl hcH.out RH.out.2.2, by omega⟩
        · generalize Wk.cB s 3 = c at *
          have pH := Lib.hid (Wk.p_bad (Wk.okF_no (by omega) a))
          clear a
          obtain ⟨rt, r0, r1, r2, x0, x1, x2⟩ := hRH.out
          go_wp2_with fail
          obtain ⟨zb, _, z0, z1, z2, _, _, _⟩ := zero_stored hb hRH.out
          exact bodyPost_ret (v := .tuple #[.agg #[.int .i64 0, .int .i64 0, .int .i64 0], .int .i64 3]) (by simp [results, Try.results30, go_sem, z0, z1, z2]) rfl ⟨by rw [pH.out.1, pH.out.2.1, pH.out.2.2.1, pH.out.2.2.2], zb⟩
        · generalize Wk.cB s 3 = c at *
          have pH := Lib.hid (Wk.p_bad (Wk.okF_no (by omega) a))
          clear a
          obtain ⟨rt, r0, r1, r2, x0, x1, x2⟩ := hRH.out
          go_wp2_with fail
          obtain ⟨zb, _, z0, z1, z2, _, _, _⟩ := zero_stored hb hRH.out
          exact bodyPost_ret (v := .tuple #[.agg #[.int .i64 0, .int .i64 0, .int .i64 0], .int .i64 3]) (by simp [results, Try.results30, go_sem, z0, z1, z2]) rfl ⟨by rw [pH.out.1, pH.out.2.1, pH.out.2.2.1, pH.out.2.2.2], zb⟩
        · exact absurd rfl n
      · have hfm : (((⟨#[100, 100, 100, 100, 45, 87, 100, 100, 45, 100]⟩ : ByteArray)[4]'(by decide)).toNat : Int) = 45 := by rfl
        rcases hWays.out 4 with ⟨n, _⟩ | ⟨_, ⟨a, q⟩ | ⟨a, q⟩⟩
        · exact absurd n (by decide)
        · have aH := Lib.hid a
          clear a
          rw [q] at hget
          rw [show Wk.fm 4 = 45 by rfl] at hget
          clear q hbd
          go_wp2_with fail
          go_region
          all_goals (try go_wp2_with fail)
          go_roundg (gk - 1)
          case measure => omega
          case rel => exact ⟨5, by omega, by go_num, okc_next hokH.out aH.out, below_drewN hb 1, Box3.drewN hRH.out 1, own_fix (by decide) (Own.drewN hOH.out 1), by omega⟩
        · rw [show Wk.fm 4 = 45 by rfl] at q
          generalize Wk.cB s 4 = c at hget hbd q
          have qb : (c != 45) = true := by simpa using q
          have pH := Lib.hid (Wk.p_bad (Wk.okF_no (by omega) a))
          clear a q
          obtain ⟨rt, r0, r1, r2, x0, x1, x2⟩ := hRH.out
          go_wp2_with fail
          go_region
          all_goals (try go_wp2_with fail)
          have hb1 : Below w.heap.size w wr.drew := below_drewN hb 1
          have hR1 : Box3 wr.drew w.heap.size (.int .i64 0) (.int .i64 0) (.int .i64 0) := Box3.drewN hRH.out 1
          obtain ⟨zb, _⟩ := zero_stored hb1 hR1
          obtain ⟨_, _, z0, z1, z2, _, _, _⟩ := zero_stored hb hRH.out
          exact bodyPost_ret (v := .tuple #[.agg #[.int .i64 0, .int .i64 0, .int .i64 0], .int .i64 3]) (by simp [results, Try.results30, go_sem, z0, z1, z2]) rfl ⟨by rw [pH.out.1, pH.out.2.1, pH.out.2.2.1, pH.out.2.2.2], zb⟩
      · have hfm : (((⟨#[100, 100, 100, 100, 45, 87, 100, 100, 45, 100]⟩ : ByteArray)[5]'(by decide)).toNat : Int) = 87 := by rfl
        rcases hWays.out 5 with ⟨n, _⟩ | ⟨_, ⟨a, q⟩ | ⟨a, q⟩⟩
        · exact absurd n (by decide)
        · have aH := Lib.hid a
          clear a
          rw [q] at hget
          rw [show Wk.fm 5 = 87 by rfl] at hget
          clear q hbd
          go_wp2_with fail
          go_region
          all_goals (try go_wp2_with fail)
          go_roundg (gk - 1)
          case measure => omega
          case rel => exact ⟨6, by omega, by go_num, okc_next hokH.out aH.out, below_drewN hb 1, Box3.drewN hRH.out 1, own_fix (by decide) (Own.drewN hOH.out 1), by omega⟩
        · rw [show Wk.fm 5 = 87 by rfl] at q
          generalize Wk.cB s 5 = c at hget hbd q
          have qb : (c != 87) = true := by simpa using q
          have pH := Lib.hid (Wk.p_bad (Wk.okF_no (by omega) a))
          clear a q
          obtain ⟨rt, r0, r1, r2, x0, x1, x2⟩ := hRH.out
          go_wp2_with fail
          go_region
          all_goals (try go_wp2_with fail)
          have hb1 : Below w.heap.size w wr.drew := below_drewN hb 1
          have hR1 : Box3 wr.drew w.heap.size (.int .i64 0) (.int .i64 0) (.int .i64 0) := Box3.drewN hRH.out 1
          obtain ⟨zb, _⟩ := zero_stored hb1 hR1
          obtain ⟨_, _, z0, z1, z2, _, _, _⟩ := zero_stored hb hRH.out
          exact bodyPost_ret (v := .tuple #[.agg #[.int .i64 0, .int .i64 0, .int .i64 0], .int .i64 3]) (by simp [results, Try.results30, go_sem, z0, z1, z2]) rfl ⟨by rw [pH.out.1, pH.out.2.1, pH.out.2.2.1, pH.out.2.2.2], zb⟩
      · have hfm : (((⟨#[100, 100, 100, 100, 45, 87, 100, 100, 45, 100]⟩ : ByteArray)[6]'(by decide)).toNat : Int) = 100 := by rfl
        rcases hWays.out 6 with ⟨_, ⟨a, q1, q2⟩ | ⟨a, q | ⟨q, q2⟩⟩⟩ | ⟨n, _⟩
        · have aH := Lib.hid a
          obtain ⟨c, hc⟩ : ∃ c, Wk.cB s 6 = c := ⟨_, rfl⟩
          rw [hc] at hget hbd q1 q2
          have hcH := Lib.hid hc
          clear a hc
          obtain ⟨n, hn⟩ : ∃ n, (Wk.dl s 6).length = n := ⟨_, rfl⟩
          rw [hn] at hlen
          have hnH := Lib.hid hn
          clear hn
          go_wp2_with (first | (at_builtin; refine wpList_append_own _ rfl _ _ 66 rfl (w.heap.size + 1) 3 i0 (.int .i64 0) 1 8 Try.underlying66 hi' hz0 hz1 hz2 rfl (by decide) _ n _ rfl (own_in hOH.out hnH.out _) ⟨wr.heap.size, 0, none⟩ 1 1 [.int .i64 (c - 48)] rfl rfl (news1 _ _ _) (one1 _) (by unfold maxLen; omega) (by omega) (by have := hRH.out.lt; simp; omega) ?_; intro v' w5 hown hgrow _; have RH := Lib.hid (own_push hnH.out hb (Nat.le_succ _) hRH.out.lt hOH.out hown hgrow); clear hown hgrow))
          go_roundg (gk - 1)
          case measure => omega
          case rel => exact ⟨7, by omega, by go_num, okc_next hokH.out aH.out, RH.out.1, hRH.out.keep RH.out.2.1 (by omega), own_dig rfl hcH.out RH.out.2.2, by omega⟩
        · generalize Wk.cB s 6 = c at *
          have pH := Lib.hid (Wk.p_bad (Wk.okF_no (by omega) a))
          clear a
          obtain ⟨rt, r0, r1, r2, x0, x1, x2⟩ := hRH.out
          go_wp2_with fail
          obtain ⟨zb, _, z0, z1, z2, _, _, _⟩ := zero_stored hb hRH.out
          exact bodyPost_ret (v := .tuple #[.agg #[.int .i64 0, .int .i64 0, .int .i64 0], .int .i64 3]) (by simp [results, Try.results30, go_sem, z0, z1, z2]) rfl ⟨by rw [pH.out.1, pH.out.2.1, pH.out.2.2.1, pH.out.2.2.2], zb⟩
        · generalize Wk.cB s 6 = c at *
          have pH := Lib.hid (Wk.p_bad (Wk.okF_no (by omega) a))
          clear a
          obtain ⟨rt, r0, r1, r2, x0, x1, x2⟩ := hRH.out
          go_wp2_with fail
          obtain ⟨zb, _, z0, z1, z2, _, _, _⟩ := zero_stored hb hRH.out
          exact bodyPost_ret (v := .tuple #[.agg #[.int .i64 0, .int .i64 0, .int .i64 0], .int .i64 3]) (by simp [results, Try.results30, go_sem, z0, z1, z2]) rfl ⟨by rw [pH.out.1, pH.out.2.1, pH.out.2.2.1, pH.out.2.2.2], zb⟩
        · exact absurd rfl n
      · have hfm : (((⟨#[100, 100, 100, 100, 45, 87, 100, 100, 45, 100]⟩ : ByteArray)[7]'(by decide)).toNat : Int) = 100 := by rfl
        rcases hWays.out 7 with ⟨_, ⟨a, q1, q2⟩ | ⟨a, q | ⟨q, q2⟩⟩⟩ | ⟨n, _⟩
        · have aH := Lib.hid a
          obtain ⟨c, hc⟩ : ∃ c, Wk.cB s 7 = c := ⟨_, rfl⟩
          rw [hc] at hget hbd q1 q2
          have hcH := Lib.hid hc
          clear a hc
          obtain ⟨n, hn⟩ : ∃ n, (Wk.dl s 7).length = n := ⟨_, rfl⟩
          rw [hn] at hlen
          have hnH := Lib.hid hn
          clear hn
          go_wp2_with (first | (at_builtin; refine wpList_append_own _ rfl _ _ 66 rfl (w.heap.size + 1) 3 i0 (.int .i64 0) 1 8 Try.underlying66 hi' hz0 hz1 hz2 rfl (by decide) _ n _ rfl (own_in hOH.out hnH.out _) ⟨wr.heap.size, 0, none⟩ 1 1 [.int .i64 (c - 48)] rfl rfl (news1 _ _ _) (one1 _) (by unfold maxLen; omega) (by omega) (by have := hRH.out.lt; simp; omega) ?_; intro v' w5 hown hgrow _; have RH := Lib.hid (own_push hnH.out hb (Nat.le_succ _) hRH.out.lt hOH.out hown hgrow); clear hown hgrow))
          go_roundg (gk - 1)
          case measure => omega
          case rel => exact ⟨8, by omega, by go_num, okc_next hokH.out aH.out, RH.out.1, hRH.out.keep RH.out.2.1 (by omega), own_dig rfl hcH.out RH.out.2.2, by omega⟩
        · generalize Wk.cB s 7 = c at *
          have pH := Lib.hid (Wk.p_bad (Wk.okF_no (by omega) a))
          clear a
          obtain ⟨rt, r0, r1, r2, x0, x1, x2⟩ := hRH.out
          go_wp2_with fail
          obtain ⟨zb, _, z0, z1, z2, _, _, _⟩ := zero_stored hb hRH.out
          exact bodyPost_ret (v := .tuple #[.agg #[.int .i64 0, .int .i64 0, .int .i64 0], .int .i64 3]) (by simp [results, Try.results30, go_sem, z0, z1, z2]) rfl ⟨by rw [pH.out.1, pH.out.2.1, pH.out.2.2.1, pH.out.2.2.2], zb⟩
        · generalize Wk.cB s 7 = c at *
          have pH := Lib.hid (Wk.p_bad (Wk.okF_no (by omega) a))
          clear a
          obtain ⟨rt, r0, r1, r2, x0, x1, x2⟩ := hRH.out
          go_wp2_with fail
          obtain ⟨zb, _, z0, z1, z2, _, _, _⟩ := zero_stored hb hRH.out
          exact bodyPost_ret (v := .tuple #[.agg #[.int .i64 0, .int .i64 0, .int .i64 0], .int .i64 3]) (by simp [results, Try.results30, go_sem, z0, z1, z2]) rfl ⟨by rw [pH.out.1, pH.out.2.1, pH.out.2.2.1, pH.out.2.2.2], zb⟩
        · exact absurd rfl n
      · have hfm : (((⟨#[100, 100, 100, 100, 45, 87, 100, 100, 45, 100]⟩ : ByteArray)[8]'(by decide)).toNat : Int) = 45 := by rfl
        rcases hWays.out 8 with ⟨n, _⟩ | ⟨_, ⟨a, q⟩ | ⟨a, q⟩⟩
        · exact absurd n (by decide)
        · have aH := Lib.hid a
          clear a
          rw [q] at hget
          rw [show Wk.fm 8 = 45 by rfl] at hget
          clear q hbd
          go_wp2_with fail
          go_region
          all_goals (try go_wp2_with fail)
          go_roundg (gk - 1)
          case measure => omega
          case rel => exact ⟨9, by omega, by go_num, okc_next hokH.out aH.out, below_drewN hb 1, Box3.drewN hRH.out 1, own_fix (by decide) (Own.drewN hOH.out 1), by omega⟩
        · rw [show Wk.fm 8 = 45 by rfl] at q
          generalize Wk.cB s 8 = c at hget hbd q
          have qb : (c != 45) = true := by simpa using q
          have pH := Lib.hid (Wk.p_bad (Wk.okF_no (by omega) a))
          clear a q
          obtain ⟨rt, r0, r1, r2, x0, x1, x2⟩ := hRH.out
          go_wp2_with fail
          go_region
          all_goals (try go_wp2_with fail)
          have hb1 : Below w.heap.size w wr.drew := below_drewN hb 1
          have hR1 : Box3 wr.drew w.heap.size (.int .i64 0) (.int .i64 0) (.int .i64 0) := Box3.drewN hRH.out 1
          obtain ⟨zb, _⟩ := zero_stored hb1 hR1
          obtain ⟨_, _, z0, z1, z2, _, _, _⟩ := zero_stored hb hRH.out
          exact bodyPost_ret (v := .tuple #[.agg #[.int .i64 0, .int .i64 0, .int .i64 0], .int .i64 3]) (by simp [results, Try.results30, go_sem, z0, z1, z2]) rfl ⟨by rw [pH.out.1, pH.out.2.1, pH.out.2.2.1, pH.out.2.2.2], zb⟩
      · have hfm : (((⟨#[100, 100, 100, 100, 45, 87, 100, 100, 45, 100]⟩ : ByteArray)[9]'(by decide)).toNat : Int) = 100 := by rfl
        rcases hWays.out 9 with ⟨_, ⟨a, q1, q2⟩ | ⟨a, q | ⟨q, q2⟩⟩⟩ | ⟨n, _⟩
        · have aH := Lib.hid a
          obtain ⟨c, hc⟩ : ∃ c, Wk.cB s 9 = c := ⟨_, rfl⟩
          rw [hc] at hget hbd q1 q2
          have hcH := Lib.hid hc
          clear a hc
          obtain ⟨n, hn⟩ : ∃ n, (Wk.dl s 9).length = n := ⟨_, rfl⟩
          rw [hn] at hlen
          have hnH := Lib.hid hn
          clear hn
          go_wp2_with (first | (at_builtin; refine wpList_append_own _ rfl _ _ 66 rfl (w.heap.size + 1) 3 i0 (.int .i64 0) 1 8 Try.underlying66 hi' hz0 hz1 hz2 rfl (by decide) _ n _ rfl (own_in hOH.out hnH.out _) ⟨wr.heap.size, 0, none⟩ 1 1 [.int .i64 (c - 48)] rfl rfl (news1 _ _ _) (one1 _) (by unfold maxLen; omega) (by omega) (by have := hRH.out.lt; simp; omega) ?_; intro v' w5 hown hgrow _; have RH := Lib.hid (own_push hnH.out hb (Nat.le_succ _) hRH.out.lt hOH.out hown hgrow); clear hown hgrow))
          go_roundg (gk - 1)
          case measure => omega
          case rel => exact ⟨10, by omega, by go_num, okc_next hokH.out aH.out, RH.out.1, hRH.out.keep RH.out.2.1 (by omega), own_dig rfl hcH.out RH.out.2.2, by omega⟩
        · generalize Wk.cB s 9 = c at *
          have pH := Lib.hid (Wk.p_bad (Wk.okF_no (by omega) a))
          clear a
          obtain ⟨rt, r0, r1, r2, x0, x1, x2⟩ := hRH.out
          go_wp2_with fail
          obtain ⟨zb, _, z0, z1, z2, _, _, _⟩ := zero_stored hb hRH.out
          exact bodyPost_ret (v := .tuple #[.agg #[.int .i64 0, .int .i64 0, .int .i64 0], .int .i64 3]) (by simp [results, Try.results30, go_sem, z0, z1, z2]) rfl ⟨by rw [pH.out.1, pH.out.2.1, pH.out.2.2.1, pH.out.2.2.2], zb⟩
        · generalize Wk.cB s 9 = c at *
          have pH := Lib.hid (Wk.p_bad (Wk.okF_no (by omega) a))
          clear a
          obtain ⟨rt, r0, r1, r2, x0, x1, x2⟩ := hRH.out
          go_wp2_with fail
          obtain ⟨zb, _, z0, z1, z2, _, _, _⟩ := zero_stored hb hRH.out
          exact bodyPost_ret (v := .tuple #[.agg #[.int .i64 0, .int .i64 0, .int .i64 0], .int .i64 3]) (by simp [results, Try.results30, go_sem, z0, z1, z2]) rfl ⟨by rw [pH.out.1, pH.out.2.1, pH.out.2.2.1, pH.out.2.2.2], zb⟩
        · exact absurd rfl n
    · obtain rfl : j = 10 := by omega
      have hF := Wk.okF_all hsH.out hokH.out
      have b0 := ok_dig (hokH.out 0 (by omega)) rfl
      have b1 := ok_dig (hokH.out 1 (by omega)) rfl
      have b2 := ok_dig (hokH.out 2 (by omega)) rfl
      have b3 := ok_dig (hokH.out 3 (by omega)) rfl
      have b4 := ok_dig (hokH.out 6 (by omega)) rfl
      have b5 := ok_dig (hokH.out 7 (by omega)) rfl
      have b6 := ok_dig (hokH.out 9 (by omega)) rfl
      have ey : Wk.pvY s = 1000 * (Wk.cB s 0 - 48) + 100 * (Wk.cB s 1 - 48) + 10 * (Wk.cB s 2 - 48) + (Wk.cB s 3 - 48) := rfl
      have ek : Wk.pvK s = 10 * (Wk.cB s 6 - 48) + (Wk.cB s 7 - 48) := rfl
      have ed : Wk.pvD s = Wk.cB s 9 - 48 := rfl
      have hO := hOH.out
      rw [Wk.dl_10 s] at hO
      generalize Wk.cB s 0 - 48 = D0 at b0 ey hO
      generalize Wk.cB s 1 - 48 = D1 at b1 ey hO
      generalize Wk.cB s 2 - 48 = D2 at b2 ey hO
      generalize Wk.cB s 3 - 48 = D3 at b3 ey hO
      generalize Wk.cB s 6 - 48 = D4 at b4 ek hO
      generalize Wk.cB s 7 - 48 = D5 at b5 ek hO
      generalize Wk.cB s 9 - 48 = D6 at b6 ed hO
      obtain ⟨b, cap, rfl, hB, _, hI⟩ := hO.row (by simp)
      have l0 : wr.cell? ⟨b, 0, none⟩ = some (.int .i64 D0) := hI.2 0 (by simp)
      have l1 : wr.cell? ⟨b, 1, none⟩ = some (.int .i64 D1) := hI.2 1 (by simp)
      have l2 : wr.cell? ⟨b, 2, none⟩ = some (.int .i64 D2) := hI.2 2 (by simp)
      have l3 : wr.cell? ⟨b, 3, none⟩ = some (.int .i64 D3) := hI.2 3 (by simp)
      have l4 : wr.cell? ⟨b, 4, none⟩ = some (.int .i64 D4) := hI.2 4 (by simp)
      have l5 : wr.cell? ⟨b, 5, none⟩ = some (.int .i64 D5) := hI.2 5 (by simp)
      have l6 : wr.cell? ⟨b, 6, none⟩ = some (.int .i64 D6) := hI.2 6 (by simp)
      have la := fun (o : Obj) (i : Nat) (v : Value) (h : wr.cell? ⟨b, i, none⟩ = some v) => keep1 ((Below.refl _ _).alloc (Nat.le_refl _) o) hI.1 h
      have k6 := fun o => la o 6 _ l6
      have k5 := fun o => la o 5 _ l5
      have k4 := fun o => la o 4 _ l4
      have k3 := fun o => la o 3 _ l3
      have k2 := fun o => la o 2 _ l2
      have k1 := fun o => la o 1 _ l1
      have k0 := fun o => la o 0 _ l0
      clear la
      clear hO hOH hokH hlen
      have hP : (Wk.shB (1000 * D0 + 100 * D1 + 10 * D2 + D3) (10 * D4 + D5) D6 = false ∧ Wk.pE s = 2 ∧ Wk.pY s = 0 ∧ Wk.pK s = 0 ∧ Wk.pD s = 0) ∨ (Wk.shB (1000 * D0 + 100 * D1 + 10 * D2 + D3) (10 * D4 + D5) D6 = true ∧ Wk.pE s = 0 ∧ Wk.pY s = 1000 * D0 + 100 * D1 + 10 * D2 + D3 ∧ Wk.pK s = 10 * D4 + D5 ∧ Wk.pD s = D6) := by
        rw [← ey, ← ek, ← ed]
        cases q : Wk.shB (Wk.pvY s) (Wk.pvK s) (Wk.pvD s)
        · exact Or.inl ⟨rfl, Wk.p_none hF q⟩
        · exact Or.inr ⟨rfl, Wk.p_good hF q⟩
      clear ey ek ed hF
      have hPH := Lib.hid hP
      clear hP
      go_upto_region 14 with fail
      go_cut [6] from 46 (fun s6 wx => s6 = .pointer (some ⟨wr.heap.size, 0, none⟩) ∧ wx = (wr.alloc (Obj.cells #[.int .i64 (1000 * D0 + 100 * D1 + 10 * D2 + D3), .int .i64 (10 * D4 + D5), .int .i64 D6] 26)).drew)
      case first =>
        have lt := hI.1
        clear k0 k1 k2 k3 k4 k5 k6 hWays hBd hLen hPH
        go_region_held3 (fun w' => w'.cell? ⟨b, 0, none⟩ = some (.int .i64 D0) ∧ w'.cell? ⟨b, 1, none⟩ = some (.int .i64 D1) ∧ w'.cell? ⟨b, 2, none⟩ = some (.int .i64 D2) ∧ w'.cell? ⟨b, 3, none⟩ = some (.int .i64 D3) ∧ w'.cell? ⟨b, 4, none⟩ = some (.int .i64 D4) ∧ w'.cell? ⟨b, 5, none⟩ = some (.int .i64 D5) ∧ w'.cell? ⟨b, 6, none⟩ = some (.int .i64 D6))
          (first | go_keep | skip)
          (first | fail)
        simp (disch := omega) only [IntWalk.i64_in]
        go_wp2_with fail
        go_meet
        exact ⟨rfl, rfl⟩
      case rest =>
      obtain ⟨rfl, rfl⟩ := hcut
      clear k0 k1 k2 k3 k4 k5 k6 l0 l1 l2 l3 l4 l5 l6
      go_wp2_with fail
      refine (kshown_any _ _ _ _).mono ?_; rintro e w5 ⟨rfl, hb5⟩
      have hX := Lib.hid ((Box3.drewN (Box3.new wr (.int .i64 (1000 * D0 + 100 * D1 + 10 * D2 + D3)) (.int .i64 (10 * D4 + D5)) (.int .i64 D6) 26) 1).later hb5)
      have hR5 := Lib.hid ((Box3.drewN (hRH.out.alloc _) 1).later hb5)
      have hb9 := below_then (below_drewN (below_alloc1 hb _) 1) hb5
      clear hb5 hRH hb
      obtain ⟨_, g0, g1, g2, _, _, _⟩ := hX.out
      obtain ⟨_, r0, r1, r2, x0, x1, x2⟩ := hR5.out
      rcases hPH.out with ⟨hsh, hp⟩ | ⟨hsh, hp⟩
      all_goals
        have pH := Lib.hid hp
        rw [hsh]
        clear hsh hp
        go_wp2_with fail
      · obtain ⟨zb, _, z0, z1, z2, _, _, _⟩ := zero_stored hb9 hR5.out
        exact bodyPost_ret (v := .tuple #[.agg #[.int .i64 0, .int .i64 0, .int .i64 0], .int .i64 2]) (by simp [results, Try.results30, go_sem, z0, z1, z2]) rfl ⟨by rw [pH.out.1, pH.out.2.1, pH.out.2.2.1, pH.out.2.2.2], zb⟩
      · have R3 := (((hR5.out.set0 (.int .i64 (1000 * D0 + 100 * D1 + 10 * D2 + D3))).set1 (.int .i64 (10 * D4 + D5))).set2 (.int .i64 D6))
        have B3 := ((hb9.setCell (p := ⟨w.heap.size, 0, none⟩) (Nat.le_refl _) (.int .i64 (1000 * D0 + 100 * D1 + 10 * D2 + D3))).setCell (p := ⟨w.heap.size, 1, none⟩) (Nat.le_refl _) (.int .i64 (10 * D4 + D5))).setCell (p := ⟨w.heap.size, 2, none⟩) (Nat.le_refl _) (.int .i64 D6)
        obtain ⟨_, z0, z1, z2, _, _, _⟩ := R3
        exact bodyPost_ret (v := .tuple #[.agg #[.int .i64 (1000 * D0 + 100 * D1 + 10 * D2 + D3), .int .i64 (10 * D4 + D5), .int .i64 D6], .int .i64 0]) (by simp [results, Try.results30, go_sem, z0, z1, z2]) rfl ⟨by rw [pH.out.1, pH.out.2.1, pH.out.2.2.1, pH.out.2.2.2], B3⟩
theorem kparse_any (s : ByteArray) (w : World) (hs : s.size ≤ 100) :
    Calls Try.prog 30 #[.string s] w fun e w' => e = .returned (.tuple #[.agg #[.int .i64 (Wk.pY s), .int .i64 (Wk.pK s), .int .i64 (Wk.pD s)], .int .i64 (Wk.pE s)]) ∧ Below w.heap.size w w' := by
  by_cases h : s.size = 10
  · exact kparse_ten s w h
  · exact kparse_size s w h hs
end Go.Proofs.Ytajpbajffmiceaa
