/- Texts and parsing undo each other: plain facts. No conditions. -/
import Derived.Test.YtajpbajffmiceaaWkW
namespace Wk
theorem cB_tx {y k d : Int} (h : shB y k d = true) (i : Nat) : cB (tx y k d) i = (((tl y k d).getD i 0).toNat : Int) := by
  unfold cB tx
  rw [if_pos h]
  simp [List.getD, Array.getD_eq_getD_getElem?]
theorem tx_cB {y k d : Int} (h : shB y k d = true) : (tx y k d).size = 10 ∧ cB (tx y k d) 0 = 48 + y / 1000 ∧ cB (tx y k d) 1 = 48 + y / 100 % 10 ∧ cB (tx y k d) 2 = 48 + y / 10 % 10 ∧ cB (tx y k d) 3 = 48 + y % 10 ∧ cB (tx y k d) 4 = 45 ∧ cB (tx y k d) 5 = 87 ∧ cB (tx y k d) 6 = 48 + k / 10 ∧ cB (tx y k d) 7 = 48 + k % 10 ∧ cB (tx y k d) 8 = 45 ∧ cB (tx y k d) 9 = 48 + d := by
  obtain ⟨y1, y2, k1, k2, d1, d2⟩ := shB_iff.1 h
  refine ⟨by unfold tx; rw [if_pos h]; simp [ByteArray.size, tl], ?_, ?_, ?_, ?_, ?_, ?_, ?_, ?_, ?_, ?_⟩
  all_goals rw [cB_tx h]
  all_goals simp only [tl, List.getD_cons_zero, List.getD_cons_succ]
  · exact dig_nat (by omega) (by omega)
  · exact dig_nat (by omega) (by omega)
  · exact dig_nat (by omega) (by omega)
  · exact dig_nat (by omega) (by omega)
  · rfl
  · rfl
  · exact dig_nat (by omega) (by omega)
  · exact dig_nat (by omega) (by omega)
  · rfl
  · exact dig_nat (by omega) (by omega)
/-- a text is parsed as its date -/
theorem tx_parse {y k d : Int} (h : shB y k d = true) : (tx y k d).size = 10 ∧ pE (tx y k d) = 0 ∧ pY (tx y k d) = y ∧ pK (tx y k d) = k ∧ pD (tx y k d) = d := by
  obtain ⟨y1, y2, k1, k2, d1, d2⟩ := shB_iff.1 h
  obtain ⟨hs, c0, c1, c2, c3, c4, c5, c6, c7, c8, c9⟩ := tx_cB h
  have hF : okF (tx y k d) = true := by
    refine okF_all hs fun i hi => ?_
    have : i = 0 ∨ i = 1 ∨ i = 2 ∨ i = 3 ∨ i = 4 ∨ i = 5 ∨ i = 6 ∨ i = 7 ∨ i = 8 ∨ i = 9 := by omega
    rcases this with rfl | rfl | rfl | rfl | rfl | rfl | rfl | rfl | rfl | rfl
    · rw [okc_dig rfl, c0]; exact decide_eq_true (by omega)
    · rw [okc_dig rfl, c1]; exact decide_eq_true (by omega)
    · rw [okc_dig rfl, c2]; exact decide_eq_true (by omega)
    · rw [okc_dig rfl, c3]; exact decide_eq_true (by omega)
    · rw [okc_fix (by decide), c4]; rfl
    · rw [okc_fix (by decide), c5]; rfl
    · rw [okc_dig rfl, c6]; exact decide_eq_true (by omega)
    · rw [okc_dig rfl, c7]; exact decide_eq_true (by omega)
    · rw [okc_fix (by decide), c8]; rfl
    · rw [okc_dig rfl, c9]; exact decide_eq_true (by omega)
  have ey : pvY (tx y k d) = y := by unfold pvY; omega
  have ek : pvK (tx y k d) = k := by unfold pvK; omega
  have ed : pvD (tx y k d) = d := by unfold pvD; omega
  have hg := p_good hF (by rw [ey, ek, ed]; exact h)
  rw [ey, ek, ed] at hg
  exact ⟨hs, hg⟩
theorem okF_parts {s : ByteArray} (h : okF s = true) : s.size = 10 ∧ ∀ i : Nat, i < 10 → okc s i = true := by
  by_cases hs : s.size = 10
  · refine ⟨hs, fun i hi => ?_⟩
    cases q : okc s i
    · rw [okF_no hi q] at h; cases h
    · rfl
  · rw [okF_size hs] at h; cases h
theorem cB_ext {s t : ByteArray} (hs : s.size = 10) (ht : t.size = 10) (h : ∀ i : Nat, i < 10 → cB s i = cB t i) : s = t := by
  apply ByteArray.ext
  apply Array.ext
  · exact hs.trans ht.symm
  · intro i h1 h2
    have hi : i < 10 := by have : s.data.size = 10 := hs; omega
    have e := h i hi
    unfold cB at e
    rw [Array.getD_eq_getD_getElem?, Array.getD_eq_getD_getElem?, Array.getElem?_eq_getElem h1, Array.getElem?_eq_getElem h2] at e
    simp only [Option.getD_some] at e
    exact UInt8.toNat_inj.1 (by omega)
/-- what is parsed is the text of its date -/
theorem parse_tx {s : ByteArray} (h : pE s = 0) : tx (pY s) (pK s) (pD s) = s := by
  have hF : okF s = true := by
    cases q : okF s
    · rw [(p_bad q).1] at h; cases h
    · rfl
  have hS : shB (pvY s) (pvK s) (pvD s) = true := by
    cases q : shB (pvY s) (pvK s) (pvD s)
    · rw [(p_none hF q).1] at h; cases h
    · rfl
  obtain ⟨_, e1, e2, e3⟩ := p_good hF hS
  rw [e1, e2, e3]
  obtain ⟨hs, hc⟩ := okF_parts hF
  obtain ⟨ht, c0, c1, c2, c3, c4, c5, c6, c7, c8, c9⟩ := tx_cB hS
  have dg : ∀ i : Nat, i < 10 → fm i = 100 → 48 ≤ cB s i ∧ cB s i ≤ 57 := fun i hi hf => by
    have := hc i hi
    rw [okc_dig hf] at this
    exact of_decide_eq_true this
  have fx : ∀ i : Nat, i < 10 → fm i ≠ 100 → cB s i = fm i := fun i hi hf => by
    have := hc i hi
    rw [okc_fix hf] at this
    exact of_decide_eq_true this
  have b0 := dg 0 (by omega) rfl; have b1 := dg 1 (by omega) rfl; have b2 := dg 2 (by omega) rfl; have b3 := dg 3 (by omega) rfl
  have b6 := dg 6 (by omega) rfl; have b7 := dg 7 (by omega) rfl; have b9 := dg 9 (by omega) rfl
  have f4 : cB s 4 = 45 := fx 4 (by omega) (by decide)
  have f5 : cB s 5 = 87 := fx 5 (by omega) (by decide)
  have f8 : cB s 8 = 45 := fx 8 (by omega) (by decide)
  have gy : pvY s = 1000 * (cB s 0 - 48) + 100 * (cB s 1 - 48) + 10 * (cB s 2 - 48) + (cB s 3 - 48) := rfl
  have gk : pvK s = 10 * (cB s 6 - 48) + (cB s 7 - 48) := rfl
  have gd : pvD s = cB s 9 - 48 := rfl
  refine cB_ext ht hs fun i hi => ?_
  have : i = 0 ∨ i = 1 ∨ i = 2 ∨ i = 3 ∨ i = 4 ∨ i = 5 ∨ i = 6 ∨ i = 7 ∨ i = 8 ∨ i = 9 := by omega
  rcases this with rfl | rfl | rfl | rfl | rfl | rfl | rfl | rfl | rfl | rfl
  · rw [c0]; omega
  · rw [c1]; omega
  · rw [c2]; omega
  · rw [c3]; omega
  · rw [c4, f4]
  · rw [c5, f5]
  · rw [c6]; omega
  · rw [c7]; omega
  · rw [c8, f8]
  · rw [c9]; omega
theorem p_zero {s : ByteArray} (h : pE s ≠ 0) : pY s = 0 ∧ pK s = 0 ∧ pD s = 0 := by simp [pY, pK, pD, h]
end Wk
