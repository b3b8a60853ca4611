/- Contracts of islamic.Moved and of its reference. No conditions. -/
import Derived.Test.YtbfdmpjgdpglgaaIslM
import Derived.Test.YtbfdmpjgdpglgaaAppB
import Derived.Test.YtbfdmpjgdpglgaaR2
import Derived.Test.YtbfdmpjgdpglgaaIslS
namespace Isl
open Cal
def mBb (k m d : Int) : Bool := kB k && decide (1 ≤ m ∧ m ≤ 12 ∧ 1 ≤ d ∧ d ≤ 30 ∧ (d < 30 ∨ m % 2 = 1 ∨ m = 12))
def moE (k m d g : Int) : Int := if mBb k m d then if decide (1 ≤ g ∧ g ≤ 9999) then 0 else 2 else 1
def moL (k m d g : Int) : List Int := if mBb k m d && decide (1 ≤ g ∧ g ≤ 9999) then ML k m d (ysG g) (ysG (g + 1) - 1) else []
/-- where there is no answer -/
def MoBad (k m d g : Int) (E : Int) : Prop :=
  (kB k = false ∧ E = 1) ∨ (kB k = true ∧ E = 1 ∧ (m < 1 ∨ (1 ≤ m ∧ 12 < m) ∨ (1 ≤ m ∧ m ≤ 12 ∧ d < 1) ∨ (1 ≤ m ∧ m ≤ 12 ∧ 1 ≤ d ∧ 30 < d) ∨ (1 ≤ m ∧ m ≤ 12 ∧ d = 30 ∧ m % 2 = 0 ∧ m ≠ 12))) ∨
  (kB k = true ∧ E = 2 ∧ 1 ≤ m ∧ m ≤ 12 ∧ 1 ≤ d ∧ d ≤ 30 ∧ (d < 30 ∨ (d = 30 ∧ m % 2 = 1) ∨ (d = 30 ∧ m = 12)) ∧ (g < 1 ∨ (1 ≤ g ∧ 9999 < g)))
theorem mo_ways (k m d g : Int) : (MoBad k m d g (moE k m d g) ∧ moL k m d g = []) ∨
    (moE k m d g = 0 ∧ moL k m d g = ML k m d (ysG g) (ysG (g + 1) - 1) ∧ kB k = true ∧ 1 ≤ m ∧ m ≤ 12 ∧ 1 ≤ d ∧ d ≤ 30 ∧ 1 ≤ g ∧ g ≤ 9999 ∧ (d < 30 ∨ (d = 30 ∧ m % 2 = 1) ∨ (d = 30 ∧ m = 12))) := by
  cases hk : kB k
  · exact Or.inl ⟨Or.inl ⟨hk, by simp [moE, mBb, hk]⟩, by simp [moL, mBb, hk]⟩
  · by_cases hm : 1 ≤ m ∧ m ≤ 12 ∧ 1 ≤ d ∧ d ≤ 30 ∧ (d < 30 ∨ m % 2 = 1 ∨ m = 12)
    · have hb : mBb k m d = true := by simp only [mBb, hk, decide_eq_true hm]; rfl
      by_cases hg : 1 ≤ g ∧ g ≤ 9999
      · exact Or.inr ⟨by simp [moE, hb, hg], by simp [moL, hb, hg], rfl, by omega, by omega, by omega, by omega, hg.1, hg.2, by omega⟩
      · exact Or.inl ⟨Or.inr (Or.inr ⟨hk, by simp only [moE, hb, decide_eq_false hg]; rfl, by omega, by omega, by omega, by omega, by omega, by omega⟩), by simp only [moL, hb, decide_eq_false hg]; rfl⟩
    · have hb : mBb k m d = false := by simp only [mBb, hk, decide_eq_false hm]; rfl
      exact Or.inl ⟨Or.inr (Or.inl ⟨hk, by simp [moE, hb], by omega⟩), by simp [moL, hb]⟩
theorem year_days {g : Int} (g1 : 1 ≤ g) (g2 : g ≤ 9999) : dayGn g 1 1 = ysG g ∧ dayGe g 1 1 = 0 ∧ dayGn g 12 31 = ysG (g + 1) - 1 ∧ dayGe g 12 31 = 0 ∧ -719162 ≤ ysG g ∧ ysG g + 364 ≤ ysG (g + 1) - 1 ∧ ysG (g + 1) - 1 ≤ ysG g + 365 ∧ ysG (g + 1) - 1 ≤ 2932896 := by
  have h1 := lenG_bd g 1
  have h12 : lenG g 12 = 31 := rfl
  have k1 : okGb g 1 1 = true := okGb_iff.2 ⟨g1, g2, by omega, by omega, by omega, by omega⟩
  have k2 : okGb g 12 31 = true := okGb_iff.2 ⟨g1, g2, by omega, by omega, by omega, by omega⟩
  have d1 : dayG g 1 1 = ysG g := by unfold dayG cumG; simp
  have hs := ysG_succ g; have hl := lg_01 g
  have d2 : dayG g 12 31 = ysG (g + 1) - 1 := by unfold dayG cumG; simp; omega
  have b1 := ysG_bd g1 (show g ≤ 10000 by omega); have b2 := ysG_bd (y := g + 1) (by omega) (by omega)
  refine ⟨by simp [dayGn, k1, d1], by simp [dayGe, k1], by simp [dayGn, k2, d2], by simp [dayGe, k2], by omega, by omega, by omega, by omega⟩
/-- the ways of one year -/
theorem hit_ways (k m d fr to y : Int) : (hit k m d fr to y = false ∧ (dayE k y m d == 0) = false) ∨ (hit k m d fr to y = false ∧ dayE k y m d = 0 ∧ ((dayN k y m d < fr) ∨ (fr ≤ dayN k y m d ∧ to < dayN k y m d))) ∨ (hit k m d fr to y = true ∧ dayE k y m d = 0 ∧ fr ≤ dayN k y m d ∧ dayN k y m d ≤ to ∧ dayN k y m d = day k y m d) := by
  cases h : okb k y m d
  · exact Or.inl ⟨by simp [hit, h], by simp [dayE, h]⟩
  · have e : dayN k y m d = day k y m d := by simp [dayN, h]
    have e0 : dayE k y m d = 0 := by simp [dayE, h]
    rw [e]
    by_cases a : fr ≤ day k y m d
    · by_cases b : day k y m d ≤ to
      · exact Or.inr (Or.inr ⟨by simp [hit, h, a, b], e0, a, b, rfl⟩)
      · exact Or.inr (Or.inl ⟨by simp [hit, b], e0, by omega⟩)
    · exact Or.inr (Or.inl ⟨by simp [hit, a], e0, by omega⟩)
end Isl
namespace Go.Proofs.Ytbfdmpjgdpglgaa
open Go.ChangeShapes Go.WideShapes Go.ChangeAt Go.RowKit

theorem below_alloc1 {w w1 : World} (h : Below w.heap.size w w1) (o : Obj) : Below w.heap.size w (w1.alloc o) := below_alloc2 h o
set_option maxHeartbeats 4000000 in
theorem imoved_bad (k y m d g E : Int) (w : World) (h : Isl.MoBad k m d g E) :
    Calls Try.prog 30 #[.int .i64 k, .agg #[.int .i64 y, .int .i64 m, .int .i64 d], .int .i64 g] w fun e w' => e = .returned (.tuple #[.slice none 0 0, .int .i64 E]) ∧ Below w.heap.size w w' := by
  rcases h with ⟨hk, rfl⟩ | ⟨hk, rfl, h⟩ | ⟨hk, rfl, m1, m2, d1, d2, h, hg⟩
  · go_enter Try.func30, Try.ntmps30
    go_wp2_with (first | (go_at_call 20; refine (ivalid_any _ _).mono ?_; rintro e w' ⟨rfl, rfl⟩))
    go_ret2
    exact ⟨rfl, by (repeat (first | exact Below.refl _ _ | assumption | refine below_drewN ?_ _ | refine below_alloc1 ?_ _ | refine below_then ?_ (by assumption)))⟩
  · rcases h with h | ⟨h1, h2⟩ | ⟨h1, h2, h3⟩ | ⟨h1, h2, h3, h4⟩ | ⟨h1, h2, rfl, h4, h5⟩
    all_goals
      try have h5b : (m != 12) = true := by simpa using (by assumption : m ≠ 12)
      go_enter Try.func30, Try.ntmps30
      go_wp2_with (first | (go_at_call 20; refine (ivalid_any _ _).mono ?_; rintro e w' ⟨rfl, rfl⟩))
      go_ret2
      exact ⟨rfl, by (repeat (first | exact Below.refl _ _ | assumption | refine below_drewN ?_ _ | refine below_alloc1 ?_ _ | refine below_then ?_ (by assumption)))⟩
  · rcases h with h | ⟨rfl, h⟩ | ⟨rfl, rfl⟩
    all_goals
      rcases hg with hg | ⟨hg, hg2⟩
      all_goals
        go_enter Try.func30, Try.ntmps30
        go_wp2_with (first | (go_at_call 20; refine (ivalid_any _ _).mono ?_; rintro e w' ⟨rfl, rfl⟩))
        go_ret2
        exact ⟨rfl, by (repeat (first | exact Below.refl _ _ | assumption | refine below_drewN ?_ _ | refine below_alloc1 ?_ _ | refine below_then ?_ (by assumption)))⟩
end Go.Proofs.Ytbfdmpjgdpglgaa
