/- The contract of feast.Years: the years whose movable day has a date, and of its closure. Condition: at most 301 years. -/
import Derived.Test.YtaclggocacafaaaDoorFeaD
import Derived.Test.YtaclggocacafaaaDoorApp
import Derived.Deep.LoopGhost
namespace Fea
open Cal
/-- whether a year's movable day has the date -/
noncomputable def fits (o m d y : Int) : Bool := mvB y o && ((mG (mvN y o) == m) && (aG (mvN y o) == d))
/-- the years of n from lo on that fit -/
noncomputable def fl (o m d lo : Int) : Nat → List Int
  | 0 => []
  | n + 1 => if fits o m d (lo + n) then fl o m d lo n ++ [lo + n] else fl o m d lo n
theorem fl_len (o m d lo : Int) : ∀ n, (fl o m d lo n).length ≤ n
  | 0 => by simp [fl]
  | n + 1 => by
    have := fl_len o m d lo n
    simp only [fl]; split
    · simp; omega
    · omega
theorem mv_in {y o : Int} (h : mvB y o = true) : inB (mvN y o) = true ∧ mvE y o = 0 := by
  have h' := h
  simp only [mvB, Bool.and_eq_true] at h'
  simp [mvN, mvE, h, h'.2.2]
end Fea
namespace Go.Proofs.YtaclggocacafaaaDoor
open Go.ChangeShapes Go.WideShapes Go.ChangeAt Go.RowKit

/-- the three captured variables -/
def Cap (w : World) (b : Nat) (o m d : Int) : Prop := b + 2 < w.heap.size ∧ w.cell? ⟨b, 0, none⟩ = some (.int .i64 o) ∧ w.cell? ⟨b + 1, 0, none⟩ = some (.int .i64 m) ∧ w.cell? ⟨b + 2, 0, none⟩ = some (.int .i64 d)
theorem Cap.later {w w1 : World} {b : Nat} {o m d : Int} (h : Cap w b o m d) (hb : Below w.heap.size w w1) : Cap w1 b o m d :=
  ⟨Nat.lt_of_lt_of_le h.1 hb.size, keep1 hb (by have := h.1; omega) h.2.1, keep1 hb (by have := h.1; omega) h.2.2.1, keep1 hb h.1 h.2.2.2⟩
theorem Cap.alloc {w : World} {b : Nat} {o m d : Int} (h : Cap w b o m d) (x : Obj) : Cap (w.alloc x) b o m d := h.later ((Below.refl _ _).alloc (Nat.le_refl _) x)
set_option maxHeartbeats 1000000 in
theorem ffits_any (o m d y : Int) (b : Nat) (w : World) (hC : Cap w b o m d) :
    Calls Tryd.prog 43 #[.int .i64 y, .pointer (some ⟨b, 0, none⟩), .pointer (some ⟨b + 1, 0, none⟩), .pointer (some ⟨b + 2, 0, none⟩)] w fun e w' => e = .returned (.bool (Fea.fits o m d y)) ∧ Below w.heap.size w w' := by
  have hCH := Lib.hid hC
  obtain ⟨lt, c0, c1, c2⟩ := hC
  cases hv : Fea.mvB y o
  · have hE : Fea.mvE y o = 2 := by simp [Fea.mvE, hv]
    have hf : Fea.fits o m d y = false := by simp [Fea.fits, hv]
    have hEH := Lib.hid hE
    rw [hf]; clear hf hE hv
    go_enter Tryd.func43, Tryd.ntmps43
    go_wp2_with fail
    refine (fmove_any _ _ _).mono ?_; rintro e w1 ⟨rfl, hb1⟩
    rw [hEH.out]
    go_wp2_with fail
    go_ret
    exact ⟨rfl, hb1⟩
  · obtain ⟨hi, hE⟩ := Fea.mv_in hv
    have hI : Cal.inE (Fea.mvN y o) = 0 := by simp [Cal.inE, hi]
    have hf : Fea.fits o m d y = ((Cal.mG (Fea.mvN y o) == m) && (Cal.aG (Fea.mvN y o) == d)) := by simp [Fea.fits, hv]
    have hEH := Lib.hid (And.intro hE hI)
    rw [hf]; clear hf hE hI hi hv
    cases q : (Cal.mG (Fea.mvN y o) == m)
    all_goals
      go_enter Tryd.func43, Tryd.ntmps43
      go_wp2_with fail
      refine (fmove_any _ _ _).mono ?_; rintro e w1 ⟨rfl, hb1⟩
      rw [hEH.out.1]
      have hC1 := Lib.hid (hCH.out.later hb1)
      go_wp2_with fail
      refine (cdate_any _ _).mono ?_; rintro e w2 ⟨rfl, hb2⟩
      rw [hEH.out.2]
      obtain ⟨_, d0, d1, d2⟩ := (hC1.out.later hb2).alloc (Obj.cells #[.int .i64 (Cal.yG (Fea.mvN y o)), .int .i64 (Cal.mG (Fea.mvN y o)), .int .i64 (Cal.aG (Fea.mvN y o))] 30)
      have hb := below_then hb1 hb2
      clear hb1 hb2 hC1 c0 c1 c2
      go_wp2_with fail
      go_ret
      exact ⟨by simp, below_alloc1 hb _⟩

/-- the slice v owns xs, and is nil where xs is empty -/
def OwnN (w : World) (B : Nat) (v : Value) (xs : List Int) : Prop := Own w B v xs ∧ (xs = [] → v = .slice none 0 0)
theorem OwnN.shape {w : World} {B : Nat} {v : Value} {xs : List Int} (h : OwnN w B v xs) : (xs = [] ∧ v = .slice none 0 0) ∨ (0 < xs.length ∧ ∃ b cap, v = .slice (some ⟨b, 0, none⟩) xs.length cap ∧ Ints w b xs) := by
  by_cases q : xs = []
  · exact Or.inl ⟨q, h.2 q⟩
  · have hp : 0 < xs.length := by cases xs with
      | nil => exact absurd rfl q
      | cons a l => simp
    obtain ⟨b, cap, e, _, _, hi⟩ := h.1.row hp
    exact Or.inr ⟨hp, b, cap, e, hi⟩
theorem OwnN.later {w w' : World} {B : Nat} {v : Value} {xs : List Int} (h : OwnN w B v xs) (hb : Below w.heap.size w w') : OwnN w' B v xs := ⟨h.1.later hb, h.2⟩
def YrRel (w : World) (o m d lo : Int) (v : Value) (k : Nat) (wr : World) (p : Prop) : Prop :=
  Below w.heap.size w wr ∧ Cap wr w.heap.size o m d ∧ OwnN wr (w.heap.size + 3) v (Fea.fl o m d lo k) ∧ p
theorem own_in {w : World} {B n : Nat} {v : Value} {xs : List Int} (h : Own w B v xs) (hn : xs.length = n) (x : Obj) : (w.alloc x).ownsRow B 3 1 v n (xs.map (Value.int .i64)) := by rw [← hn]; exact World.ownsRow.alloc h x
/-- behind the append of a year -/
theorem yr_push {w w1 w2 : World} {o m d lo : Int} {v v' : Value} {k n : Nat} {x : Obj} (hn : (Fea.fl o m d lo k).length = n) (hf : Fea.fits o m d (lo + k) = true) (hb : Below w.heap.size w w1) (hC : Cap w1 w.heap.size o m d) (hO : Own w1 (w.heap.size + 3) v (Fea.fl o m d lo k)) 
    (h1 : w2.ownsRow (w.heap.size + 3) 3 1 v' (n + 1) ((Fea.fl o m d lo k).map (Value.int .i64) ++ [.int .i64 (lo + k)])) (hg : (w1.alloc x).grownBy w2 v.ownBlock) :
    Below w.heap.size w w2 ∧ Cap w2 w.heap.size o m d ∧ OwnN w2 (w.heap.size + 3) v' (Fea.fl o m d lo (k + 1)) := by
  have hr : ∀ q, v.ownBlock = some q → w.heap.size + 3 ≤ q := fun q hq => (World.ownsRow.lt hO q hq).1
  have hs : w.heap.size + 3 ≤ (w1.alloc x).heap.size := by have := hC.1; simp; omega
  have hB : Below (w.heap.size + 3) (w1.alloc x) w2 := (Below.refl _ _).grown hg hs hr
  have hC2 := hC.alloc x
  refine ⟨?_, ?_, ?_, ?_⟩
  · exact (below_alloc1 hb x).trans (hB.mono (by omega))
  · exact ⟨Nat.lt_of_lt_of_le hC2.1 hB.size, keep1 hB (by omega) hC2.2.1, keep1 hB (by omega) hC2.2.2.1, keep1 hB (by omega) hC2.2.2.2⟩
  · simp only [Fea.fl, hf, if_true]; rw [← hn] at h1; exact Own.push h1
  · intro q; simp [Fea.fl, hf] at q
theorem yr_skip {w w1 : World} {o m d lo : Int} {v : Value} {k : Nat} (hf : Fea.fits o m d (lo + k) = false) (hO : OwnN w1 (w.heap.size + 3) v (Fea.fl o m d lo k)) : OwnN w1 (w.heap.size + 3) v (Fea.fl o m d lo (k + 1)) := by
  simpa [Fea.fl, hf] using hO
theorem cell_new1 (w : World) (x : Value) (t : TypeId) : (w.alloc (Obj.cells #[x] t)).cell? ⟨w.heap.size, 0, none⟩ = some x := by simp
theorem cap_new (w : World) (o m d : Int) : Cap (((w.alloc (Obj.cells #[.int .i64 o] 3)).alloc (Obj.cells #[.int .i64 m] 3)).alloc (Obj.cells #[.int .i64 d] 3)) w.heap.size o m d := by
  have e1 : (w.alloc (Obj.cells #[.int .i64 o] 3)).heap.size = w.heap.size + 1 := by simp
  have e2 : ((w.alloc (Obj.cells #[.int .i64 o] 3)).alloc (Obj.cells #[.int .i64 m] 3)).heap.size = w.heap.size + 2 := by simp
  refine ⟨by simp, ?_, ?_, ?_⟩
  · rw [World.cell?_alloc_lt _ _ _ (by simp; omega), World.cell?_alloc_lt _ _ _ (by simp)]; exact cell_new1 _ _ _
  · rw [World.cell?_alloc_lt _ _ _ (by rw [e2]; simp), ← e1]; exact cell_new1 _ _ _
  · rw [← e2]; exact cell_new1 _ _ _
theorem news1 (w : World) (x : Int) (t : TypeId) : ∀ (j : Nat) (u : Value), [Value.int .i64 x][j]? = some u → (w.alloc (Obj.cells #[.int .i64 x] t)).cell? ((⟨w.heap.size, 0, none⟩ : Addr).add j) = some u := by
  intro j u hj
  match j, hj with
  | 0, hj => simp at hj; subst hj; exact cell_new1 _ _ _
theorem one1 (x : Int) : ∀ u ∈ [Value.int .i64 x], u.oneCell' = true := by intro u hu; simp at hu; subst hu; rfl
theorem cap_size {w w1 : World} {o m d : Int} (h : Cap w1 w.heap.size o m d) (x : Obj) : w.heap.size + 3 ≤ (w1.alloc x).heap.size := by have := h.1; simp; omega
set_option maxHeartbeats 8000000 in
set_option maxRecDepth 100000 in
theorem fyears_any (o m d fr to lo hi : Int) (w : World) (hlo : (fr < 1 ∧ lo = 1) ∨ (1 ≤ fr ∧ lo = fr)) (hhi : (to ≤ 9999 ∧ hi = to) ∨ (9999 < to ∧ hi = 9999)) (hw : hi - lo ≤ 300) (h0 : lo ≤ hi + 1) :
    Calls Tryd.prog 28 #[.int .i64 o, .int .i64 m, .int .i64 d, .int .i64 fr, .int .i64 to] w fun e w' => ∃ v, e = .returned v ∧ OwnN w' (w.heap.size + 3) v (Fea.fl o m d lo (hi + 1 - lo).toNat) ∧ Below w.heap.size w w' := by
  obtain ⟨i0, hi', hz0, hz1, hz2⟩ := info_parts infoInt
  have hlo1 : 1 ≤ lo := by omega
  have hhi9 : hi ≤ 9999 := by omega
  have hL := Lib.hid (fun k => Fea.fl_len o m d lo k)
  have ways : (fr < 1 ∧ lo = 1 ∧ to ≤ 9999 ∧ hi = to) ∨ (1 ≤ fr ∧ lo = fr ∧ to ≤ 9999 ∧ hi = to) ∨ (1 ≤ fr ∧ lo = fr ∧ 9999 < to ∧ hi = 9999) := by omega
  clear hlo hhi
  all_goals
    rcases ways with ⟨a1, a2, b1, b2⟩ | ⟨a1, a2, b1, b2⟩ | ⟨a1, a2, b1, b2⟩
    all_goals
      have aH := Lib.hid (And.intro a2 b2)
      clear a2 b2
      go_enter Tryd.func28, Tryd.ntmps28
      go_wp2_with fail
      go_loopg [12, 13] 302 (fun g v t wr => ∃ k : Nat, lo + k ≤ hi + 1 ∧ t = .int .i64 (lo + k) ∧ YrRel w o m d lo v k wr ((hi + 1 - lo - k).toNat ≤ g))
      case atStart => exact ⟨0, by omega, val_int (by have := aH.out; omega), by (repeat (first | exact Below.refl _ _ | assumption | refine below_drewN ?_ _ | refine below_alloc1 ?_ _ | refine below_then ?_ (by assumption))), cap_new w o m d, ⟨Own.nil _ _, fun _ => rfl⟩, by omega⟩
      case round =>
        obtain ⟨k, hk, rfl, hb, hC, hO, hg⟩ := hrel
        have hCH := Lib.hid hC
        have hOH := Lib.hid hO
        have hlen := hL.out k
        have hk300 : k ≤ 301 := by omega
        clear hC hO
        by_cases hlt : lo + k ≤ hi
        · have hc1 : lo + k ≤ to := by have := aH.out; omega
          have hc2 : lo + k ≤ 9999 := by omega
          cases hf : Fea.fits o m d (lo + k)
          · have hfH := Lib.hid hf
            clear hf
            rcases hOH.out.shape with ⟨hx, rfl⟩ | ⟨hx, b, cap, rfl, _⟩
            all_goals
              clear hx
              generalize hn : (Fea.fl o m d lo k).length = n at *
              clear hn
              go_wp2_with (go_at_call 43; refine (ffits_any o m d _ w.heap.size _ hCH.out).mono ?_; rintro e w1 ⟨rfl, hb1⟩; rw [hfH.out])
              go_roundg (gk - 1)
              case measure => omega
              case rel => exact ⟨k + 1, by omega, by go_num, below_then hb hb1, hCH.out.later hb1, yr_skip hfH.out (hOH.out.later hb1), by omega⟩
          · have hfH := Lib.hid hf
            clear hf
            rcases hOH.out.shape with ⟨hx, rfl⟩ | ⟨hx, b, cap, rfl, _⟩
            all_goals
              clear hx
              generalize hn : (Fea.fl o m d lo k).length = n at *
              have hnH := Lib.hid hn
              clear hn
              go_wp2_with (first | (go_at_call 43; refine (ffits_any o m d _ w.heap.size _ hCH.out).mono ?_; rintro e w1 ⟨rfl, hb1⟩; rw [hfH.out]) | (at_builtin; refine wpList_append_own _ rfl _ _ 39 rfl (w.heap.size + 3) 3 i0 (.int .i64 0) 1 8 Tryd.underlying39 hi' hz0 hz1 hz2 rfl (by decide) _ n _ rfl (own_in (hOH.out.later hb1).1 hnH.out _) ⟨w1.heap.size, 0, none⟩ 1 1 [.int .i64 (lo + k)] rfl rfl (news1 _ _ _) (one1 _) (by unfold maxLen; omega) (by omega) (cap_size (hCH.out.later hb1) _) ?_; intro v' w2 hown hgrow _))
              have RH := Lib.hid (yr_push hnH.out hfH.out (below_then hb hb1) (hCH.out.later hb1) (hOH.out.later hb1).1 hown hgrow)
              clear hown hgrow
              go_wp2_with fail
              go_roundg (gk - 1)
              case measure => omega
              case rel => exact ⟨k + 1, by omega, by go_num, RH.out.1, RH.out.2.1, RH.out.2.2, by omega⟩
        · have e : k = (hi + 1 - lo).toNat := by omega
          have eH := Lib.hid e
          first | (have hc1 : ¬ lo + k ≤ to := by have := aH.out; omega) | (have hc1 : ¬ lo + k ≤ 9999 := by have := aH.out; omega)
          clear e
          rcases hOH.out.shape with ⟨hx, rfl⟩ | ⟨hx, b, cap, rfl, _⟩
          all_goals
            clear hx
            generalize hn : (Fea.fl o m d lo k).length = n at *
            clear hn
            go_wp2_with fail
            go_ret
            exact ⟨_, rfl, by rw [← eH.out]; exact hOH.out, hb⟩
end Go.Proofs.YtaclggocacafaaaDoor
