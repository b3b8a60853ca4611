/- Plain arithmetic of Easter: golden numbers, epacts, Easter Sunday by the epact and by the rule without it, Julian Easter. No conditions. -/
import Derived.Test.YtaclggocacafaaaDoorCalB
namespace Fea
open Cal
def yB (y : Int) : Bool := decide (1 ≤ y ∧ y ≤ 9999)
theorem yB_iff {y : Int} : yB y = true ↔ 1 ≤ y ∧ y ≤ 9999 := by unfold yB; exact decide_eq_true_iff
def gold (y : Int) : Int := if yB y then y % 19 + 1 else 0
def ep (y : Int) : Int := (8 + y / 100 / 4 - y / 100 + (8 * (y / 100) + 13) / 25 + 11 * (y % 19)) % 30
def epact (y : Int) : Int := if yB y then ep y else -1
/-- the epact that counts, and the full moon: days from March 0 on -/
def ep2 (y : Int) : Int := if ep y = 24 ∨ (ep y = 25 ∧ 11 < y % 19 + 1) then ep y + 1 else ep y
def moon (y : Int) : Int := if 44 - ep2 y < 21 then 44 - ep2 y + 30 else 44 - ep2 y
def wd (n : Int) : Int := (n + 3) % 7 + 1
def sun (d : Int) : Int := d + 8 - wd (d + 1)
def east (y : Int) : Int := sun (dayG y 3 1 + moon y - 1)
def easter (y : Int) : Int := if yB y then east y else 0
def yE (y : Int) : Int := if yB y then 0 else 2
theorem ep_bd (y : Int) : 0 ≤ ep y ∧ ep y < 30 := by unfold ep; omega
theorem moon_bd (y : Int) : 21 ≤ moon y ∧ moon y ≤ 49 := by
  have := ep_bd y
  unfold moon ep2; split <;> split <;> omega
theorem sun_bd (d : Int) : d + 1 ≤ sun d ∧ sun d ≤ d + 7 := by unfold sun wd; omega
theorem sun_wd (d : Int) : wd (sun d) = 7 := by unfold sun wd; omega
theorem sun_uniq {d n : Int} (h1 : d + 1 ≤ n) (h2 : n ≤ d + 7) (h3 : wd n = 7) : n = sun d := by unfold sun; unfold wd at *; omega
theorem m1 (y : Int) : dayG y 3 1 = ysG y + 59 + lg y := by unfold dayG cumG; simp; omega
theorem east_bd (y : Int) : dayG y 3 1 + 21 ≤ east y ∧ east y ≤ dayG y 3 1 + 55 := by
  have := moon_bd y; have := sun_bd (dayG y 3 1 + moon y - 1)
  unfold east; omega
/-- the rule without an epact -/
def rh (y : Int) : Int := (19 * (y % 19) + y / 100 - y / 100 / 4 - (y / 100 - (y / 100 + 8) / 25 + 1) / 3 + 15) % 30
def rl (y : Int) : Int := (32 + 2 * (y / 100 % 4) + 2 * (y % 100 / 4) - rh y - y % 100 % 4) % 7
def rm (y : Int) : Int := (y % 19 + 11 * rh y + 22 * rl y) / 451
def rn (y : Int) : Int := rh y + rl y - 7 * rm y + 114
-- the same in natural numbers, for the kernel
def epN (y c : Nat) : Nat := Nat.mod (Nat.sub (Nat.add (Nat.add (Nat.add 308 (Nat.div c 4)) (Nat.div (Nat.add (Nat.mul 8 c) 13) 25)) (Nat.mul 11 (Nat.mod y 19))) c) 30
def ep2N (e g : Nat) : Nat := cond (Nat.beq e 24 || (Nat.beq e 25 && Nat.ble 11 g)) (Nat.succ e) e
def moonN (e : Nat) : Nat := cond (Nat.ble e 23) (Nat.sub 44 e) (Nat.sub 74 e)
def m1N (y z : Nat) : Nat := Nat.add (Nat.sub (Nat.add (Nat.add (Nat.add (Nat.mul 365 z) (Nat.div z 4)) (Nat.div z 400)) 59) (Nat.div z 100)) (cond (Nat.beq (Nat.mod y 4) 0 && (not (Nat.beq (Nat.mod y 100) 0) || Nat.beq (Nat.mod y 400) 0)) 1 0)
def offN (d m : Nat) : Nat := Nat.sub (Nat.add m 6) (Nat.mod (Nat.add d m) 7)
def rhN (a b : Nat) : Nat := Nat.mod (Nat.sub (Nat.add (Nat.add (Nat.mul 19 a) b) 15) (Nat.add (Nat.div b 4) (Nat.div (Nat.sub (Nat.add b 1) (Nat.div (Nat.add b 8) 25)) 3))) 30
def rlN (b c h : Nat) : Nat := Nat.mod (Nat.sub (Nat.add (Nat.add 32 (Nat.mul 2 (Nat.mod b 4))) (Nat.mul 2 (Nat.div c 4))) (Nat.add h (Nat.mod c 4))) 7
def rnN (a h l : Nat) : Nat := Nat.sub (Nat.add (Nat.add h l) 114) (Nat.mul 7 (Nat.div (Nat.add (Nat.add a (Nat.mul 11 h)) (Nat.mul 22 l)) 451))
def chkN (y : Nat) : Bool :=
  (fun h => (fun l => (fun o => Nat.beq (Nat.add o 93) (rnN (Nat.mod y 19) h l) && (Nat.ble o 55 && Nat.ble 21 o)) (offN (m1N y (Nat.pred y)) (moonN (ep2N (epN y (Nat.div y 100)) (Nat.mod y 19))))) (rlN (Nat.div y 100) (Nat.mod y 100) h)) (rhN (Nat.mod y 19) (Nat.div y 100))
def all2 (f : Nat → Bool) : Nat → Nat → Bool
  | 0, s => f s
  | n + 1, s => all2 f n s && all2 f n (Nat.add s (Nat.pow 2 n))
theorem all2_of (f : Nat → Bool) : ∀ (n s : Nat), all2 f n s = true → ∀ i : Nat, s ≤ i → i < s + 2 ^ n → f i = true
  | 0, s, h, i, h1, h2 => by
    obtain rfl : i = s := by simp at h2; omega
    exact h
  | n + 1, s, h, i, h1, h2 => by
    simp only [all2, Bool.and_eq_true] at h
    have e : (2 : Nat) ^ (n + 1) = 2 ^ n + 2 ^ n := by rw [Nat.pow_succ]; omega
    by_cases q : i < s + 2 ^ n
    · exact all2_of f n s h.1 i h1 q
    · exact all2_of f n (s + 2 ^ n) h.2 i (show s + 2 ^ n ≤ i by omega) (show i < s + 2 ^ n + 2 ^ n by omega)
theorem chk_all : all2 chkN 13 1 = true ∧ all2 chkN 11 7953 = true := by decide +kernel
theorem epN_eq (y c : Nat) (hc : c = y / 100) (h : y ≤ 9999) : ep (y : Int) = (epN y c : Int) := by
  obtain ⟨a, ha⟩ : ∃ a, a = c / 4 := ⟨_, rfl⟩
  obtain ⟨b, hb⟩ : ∃ b, b = (8 * c + 13) / 25 := ⟨_, rfl⟩
  obtain ⟨g, hg⟩ : ∃ g, g = y % 19 := ⟨_, rfl⟩
  obtain ⟨X, hX⟩ : ∃ X, X + c = 308 + a + b + 11 * g := ⟨308 + a + b + 11 * g - c, by omega⟩
  have e : epN y c = X % 30 := by
    show (308 + c / 4 + (8 * c + 13) / 25 + 11 * (y % 19) - c) % 30 = X % 30
    rw [← ha, ← hb, ← hg, ← hX, Nat.add_sub_cancel]
  have e1 : (y : Int) / 100 = (c : Int) := by omega
  have e2 : (c : Int) / 4 = (a : Int) := by omega
  have e3 : (8 * (c : Int) + 13) / 25 = (b : Int) := by omega
  have e4 : (y : Int) % 19 = (g : Int) := by omega
  unfold ep
  rw [e1, e2, e3, e4, e]
  clear e e1 e2 e3 e4 ha hb hg hc
  rw [show 8 + (a : Int) - c + b + 11 * g = (X : Int) - 300 by omega]
  omega
theorem ep2N_eq (y e g : Nat) (he : ep (y : Int) = e) (hg : g = y % 19) : ep2 (y : Int) = (ep2N e g : Int) := by
  have e4 : (y : Int) % 19 = (g : Int) := by omega
  unfold ep2; rw [he, e4]
  show _ = ((cond (Nat.beq e 24 || (Nat.beq e 25 && Nat.ble 11 g)) (e + 1) e : Nat) : Int)
  clear hg he e4
  by_cases q : e = 24
  · subst q; rw [if_pos (by omega)]; rfl
  · rw [show Nat.beq e 24 = false by rw [Bool.eq_false_iff]; exact fun k => q (Nat.eq_of_beq_eq_true k), Bool.false_or]
    by_cases q2 : e = 25
    · subst q2
      by_cases q3 : 11 ≤ g
      · rw [if_pos (by omega), Nat.ble_eq_true_of_le q3]; rfl
      · rw [if_neg (by omega), show Nat.ble 11 g = false by rw [Bool.eq_false_iff]; exact fun k => q3 (Nat.le_of_ble_eq_true k)]; rfl
    · rw [show Nat.beq e 25 = false by rw [Bool.eq_false_iff]; exact fun k => q2 (Nat.eq_of_beq_eq_true k), Bool.false_and, if_neg (by omega)]; rfl
theorem moonN_eq (y e : Nat) (he : ep2 (y : Int) = e) (h : e ≤ 30) : moon (y : Int) = (moonN e : Int) := by
  unfold moon; rw [he]
  show _ = ((cond (Nat.ble e 23) (44 - e) (74 - e) : Nat) : Int)
  by_cases q : e ≤ 23
  · rw [Nat.ble_eq_true_of_le q, if_neg (by omega)]; simp only [cond_true]; omega
  · rw [show Nat.ble e 23 = false by rw [Bool.eq_false_iff]; exact fun k => q (Nat.le_of_ble_eq_true k), if_pos (by omega)]; simp only [cond_false]; omega
theorem m1N_eq (y z : Nat) (hz : y = z + 1) : dayG (y : Int) 3 1 + 719162 = (m1N y z : Int) := by
  rw [m1]
  obtain ⟨l, hl⟩ : ∃ l, l = cond (Nat.beq (y % 4) 0 && (not (Nat.beq (y % 100) 0) || Nat.beq (y % 400) 0)) 1 0 := ⟨_, rfl⟩
  have e : m1N y z = 365 * z + z / 4 + z / 400 + 59 - z / 100 + l := by rw [hl]; rfl
  have e2 : lg (y : Int) = (l : Int) := by
    rw [hl]; unfold lg
    by_cases a : y % 4 = 0
    · rw [a, Nat.beq_refl, Bool.true_and]
      by_cases b : y % 100 = 0
      · rw [b, Nat.beq_refl, Bool.not_true, Bool.false_or]
        by_cases d : y % 400 = 0
        · rw [d, if_pos (by omega)]; rfl
        · rw [show Nat.beq (y % 400) 0 = false by rw [Bool.eq_false_iff]; exact fun k => d (Nat.eq_of_beq_eq_true k), if_neg (by omega)]; rfl
      · rw [show Nat.beq (y % 100) 0 = false by rw [Bool.eq_false_iff]; exact fun k => b (Nat.eq_of_beq_eq_true k), Bool.not_false, Bool.true_or, if_pos (by omega)]; rfl
    · rw [show Nat.beq (y % 4) 0 = false by rw [Bool.eq_false_iff]; exact fun k => a (Nat.eq_of_beq_eq_true k), Bool.false_and, if_neg (by omega)]; rfl
  rw [e2, e]; clear e e2 hl
  have y1 : (y : Int) - 1 = z := by omega
  unfold ysG; rw [y1]; clear y1
  omega
theorem rh_eq (y a b : Nat) (ha : a = y % 19) (hb : b = y / 100) (h : y ≤ 9999) : rh (y : Int) = (rhN a b : Int) := by
  obtain ⟨q, hq⟩ : ∃ q, q = b / 4 := ⟨_, rfl⟩
  obtain ⟨r, hr⟩ : ∃ r, r = (b + 8) / 25 := ⟨_, rfl⟩
  obtain ⟨s, hs⟩ : ∃ s, s = (b + 1 - r) / 3 := ⟨_, rfl⟩
  obtain ⟨X, hX⟩ : ∃ X, X + (q + s) = 19 * a + b + 15 := ⟨19 * a + b + 15 - (q + s), by omega⟩
  have e : rhN a b = X % 30 := by
    show (19 * a + b + 15 - (b / 4 + (b + 1 - (b + 8) / 25) / 3)) % 30 = X % 30
    rw [← hq, ← hr, ← hs, ← hX, Nat.add_sub_cancel]
  have e1 : (y : Int) % 19 = (a : Int) := by omega
  have e2 : (y : Int) / 100 = (b : Int) := by omega
  have e3 : (b : Int) / 4 = (q : Int) := by omega
  have e4 : ((b : Int) + 8) / 25 = (r : Int) := by omega
  have e5 : ((b : Int) - r + 1) / 3 = (s : Int) := by omega
  unfold rh
  rw [e1, e2, e3, e4, e5, e]
  clear e e1 e2 e3 e4 e5 ha hb hq hr hs
  rw [show 19 * (a : Int) + b - q - s + 15 = (X : Int) by omega]
  omega
theorem rl_eq (y b c hh : Nat) (hb : b = y / 100) (hc : c = y % 100) (h : rh (y : Int) = hh) (h30 : hh < 30) : rl (y : Int) = (rlN b c hh : Int) := by
  obtain ⟨q, hq⟩ : ∃ q, q = b % 4 := ⟨_, rfl⟩
  obtain ⟨r, hr⟩ : ∃ r, r = c / 4 := ⟨_, rfl⟩
  obtain ⟨s, hs⟩ : ∃ s, s = c % 4 := ⟨_, rfl⟩
  obtain ⟨X, hX⟩ : ∃ X, X + (hh + s) = 32 + 2 * q + 2 * r := ⟨32 + 2 * q + 2 * r - (hh + s), by omega⟩
  have e : rlN b c hh = X % 7 := by
    show (32 + 2 * (b % 4) + 2 * (c / 4) - (hh + c % 4)) % 7 = X % 7
    rw [← hq, ← hr, ← hs, ← hX, Nat.add_sub_cancel]
  have e1 : (y : Int) / 100 % 4 = (q : Int) := by omega
  have e2 : (y : Int) % 100 / 4 = (r : Int) := by omega
  have e3 : (y : Int) % 100 % 4 = (s : Int) := by omega
  unfold rl
  rw [e1, e2, e3, h, e]
  clear e e1 e2 e3 hb hc hq hr hs h
  rw [show 32 + 2 * (q : Int) + 2 * r - hh - s = (X : Int) by omega]
  omega
theorem rn_eq (y a hh l : Nat) (ha : a = y % 19) (h : rh (y : Int) = hh) (h2 : rl (y : Int) = l) (hb : 7 * ((a + 11 * hh + 22 * l) / 451) ≤ hh + l + 114) : rn (y : Int) = (rnN a hh l : Int) := by
  obtain ⟨q, hq⟩ : ∃ q, q = (a + 11 * hh + 22 * l) / 451 := ⟨_, rfl⟩
  rw [← hq] at hb
  have e : rnN a hh l = hh + l + 114 - 7 * q := by rw [hq]; rfl
  have e1 : (y : Int) % 19 = (a : Int) := by omega
  have e2 : ((a : Int) + 11 * hh + 22 * l) / 451 = (q : Int) := by omega
  unfold rn rm
  rw [e1, h, h2, e2, e]
  omega
theorem off_eq (y d m : Nat) (hd : dayG (y : Int) 3 1 + 719162 = d) (hm : moon (y : Int) = m) : east (y : Int) = dayG (y : Int) 3 1 + (offN d m : Int) := by
  obtain ⟨r, hr⟩ : ∃ r, r = (d + m) % 7 := ⟨_, rfl⟩
  have e : offN d m = m + 6 - r := by rw [hr]; rfl
  have hr7 : r < 7 := by rw [hr]; omega
  unfold east sun wd
  rw [hm, e]
  have e1 : (dayG (y : Int) 3 1 + m - 1 + 1 + 3) % 7 = (r : Int) := by omega
  rw [e1]; omega
theorem sm (y : Nat) (h : y ≤ 9999) (hc : chkN y = true) (h1 : 1 ≤ y) : east (y : Int) = dayG (y : Int) 3 1 + rn (y : Int) - 93 := by
  obtain ⟨hh, ehh⟩ : ∃ hh, hh = rhN (y % 19) (y / 100) := ⟨_, rfl⟩
  obtain ⟨l, el⟩ : ∃ l, l = rlN (y / 100) (y % 100) hh := ⟨_, rfl⟩
  obtain ⟨m, em⟩ : ∃ m, m = moonN (ep2N (epN y (y / 100)) (y % 19)) := ⟨_, rfl⟩
  obtain ⟨d, ed⟩ : ∃ d, d = m1N y (y - 1) := ⟨_, rfl⟩
  have hk : (Nat.beq (offN d m + 93) (rnN (y % 19) hh l) && (Nat.ble (offN d m) 55 && Nat.ble 21 (offN d m))) = true := by rw [ed, em, el, ehh]; exact hc
  rw [Bool.and_eq_true] at hk
  have hk := Nat.eq_of_beq_eq_true hk.1
  have h1' := rh_eq y (y % 19) (y / 100) rfl rfl h
  rw [← ehh] at h1'
  have hh30 : hh < 30 := by rw [ehh]; exact Nat.mod_lt _ (by omega)
  have h2' := rl_eq y (y / 100) (y % 100) hh rfl rfl h1' hh30
  rw [← el] at h2'
  have hl7 : l < 7 := by rw [el]; exact Nat.mod_lt _ (by omega)
  have h3' := rn_eq y (y % 19) hh l rfl h1' h2' (by omega)
  have he := epN_eq y (y / 100) rfl h
  have he30 : epN y (y / 100) < 30 := Nat.mod_lt _ (by omega)
  have he2 := ep2N_eq y (epN y (y / 100)) (y % 19) he rfl
  have heb : ep2N (epN y (y / 100)) (y % 19) ≤ 30 := by
    show (cond _ (epN y (y / 100) + 1) (epN y (y / 100))) ≤ 30
    cases (Nat.beq (epN y (y / 100)) 24 || (Nat.beq (epN y (y / 100)) 25 && Nat.ble 11 (y % 19))) <;> simp only [cond_true, cond_false] <;> omega
  have hm := moonN_eq y _ he2 heb
  rw [← em] at hm
  have hd := m1N_eq y (y - 1) (by omega)
  rw [← ed] at hd
  rw [off_eq y d m hd hm, h3', ← hk]
  omega
theorem same {y : Int} (h1 : 1 ≤ y) (h2 : y ≤ 9999) : east y = dayG y 3 1 + rn y - 93 := by
  obtain ⟨n, rfl⟩ : ∃ n : Nat, y = n := ⟨y.toNat, by omega⟩
  by_cases q : n < 8193
  · exact sm n (by omega) (all2_of _ _ _ chk_all.1 n (by omega) (by omega)) (by omega)
  · exact sm n (by omega) (all2_of _ _ _ chk_all.2 n (by omega) (by omega)) (by omega)
theorem rn_bd {y : Int} (h1 : 1 ≤ y) (h2 : y ≤ 9999) : 114 ≤ rn y ∧ rn y ≤ 148 := by
  have := same h1 h2; have := east_bd y; omega
/-- the date that the rule gives is the day -/
theorem rn_day {y : Int} (h1 : 1 ≤ y) (h2 : y ≤ 9999) : okG y (rn y / 31) (rn y % 31 + 1) ∧ dayG y (rn y / 31) (rn y % 31 + 1) = east y := by
  have hs := same h1 h2
  have hb := rn_bd h1 h2
  rw [hs]
  have m4 : dayG y 4 1 = dayG y 3 1 + 31 := by unfold dayG cumG; simp; omega
  by_cases q : rn y < 124
  · have e1 : rn y / 31 = 3 := by omega
    rw [e1]
    refine ⟨⟨h1, h2, by omega, by omega, by omega, by simp [lenG, lenB]; omega⟩, ?_⟩
    unfold dayG; omega
  · have e1 : rn y / 31 = 4 := by omega
    rw [e1]
    refine ⟨⟨h1, h2, by omega, by omega, by omega, by simp [lenG, lenB]; omega⟩, ?_⟩
    unfold dayG at *; omega
-- Julian Easter
def jm (y : Int) : Int := dayJ y 3 21
def jp (y : Int) : Int := (19 * (y % 19) + 15) % 30
def jeast (y : Int) : Int := sun (jm y + jp y)
def jeaster (y : Int) : Int := if yB y then jeast y else 0
theorem jp_bd (y : Int) : 0 ≤ jp y ∧ jp y ≤ 28 := by
  have k : ∀ i : Fin 19, (19 * ((i : Nat) : Int) + 15) % 30 ≤ 28 := by decide
  have := k ⟨(y % 19).toNat, by omega⟩
  simp only at this
  rw [show (((y % 19).toNat : Nat) : Int) = y % 19 by omega] at this
  unfold jp; omega
theorem jeast_bd (y : Int) : jm y + 1 ≤ jeast y ∧ jeast y ≤ jm y + 35 := by
  have := jp_bd y; have := sun_bd (jm y + jp y)
  unfold jeast; omega
theorem jm_eq (y : Int) : jm y = ysJ y + 59 + lj y + 20 := by unfold jm dayJ cumJ; simp; omega
theorem jm_532 (y : Int) : jm (y + 532) = jm y + 194313 := by rw [jm_eq, jm_eq]; unfold ysJ lj; split <;> split <;> omega
theorem jeast_532 (y : Int) : jeast (y + 532) = jeast y + 194313 := by
  have e : jp (y + 532) = jp y := by unfold jp; rw [show (y + 532) % 19 = y % 19 by omega]
  unfold jeast; rw [e, jm_532]; unfold sun wd; omega
/-- its Julian date -/
def jM (y : Int) : Int := if jeast y - jm y < 11 then 3 else 4
def jA (y : Int) : Int := if jeast y - jm y < 11 then jeast y - jm y + 21 else jeast y - jm y - 10
theorem jdate {y : Int} (h1 : 1 ≤ y) (h2 : y ≤ 9999) : okJ y (jM y) (jA y) ∧ dayJ y (jM y) (jA y) = jeast y := by
  have hb := jeast_bd y
  have m4 : dayJ y 4 1 = jm y + 11 := by unfold jm dayJ cumJ; simp; omega
  unfold jM jA; split
  · refine ⟨⟨h1, h2, by omega, by omega, by omega, by simp [lenJ, lenB]; omega⟩, ?_⟩
    unfold jm dayJ at *; omega
  · refine ⟨⟨h1, h2, by omega, by omega, by omega, by simp [lenJ, lenB]; omega⟩, ?_⟩
    unfold jm dayJ at *; omega
theorem jdate_532 (y : Int) : jM (y + 532) = jM y ∧ jA (y + 532) = jA y := by
  unfold jM jA; rw [jeast_532, jm_532, show jeast y + 194313 - (jm y + 194313) = jeast y - jm y by omega]; exact ⟨rfl, rfl⟩
theorem east_in {y : Int} (h1 : 1 ≤ y) (h2 : y ≤ 9999) : -719162 ≤ dayG y 3 1 ∧ dayG y 3 1 ≤ 2932650 ∧ -719162 ≤ east y ∧ east y ≤ 2932800 := by
  have := east_bd y; have e := m1 y; have := lg_01 y
  have s1 : -719162 ≤ ysG y ∧ ysG y ≤ 2932532 := by unfold ysG; omega
  omega
theorem jeast_in {y : Int} (h1 : 1 ≤ y) (h2 : y ≤ 9999) : -719162 ≤ jm y ∧ jm y ≤ 2932800 ∧ -719162 ≤ jeast y ∧ jeast y ≤ 2932850 := by
  have := jeast_bd y; have e := jm_eq y; have := lj_01 y
  have s1 : -719164 ≤ ysJ y ∧ ysJ y ≤ 2932700 := by unfold ysJ; omega
  omega
end Fea
