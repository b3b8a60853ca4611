/- The contracts of the reference's digits and Text. No conditions. -/
import Derived.Test.YtajpbajffmiceaaWkU
import Derived.Deep.RegionHeld3
namespace Wk
/-- the last digits of a number -/
def dgs (n : Int) : Nat → List UInt8
  | 0 => []
  | k + 1 => dgs (n / 10) k ++ [dig (n % 10)]
def ds (n : Int) (k : Nat) : ByteArray := ⟨(dgs n k).toArray⟩
/-- the same, the count an integer -/
def dsi (n K : Int) : ByteArray := ds n K.toNat
theorem dgs_len (n : Int) : ∀ k, (dgs n k).length = k
  | 0 => rfl
  | k + 1 => by simp [dgs, dgs_len (n / 10) k]
theorem ds_size (n : Int) (k : Nat) : (ds n k).size = k := by simp [ds, ByteArray.size, dgs_len]
theorem tx_ds {y k d : Int} (y1 : 1 ≤ y) (y2 : y ≤ 9999) (k1 : 1 ≤ k) (k2 : k ≤ 54) (d1 : 1 ≤ d) (d2 : d ≤ 7) : ds y 4 ++ ⟨#[45, 87]⟩ ++ ds k 2 ++ ⟨#[45]⟩ ++ ds d 1 = tx y k d := by
  have h : shB y k d = true := shB_iff.2 ⟨y1, y2, k1, k2, d1, d2⟩
  have e : tx y k d = ⟨(tl y k d).toArray⟩ := by simp [tx, h]
  rw [e]
  unfold ds
  rw [show (⟨#[45, 87]⟩ : ByteArray) = ⟨([45, 87] : List UInt8).toArray⟩ by rfl, show (⟨#[45]⟩ : ByteArray) = ⟨([45] : List UInt8).toArray⟩ by rfl]
  rw [Go.ByteArray.mk_append_mk, Go.ByteArray.mk_append_mk, Go.ByteArray.mk_append_mk, Go.ByteArray.mk_append_mk]
  congr 2
  simp only [dgs, tl, List.nil_append, List.cons_append]
  rw [show y / 10 / 10 / 10 % 10 = y / 1000 by omega, show y / 10 / 10 % 10 = y / 100 % 10 by omega, show k / 10 % 10 = k / 10 by omega, show d % 10 = d by omega]
end Wk
namespace Go.Proofs.Ytajpbajffmiceaa
open Go.ChangeShapes Go.WideShapes Go.ChangeAt Go.RowKit

theorem one_string (w : World) (x : Int) (h0 : 0 ≤ x) (h9 : x ≤ 9) : (convert 69 9 (.slice (some ⟨w.heap.size, 0, none⟩) 1 1)).run Try.prog (w.alloc (Obj.cells #[.int .u8 (48 + x)] 5)) = .ok (.string ⟨#[Wk.dig x]⟩) (w.alloc (Obj.cells #[.int .u8 (48 + x)] 5)) := by
  have := run_convert_bytes_back (P := Try.prog) (w.alloc (Obj.cells #[.int .u8 (48 + x)] 5)) 69 9 5 ⟨w.heap.size, 0, none⟩ 1 [Wk.dig x] Try.underlying69 Try.underlying5 Try.underlying9 (fun j hj => by
    simp at hj
    subst hj
    simp [Addr.add, Wk.dig_nat h0 h9])
  exact this
set_option maxHeartbeats 4000000 in
theorem rdigits_any (n : Int) (k : Nat) (w : World) (n0 : 0 ≤ n) (n9 : n ≤ 1000000) (hk : k ≤ 10) :
    Calls Try.prog 51 #[.int .i64 n, .int .i64 k] w fun e w' => e = .returned (.string (Wk.ds n k)) ∧ Below w.heap.size w w' := by
  go_enter Try.func51, Try.ntmps51
  go_wp2_with fail
  go_loopg [0, 5, 6] 12 (fun g t0 t5 t6 wr => ∃ (i : Nat) (m : Int) (l : List UInt8) (s : ByteArray), i ≤ k ∧ t6 = .int .i64 i ∧ t0 = .int .i64 m ∧ 0 ≤ m ∧ m ≤ 1000000 ∧ t5 = .string s ∧ s = ⟨l.toArray⟩ ∧ l.length = i ∧ Wk.dgs n k = Wk.dgs m (k - i) ++ l ∧ Below w.heap.size w wr ∧ k - i ≤ g)
  case atStart => exact ⟨0, n, [], _, by omega, rfl, rfl, n0, n9, rfl, rfl, rfl, by simp, Below.refl _ _, by omega⟩
  case round =>
    obtain ⟨i, m, l, s, hi, rfl, rfl, m0, m9, rfl, hs, hl, hd, hb, hg⟩ := hrel
    have hsz : s.size = i := by rw [hs]; simp [ByteArray.size, hl]
    have hsH := Lib.hid hs
    have hlH := Lib.hid hl
    have hdH := Lib.hid hd
    clear hs hl hd
    by_cases hlt : i < k
    · have hone := fun w => one_string w (m % 10) (by omega) (by omega)
      have hsum : ¬ (9223372036854775807 : Nat) < (⟨#[Wk.dig (m % 10)]⟩ : ByteArray).size + s.size := by rw [hsz]; simp [ByteArray.size]; omega
      go_wp2_with fail
      go_roundg (gk - 1)
      case measure => omega
      case rel =>
        refine ⟨i + 1, m / 10, Wk.dig (m % 10) :: l, _, by omega, by go_num, rfl, by omega, by omega, rfl, ?_, by simp [hlH.out], ?_, below_alloc1 hb _, by omega⟩
        · rw [hsH.out]; exact Go.ByteArray.mk_append_mk [Wk.dig (m % 10)] l
        · rw [hdH.out, show k - i = (k - (i + 1)) + 1 by omega]; simp [Wk.dgs]
    · have e : i = k := by omega
      subst e
      go_wp2_with fail
      go_ret
      have e : s = Wk.ds n i := by
        have h := hdH.out
        rw [Nat.sub_self] at h
        unfold Wk.ds
        rw [hsH.out, h]; rfl
      exact ⟨congrArg (fun x => Ending.returned (Value.string x)) e, hb⟩
theorem rdigits_int (n K : Int) (w : World) (n0 : 0 ≤ n) (n9 : n ≤ 1000000) (k0 : 0 ≤ K) (hk : K ≤ 10) :
    Calls Try.prog 51 #[.int .i64 n, .int .i64 K] w fun e w' => e = .returned (.string (Wk.dsi n K)) ∧ Below w.heap.size w w' := by
  have h := rdigits_any n K.toNat w n0 n9 (by omega)
  rw [show ((K.toNat : Nat) : Int) = K by omega] at h
  exact h
set_option maxHeartbeats 16000000 in
theorem rtext_any (y k d : Int) (w : World) :
    Calls Try.prog 33 #[.agg #[.int .i64 y, .int .i64 k, .int .i64 d]] w fun e w' => e = .returned (.string (Wk.tx y k d)) ∧ Below w.heap.size w w' := by
  rcases Wk.sh_ways y k d with ⟨h, y1, y2, k1, k2, d1, d2⟩ | ⟨h, _⟩
  · have htx : Hid (Wk.dsi y 4 ++ ⟨#[45, 87]⟩ ++ Wk.dsi k 2 ++ ⟨#[45]⟩ ++ Wk.dsi d 1 = Wk.tx y k d) := Lib.hid (Wk.tx_ds y1 y2 k1 k2 d1 d2)
    have s1 : (Wk.dsi y 4).size = 4 := Wk.ds_size y 4
    have s2 : (Wk.dsi k 2).size = 2 := Wk.ds_size k 2
    have s3 : (Wk.dsi d 1).size = 1 := Wk.ds_size d 1
    have hH := Lib.hid h
    clear h
    go_enter Try.func33, Try.ntmps33
    go_wp2_with fail
    refine (rknown_any _ _ _ _).mono ?_; rintro e w1 ⟨rfl, hb1⟩
    rw [hH.out]
    have hD := Lib.hid (Box3.born hb1)
    have hb := below_box hb1
    clear hb1
    obtain ⟨lg, c0, c1, c2, _, _, _⟩ := hD.out
    go_wp2_with fail
    go_region_held3 (fun w' => w'.cell? ⟨w.heap.size, 0, none⟩ = some (.int .i64 y) ∧ w'.cell? ⟨w.heap.size, 1, none⟩ = some (.int .i64 k) ∧ w'.cell? ⟨w.heap.size, 2, none⟩ = some (.int .i64 d))
      (first | go_keep | (go_split_ands; exact ⟨keep1 hb9 (by assumption) (by assumption), keep1 hb9 (by assumption) (by assumption), keep1 hb9 (by assumption) (by assumption)⟩))
      (first | (go_at_call 51; refine (rdigits_int _ _ _ (by omega) (by omega) (by omega) (by omega)).mono ?_; rintro e w9 ⟨rfl, hb9⟩; (first | replace hb9 := below_undrew hb9 | skip); have hb := below_then hb hb9; have lg := Nat.lt_of_lt_of_le lg hb9.size))
    go_wp2_with fail
    go_ret
    exact ⟨congrArg (fun x => Ending.returned (Value.string x)) htx.out, by (repeat (first | exact Below.refl _ _ | assumption | refine below_drewN ?_ _ | refine below_alloc1 ?_ _ | refine below_then ?_ (by assumption)))⟩
  · have e : Wk.tx y k d = ⟨#[]⟩ := by simp [Wk.tx, h]
    rw [e]
    have hH := Lib.hid h
    clear h e
    go_enter Try.func33, Try.ntmps33
    go_wp2_with fail
    refine (rknown_any _ _ _ _).mono ?_; rintro e w1 ⟨rfl, hb1⟩
    rw [hH.out]
    go_wp2_with fail
    go_ret
    exact ⟨rfl, below_box hb1⟩
end Go.Proofs.Ytajpbajffmiceaa
