/- The law WeekBack of the layer holds for every input. -/
import Derived.Test.YtajpbajffmiceaaWkJ
import Derived.Deep.DeepHandedRow
import Derived.Lib.LaidTab
import Derived.Lib.SmallJoins
namespace Go.Proofs.Ytajpbajffmiceaa.fWeekBack
open Go.ChangeShapes Go.WideShapes Go.ChangeAt Go.RowKit

theorem own : ownKnob Try.prog.godebug = none := by kernel_rfl
theorem cellsWeekDate : Try.prog.cellsOf 26 = 3 := by kernel_rfl
theorem cellsWeekRule : Try.prog.cellsOf 23 = 2 := by kernel_rfl

theorem contract (H : Type) (enc : TypeId × Value → H) (W : World) (base : Nat) (args : Array Value) (ds gs : List (DataW H)) (before : List MemPlace)
    (hval : ∀ (j : Nat) t v, Try.f11.params[j]? = some t → args[j]? = some v → Value.okWide Try.prog W .any base t v)
    (hW : DataW.Whole enc Try.prog Try.f11.params.toList Rows.weekBackSpec.vars false W args.toList ds gs before) :
    Calls Try.prog 11 args W fun e W' => ∃ v, e = .returned v ∧ Rows.weekBackSpec.post enc Try.prog Try.f11 false true false false W args v W' := by
  have hW' := hW
  obtain ⟨p, q, hA0, hV, rfl, hfz, hnd⟩ := hW
  have hA : DataW.TrodAll enc Try.prog W 0 (fun _ => true) true Try.f11.params.toList args.toList ds p := hA0
  rw [Try.params11] at hA hval
  obtain ⟨v0, vs0, d0, ds0, p0, q0, hargs, rfl, rfl, h0, r0⟩ := trodAll_cons hA
  obtain ⟨v1, vs1, d1, ds1, p1, q1, rfl, rfl, rfl, h1, r1⟩ := trodAll_cons r0
  obtain ⟨v2, vs2, d2, ds2, p2, q2, rfl, rfl, rfl, h2, r2⟩ := trodAll_cons r1
  obtain ⟨rfl, rfl, rfl⟩ := trodAll_nil r2
  obtain rfl : args = #[v0, v1, v2] := by cases args; simp_all
  obtain ⟨rfl, rfl⟩ := trodVars_none hV
  obtain ⟨c00, c01, y00, y01, m0, rfl, rfl, rfl, hy00, hy01⟩ := Joins.open_agg2 Try.underlying23 (by kernel_rfl) cellsWeekRule (hval 0 23 v0 rfl rfl) h0
  obtain ⟨a00, e00, rfl, w00⟩ := DataW.trod_int Try.underlying3 hy00
  obtain ⟨a01, e01, rfl, w01⟩ := DataW.trod_int Try.underlying3 hy01
  simp at e00 e01
  subst e00 e01
  obtain ⟨a1, rfl, rfl, rfl, w1⟩ := open_int Try.underlying3 (hval 1 3 v1 rfl rfl) h1
  obtain ⟨c20, c21, c22, y20, y21, y22, m2, rfl, rfl, rfl, hy20, hy21, hy22⟩ := Joins.open_agg3 Try.underlying26 (by kernel_rfl) cellsWeekDate (hval 2 26 v2 rfl rfl) h2
  obtain ⟨a20, e20, rfl, w20⟩ := DataW.trod_int Try.underlying3 hy20
  obtain ⟨a21, e21, rfl, w21⟩ := DataW.trod_int Try.underlying3 hy21
  obtain ⟨a22, e22, rfl, w22⟩ := DataW.trod_int Try.underlying3 hy22
  simp at e20 e21 e22
  subst e20 e21 e22
  clear hA0
  simp only [List.append_nil] at hW'
  refine (wWeekBack a00 a01 a1 a20 a21 a22 W (bounds_i64 w00) (bounds_i64 w01) (bounds_i64 w1) (bounds_i64 w20) (bounds_i64 w21) (bounds_i64 w22)).mono fun e W' ⟨he, hg⟩ => ?_
  subst he
  exact ⟨_, rfl, post_below (pa := []) (pv := []) hW' (fun _ _ _ => trodAll_cons_mk (shut_bool Try.underlying4 _) trodAll_mk0) (fun _ => trodAll_cons_mk (Joins.shut_agg2 (y0 := (.lit (.int .i64 a00), [])) (y1 := (.lit (.int .i64 a01), [])) Try.underlying23 (by kernel_rfl) cellsWeekRule ⟨1, by simp [DataW.trod, Try.underlying3, w00]⟩ ⟨1, by simp [DataW.trod, Try.underlying3, w01]⟩) (trodAll_cons_mk (shut_int Try.underlying3 w1) (trodAll_cons_mk (Joins.shut_agg3 (y0 := (.lit (.int .i64 a20), [])) (y1 := (.lit (.int .i64 a21), [])) (y2 := (.lit (.int .i64 a22), [])) Try.underlying26 (by kernel_rfl) cellsWeekDate ⟨1, by simp [DataW.trod, Try.underlying3, w20]⟩ ⟨1, by simp [DataW.trod, Try.underlying3, w21]⟩ ⟨1, by simp [DataW.trod, Try.underlying3, w22]⟩) trodAll_mk0))) (fun _ => rfl) hg⟩

noncomputable def laidWorld (os : Os) : World := World.holding Try.prog os ⟨#[], #[], []⟩
theorem laid_met (os : Os) : laidMet Try.prog Rows.weekBackRow.laid ((laidWorld os).forCall (fun _ _ => 0) ⟨#[], #[Value.agg #[.int .i64 0, .int .i64 0], Value.int .i64 0, Value.agg #[.int .i64 0, .int .i64 0, .int .i64 0]], []⟩).memory :=
  laidMet_of_run' 8 (by kernel_rfl) (by kernel_rfl)
theorem reads (os : Os) {H : Type} (enc : TypeId × Value → H) : ∃ places, DataW.whole enc Try.prog ((laidWorld os).forCall (fun _ _ => 0) ⟨#[], #[Value.agg #[.int .i64 0, .int .i64 0], Value.int .i64 0, Value.agg #[.int .i64 0, .int .i64 0, .int .i64 0]], []⟩).memory Try.f11.params.toList Rows.weekBackSpec.vars false (#[Value.agg #[.int .i64 0, .int .i64 0], Value.int .i64 0, Value.agg #[.int .i64 0, .int .i64 0, .int .i64 0]]).toList 8 = some ([.agg [.lit (.int .i64 0), .lit (.int .i64 0)], .lit (.int .i64 0), .agg [.lit (.int .i64 0), .lit (.int .i64 0), .lit (.int .i64 0)]], [], places) :=
  ⟨[], by kernel_rfl⟩

set_option maxRecDepth 100000 in
theorem lifted (os : Os) (started : os.Started) (H : Type) (enc : TypeId × Value → H) (F : Stop.Interp) :
    ReturnsInHanded {} Try.checked os 11 .any ((OpenSpec.ofChange Rows.weekBackSpec).preRow enc Try.prog Try.f11 Rows.weekBackRow.domain false Rows.weekBackRow.laid) (((OpenSpec.ofChange Rows.weekBackSpec).at F).post enc Try.prog Try.f11 false true false false) := by
  obtain ⟨places, hx⟩ := reads os enc
  refine returnsInHanded_of_row (C := Try.checked) (s := OpenSpec.ofChange Rows.weekBackSpec) own started (by kernel_rfl) Try.func11
    (witness_row_at (enc := enc) (C := Try.checked) false (laidWorld os) #[Value.agg #[.int .i64 0, .int .i64 0], Value.int .i64 0, Value.agg #[.int .i64 0, .int .i64 0, .int .i64 0]] rfl (by kernel_rfl) (by kernel_rfl) (by kernel_rfl)
      (OpenSpec.preRow_of_cond 8 hx (by kernel_rfl) (fun k hk => by cases hk) (by kernel_rfl) (laid_met os))) ?_
  intro W base args ds gs before hval hW _ _ _ _ _ _
  exact contract H enc W base args ds gs before hval hW

theorem said : Rows.WeekBackSaid :=
  OpenClaim.holds_of_cond 11 Try.f11 rfl rfl rfl rfl rfl rfl rfl ⟨rfl, rfl, rfl, rfl, rfl⟩ rfl rfl rfl rfl rfl (by kernel_rfl) Try.func11 (by kernel_rfl)
    (of_decide_eq_true (by kernel_rfl)) (by unfold Func.isWrapper; first | (rw [if_pos (by decide +kernel)]; kernel_rfl) | (rw [if_neg (by decide +kernel)]; exact ⟨rfl, rfl⟩))
    (fun os started H enc _ F => by rw [OpenClaim.pre_eq_preRow]; exact lifted os started H enc F)

theorem proved : Rows.WeekBackSaid := said
#print axioms proved
end Go.Proofs.Ytajpbajffmiceaa.fWeekBack
