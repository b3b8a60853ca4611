/- The contract of calendarsAgree: all dates of a day lead back to it, and the granules that hold it have the right numbers. Condition: it is a day. -/
import Derived.Deep.RegionHeld3
import Derived.Test.YtehjjinlpilelaaGreatDoorMn
import Derived.Test.YtehjjinlpilelaaGreatDoorMp
import Derived.Test.YtehjjinlpilelaaGreatDoorMs
import Derived.Test.YtehjjinlpilelaaGreatDoorMt
import Derived.Test.YtehjjinlpilelaaGreatDoorSTopB
namespace Go.Proofs.YtehjjinlpilelaaGreatDoor
open Go.ChangeShapes Go.WideShapes Go.ChangeAt Go.RowKit

theorem cweekday_b (n : Int) (w : World) : Calls Tryz.prog 15 #[.int .i64 n] w fun e w' => e = .returned (.int .i64 (wdG n)) ∧ Below w.heap.size w w' := by
  refine (cweekday_any n w).mono ?_; rintro e w' ⟨rfl, kd, rfl⟩; exact ⟨rfl, below_drewN (Below.refl _ _) _⟩
theorem wd_fact {n : Int} (h : Cal.inB n = true) : wdG n = (n + 3) % 7 + 1 := by simp [wdG, h]
theorem imonths_1 (k : Int) (w : World) (hk : Isl.kB k = true) :
    Calls Tryz.prog 25 #[.int .i64 k, .int .i64 1, .int .i64 1] w fun e w' => ∃ b cap, e = .returned (.tuple #[.agg #[.int .i64 (Isl.first k 1), .int .i64 10631, .slice (some ⟨b, 0, none⟩) 360 cap], .int .i64 0]) ∧ Ints w' b (Gra.sp (Isl.S k 1) 360) ∧ Below w.heap.size w w' := by
  refine (imonths_good k 1 1 w hk (by omega) (by omega) (by omega) (by omega) (by omega) (by decide)).mono ?_
  rintro e w' ⟨v, rfl, hS, hb⟩
  rw [show (360 / (1 : Int)).toNat = 360 by decide] at hS
  rcases hS with ⟨h0, _⟩ | ⟨h0, hl, b, cap, rfl, hI⟩
  · omega
  · exact ⟨b, cap, rfl, by rw [Gra.sp_fs]; exact hI, hb⟩
/-- a calendar and its list -/
def CI (w : World) (cb : Nat) (O P : Int) (b n cap : Nat) (xs : List Int) : Prop := CalC w cb O P b n cap ∧ Ints w b xs
theorem CI.later {w w1 : World} {cb b n cap : Nat} {O P : Int} {xs : List Int} (h : CI w cb O P b n cap xs) (hb : Below w.heap.size w w1) : CI w1 cb O P b n cap xs := ⟨h.1.later hb, h.2.later hb⟩
theorem CI.born {w w1 : World} {b n cap : Nat} {O P : Int} {xs : List Int} (hI : Ints w b xs) (hb : Below (w.alloc (.cells #[.int .i64 O, .int .i64 P, .slice (some ⟨b, 0, none⟩) n cap] 34)).heap.size (w.alloc (.cells #[.int .i64 O, .int .i64 P, .slice (some ⟨b, 0, none⟩) n cap] 34)) w1) : CI w1 w.heap.size O P b n cap xs :=
  ⟨(CalC.new w O P b n cap).later hb, (hI.alloc _).later hb⟩
set_option maxHeartbeats 16000000 in
set_option maxRecDepth 100000 in
theorem tagree_any (n k : Int) (w : World) (h : Cal.inB n = true) (hk : Isl.kB k = true) (ht : Tab w) :
    Calls Tryz.prog 4 #[.int .i64 n, .int .i64 k] w fun e w' => e = .returned (.bool true) ∧ Below w.heap.size w w' := by
  have hn := Cal.inB_iff.1 h
  have hT := Lib.hid ht
  have G := Lib.hid (Top.g_fact h)
  have J := Lib.hid (Top.j_fact h)
  have N := Lib.hid (Top.n_fact h)
  have H := Lib.hid (Top.h_fact h)
  have O := Lib.hid (Wk.back_or h)
  have E := Lib.hid (Top.e_fact h)
  have M := Lib.hid (Top.m_fact h)
  have hin := Lib.hid h
  obtain ⟨W, hW⟩ : ∃ W, wdG n = W := ⟨_, rfl⟩
  have hW2 := wd_fact h
  rw [hW] at hW2
  have wb : 1 ≤ W ∧ W ≤ 7 := by omega
  have r7 : Int.tmod (n + 2440588) 7 = W - 1 := by rw [(Top.n_fact h).2]; omega
  have WH := Lib.hid (And.intro hW hW2)
  have yb : 1 ≤ Cal.yG n ∧ Cal.yG n ≤ 9999 ∧ 1 ≤ Cal.mG n ∧ Cal.mG n ≤ 12 := ⟨(Top.g_fact h).2.2.2.2.1, (Top.g_fact h).2.2.2.2.2.1, (Top.g_fact h).2.2.2.2.2.2.1, (Top.g_fact h).2.2.2.2.2.2.2.1⟩
  obtain ⟨ie, hie⟩ : ∃ e, Isl.dtE k n = e := ⟨_, rfl⟩
  obtain ⟨iy, hiy⟩ : ∃ e, Isl.yI k n = e := ⟨_, rfl⟩
  obtain ⟨im, him⟩ : ∃ e, Isl.mI k n = e := ⟨_, rfl⟩
  obtain ⟨ia, hia⟩ : ∃ e, Isl.aI k n = e := ⟨_, rfl⟩
  have hIF := Top.i_ok hk hie hiy him hia
  have IF := Lib.hid (And.intro hie (And.intro hiy (And.intro him (And.intro hia hIF))))
  have PF := Lib.hid (Top.p_fact h)
  clear hie hiy him hia hIF
  obtain ⟨EW, hEW⟩ : ∃ e, Wk.ofE 1 4 n = e := ⟨_, rfl⟩
  obtain ⟨wy, hwy⟩ : ∃ e, Wk.ofY 1 4 n = e := ⟨_, rfl⟩
  obtain ⟨wk, hwk⟩ : ∃ e, Wk.ofW 1 4 n = e := ⟨_, rfl⟩
  obtain ⟨wd, hwd⟩ : ∃ e, Wk.ofD 1 4 n = e := ⟨_, rfl⟩
  have hWF : EW = 0 → Wk.dyN 1 4 wy wk wd = n ∧ Wk.dyE 1 4 wy wk wd = 0 ∧ wd = W := by
    intro q
    rw [← hEW] at q
    obtain ⟨_, q2, q3, q4⟩ := Wk.back_of q
    rw [hwy, hwk, hwd] at q2 q3
    rw [hwd] at q4
    exact ⟨q2, q3, by omega⟩
  have WF := Lib.hid (And.intro hEW (And.intro hwy (And.intro hwk (And.intro hwd hWF))))
  clear h ht hW hW2 hEW hwy hwk hwd hWF
  go_enter Tryz.func4, Tryz.ntmps4
  go_wp2_with fail
  refine (cdate_any _ _).mono ?_; rintro e w1 ⟨rfl, hb1⟩
  rw [G.out.1]
  go_wp2_with fail
  refine (cday_any _ _ _ _).mono ?_; rintro e w2 ⟨rfl, hb2⟩
  rw [G.out.2.1]
  rw [G.out.2.2.1]
  have hG2 := Lib.hid (Box3.born hb2)
  have hp := hb1.size
  have B2 := below_then hb1 (below_box hb2)
  clear hb1 hb2
  generalize w1.heap.size = p at *
  as_aux_lemma =>
    go_wp2_with fail
    refine (jdate_any _ _ (hT.out.later B2)).mono ?_; rintro e w3 ⟨rfl, hb3⟩
    rw [G.out.1]
    have hG3 := Lib.hid (hG2.out.later hb3)
    have B3 := below_then B2 hb3
    clear hG2 B2 hb3
    as_aux_lemma =>
      go_wp2_with fail
      refine (jday_any _ _ _ _ ((hT.out.later B3).later ((Below.refl _ _).alloc (Nat.le_refl _) _))).mono ?_; rintro e w4 ⟨rfl, hb4⟩
      rw [J.out.1]
      rw [J.out.2]
      have hG4 := Lib.hid ((hG3.out.alloc _).later hb4)
      have B4 := below_then B3 (below_box hb4)
      clear hG3 B3 hb4
      as_aux_lemma =>
        go_wp2_with fail
        refine (jnumber_any _ _).mono ?_; rintro e w5 ⟨rfl, rfl⟩
        rw [N.out.1, G.out.1]
        go_wp2_with fail
        refine (cweekday_b _ _).mono ?_; rintro e w6 ⟨rfl, hb6⟩
        rw [WH.out.1]
        have hG6 := Lib.hid (hG4.out.later hb6)
        have B6 := below_then B4 hb6
        clear hG4 B4 hb6
        as_aux_lemma =>
          go_wp2_with fail
          refine (hDate_any _ _).mono ?_; rintro e w7 ⟨rfl, hb7⟩
          rw [H.out.1]
          have hG7 := Lib.hid (hG6.out.later hb7)
          have B7 := below_then B6 hb7
          clear hG6 B6 hb7
          as_aux_lemma =>
            go_wp2_with fail
            refine (hday_any _ _ _ _).mono ?_; rintro e w8 ⟨rfl, hb8⟩
            rw [H.out.2.1]
            rw [H.out.2.2]
            have hG8 := Lib.hid ((hG7.out.alloc _).later hb8)
            have B8 := below_then B7 (below_box hb8)
            clear hG7 B7 hb8
            as_aux_lemma =>
              go_wp2_with fail
              refine (kordinal_any _ _).mono ?_; rintro e w9 ⟨rfl, hb9⟩
              rw [G.out.1]
              have hG9 := Lib.hid (hG8.out.later hb9)
              have B9 := below_then B8 hb9
              clear hG8 B8 hb9
              as_aux_lemma =>
                go_wp2_with fail
                refine (kfrom_any _ _ _).mono ?_; rintro e w10 ⟨rfl, hb10⟩
                rw [O.out.1]
                rw [O.out.2.1]
                have hG10 := Lib.hid (hG9.out.later hb10)
                have B10 := below_then B9 hb10
                clear hG9 B9 hb10
                obtain ⟨_, a0, a1, a2, _, _, _⟩ := hG10.out
                go_wp2_with fail
                refine (cyearday_any _ _ _ _).mono ?_; rintro e w11 ⟨rfl, hb11⟩
                rw [O.out.2.2]
                have hG11 := Lib.hid (hG10.out.later hb11)
                have B11 := below_then B10 hb11
                clear hG10 B10 hb11 a0 a1 a2
                as_aux_lemma =>
                  go_wp2_with fail
                  refine (kiso_any _).mono ?_; rintro e w12 ⟨rfl, hb12⟩
                  have hG12 := Lib.hid (hG11.out.later hb12)
                  have B12 := below_then B11 hb12
                  clear hG11 B11 hb12
                  go_wp2_with fail
                  refine (kof_any _ _ _ _).mono ?_; rintro e w13 ⟨he, hb13⟩
                  rw [WF.out.1, WF.out.2.1, WF.out.2.2.1, WF.out.2.2.2.1] at he
                  subst he
                  have hG13 := Lib.hid ((hG12.out.later hb13).alloc (Obj.cells #[.int .i64 wy, .int .i64 wk, .int .i64 wd] 45))
                  have hq := hb13.size
                  have B13 := below_then B12 hb13
                  have B13 := B13.alloc B13.size (Obj.cells #[.int .i64 wy, .int .i64 wk, .int .i64 wd] 45)
                  clear hG12 B12 hb13
                  go_upto_if 169 with fail
                  go_cut [] from 49 (fun wx => Below w.heap.size w wx ∧ Box3 wx p (.int .i64 (Cal.yG n)) (.int .i64 (Cal.mG n)) (.int .i64 (Cal.aG n)))
                  case first =>
                    as_aux_lemma =>
                      by_cases z : EW = 0
                      · subst z
                        have F := Lib.hid (WF.out.2.2.2.2 rfl)
                        have a5 : Hid ((wd != wdG n) = false) := Lib.hid (by rw [WH.out.1, F.out.2.2]; simp)
                        have hX := Box3.new w13 (.int .i64 wy) (.int .i64 wk) (.int .i64 wd) 45
                        go_wp2_with fail
                        generalize w13.alloc (Obj.cells #[.int .i64 wy, .int .i64 wk, .int .i64 wd] 45) = W13 at *
                        generalize w13.heap.size = q at *
                        obtain ⟨le, e0, e1, e2, _, _, _⟩ := hX
                        go_region_held3 (fun w' => w'.cell? ⟨q, 0, none⟩ = some (.int .i64 wy) ∧ w'.cell? ⟨q, 1, none⟩ = some (.int .i64 wk) ∧ w'.cell? ⟨q, 2, none⟩ = some (.int .i64 wd))
                          (first | go_keep | (go_split_ands; exact ⟨keep1 hb9 (by assumption) (by assumption), keep1 hb9 (by assumption) (by assumption), keep1 hb9 (by assumption) (by assumption)⟩))
                          (first | ((first | (go_at_call 22; refine (kiso_any _).mono ?_; rintro e w9 ⟨rfl, hb9⟩) | (go_at_call 23; refine (kday_any _ _ _ _ _ _).mono ?_; rintro e w9 ⟨he, hb9⟩; rw [F.out.1, F.out.2.1] at he; subst he)); (first | replace hb9 := below_undrew hb9 | skip); have B13 := below_then B13 hb9; have hG13 := Lib.hid (hG13.out.later hb9); have le := Nat.lt_of_lt_of_le le hb9.size))
                        go_wp2_with fail
                        go_quiet ((first | (go_at_call 15; exact Calls.quiet_of (cweekday_any _ _))))
                        have a5 := a5.out
                        go_wp2_with fail
                        go_meet
                        exact ⟨below_drewN B13 _, hG13.out.drewN _⟩
                      · have zz : (EW == 0) = false := by simpa using z
                        go_wp2_with fail
                        go_meet
                        exact ⟨B13, hG13.out⟩
                  case rest =>
                    as_aux_lemma =>
                      obtain ⟨B, hG⟩ := hcut
                      replace hG := Lib.hid hG
                      clear hG13 B13 hq
                      go_wp2_with fail
                      refine (idate_any _ _ _).mono ?_; rintro e w15 ⟨he, hb15⟩
                      rw [IF.out.1, IF.out.2.1, IF.out.2.2.1, IF.out.2.2.2.1] at he
                      subst he
                      replace hG := Lib.hid ((hG.out.later hb15).alloc (Obj.cells #[.int .i64 iy, .int .i64 im, .int .i64 ia] 25))
                      replace B := below_then B hb15
                      replace B := B.alloc B.size (Obj.cells #[.int .i64 iy, .int .i64 im, .int .i64 ia] 25)
                      clear hb15
                      go_upto_if 197 with fail
                      go_cut [] from 49 (fun wx => Below w.heap.size w wx ∧ Box3 wx p (.int .i64 (Cal.yG n)) (.int .i64 (Cal.mG n)) (.int .i64 (Cal.aG n)))
                      case first =>
                        as_aux_lemma =>
                          by_cases z : ie = 0
                          · subst z
                            have F := Lib.hid (IF.out.2.2.2.2 rfl)
                            have X := Lib.hid (Box3.new w15 (.int .i64 iy) (.int .i64 im) (.int .i64 ia) 25)
                            go_wp2_with fail
                            generalize w15.alloc (Obj.cells #[.int .i64 iy, .int .i64 im, .int .i64 ia] 25) = W15 at *
                            generalize w15.heap.size = q at *
                            refine (imonths_1 k _ hk).mono ?_; rintro e w16 ⟨bI, capI, rfl, hI, hb16⟩
                            replace hI := Lib.hid hI
                            replace B := below_then B hb16
                            replace hG := Lib.hid (hG.out.later hb16)
                            replace X := Lib.hid (X.out.later hb16)
                            clear hb16
                            as_aux_lemma =>
                              go_wp2_with fail
                              refine (gfind_any (Isl.S k 1) 360 10631 (Isl.first k 1) n (12 * (iy - 1) + im - 1) bI capI _ (Gra.islamic hk) (hI.out.alloc _) (by have := F.out; omega) (by have := F.out; omega) (by have := F.out; omega) (by have := F.out; omega) (by omega) (by omega) F.out.2.2.2.2.2.2.1 F.out.2.2.2.2.2.2.2.1).mono ?_; rintro e w17 ⟨rfl, hb17⟩
                              replace B := below_then B (below_box hb17)
                              replace hG := Lib.hid (hG.out.later (below_box hb17))
                              replace X := Lib.hid (X.out.later (below_box hb17))
                              clear hb17 hI
                              as_aux_lemma =>
                                obtain ⟨_, x0, x1, x2, _, _, _⟩ := X.out
                                go_wp2_with fail
                                refine (iday_any _ _ _ _ _).mono ?_; rintro e w18 ⟨he, hb18⟩
                                rw [F.out.1, F.out.2.1] at he
                                subst he
                                replace B := below_then B hb18
                                replace hG := Lib.hid (hG.out.later hb18)
                                replace X := X.out.later hb18
                                clear hb18 x0 x1 x2
                                obtain ⟨_, x0, x1, x2, _, _, _⟩ := X
                                have fb := F.out
                                replace fb := And.intro fb.2.2.1 (And.intro fb.2.2.2.1 (And.intro fb.2.2.2.2.1 fb.2.2.2.2.2.1))
                                go_wp2_with fail
                                go_meet
                                exact ⟨B, hG.out⟩
                          · have zz : (ie == 0) = false := by simpa using z
                            go_wp2_with fail
                            go_meet
                            exact ⟨B, hG.out⟩
                      case rest =>
                        clear B hG
                        as_aux_lemma =>
                          obtain ⟨B, hG⟩ := hcut
                          replace hG := Lib.hid hG
                          obtain ⟨_, a0, a1, a2, _, _, _⟩ := hG.out
                          go_wp2_with fail
                          refine (feaster_any _ _).mono ?_; rintro e w20 ⟨he, hb20⟩
                          rw [E.out.1] at he
                          subst he
                          replace B := below_then B hb20
                          replace hG := Lib.hid (hG.out.later hb20)
                          clear hb20 a0 a1 a2
                          obtain ⟨_, a0, a1, a2, _, _, _⟩ := hG.out
                          go_wp2_with fail
                          refine (ffind_any _ _).mono ?_; rintro e w21 ⟨he, hb21⟩
                          rw [G.out.1] at he
                          subst he
                          replace B := below_then B hb21
                          replace hG := Lib.hid (hG.out.later hb21)
                          clear hb21 a0 a1 a2
                          have e1 := E.out.2
                          generalize Fea.easter (Cal.yG n) = ea at *
                          generalize Fea.fdN n = fd at *
                          obtain ⟨_, a0, a1, a2, _, _, _⟩ := hG.out
                          go_wp2_with fail
                          refine (gMonths_any _).mono ?_; rintro e w22 ⟨bM, rfl, hM, hb22⟩
                          replace B := below_then B hb22
                          replace hG := Lib.hid (hG.out.later hb22)
                          replace hM := Lib.hid hM
                          clear hb22 a0 a1 a2 e1
                          as_aux_lemma =>
                            go_wp2_with fail
                            refine (gYears_any _).mono ?_; rintro e w23 ⟨bY, rfl, hY, hb23⟩
                            replace B := below_then B (below_box hb23)
                            replace hG := Lib.hid (hG.out.later (below_box hb23))
                            replace hM := Lib.hid (CI.born hM.out hb23)
                            replace hY := Lib.hid hY
                            clear hb23
                            generalize w22.heap.size = qM at *
                            obtain ⟨lM, m0, m1, m2⟩ := hM.out.1
                            go_wp2_with fail
                            refine (gfind_any Gra.ms 4800 146097 0 n (12 * (Cal.yG n - 1970) + Cal.mG n - 1) bM 4800 _ Gra.months (hM.out.2.alloc _) (by omega) (by omega) (by have := M.out; omega) (by have := M.out; omega) (by omega) (by omega) (by have := M.out; omega) (by have := M.out; omega)).mono ?_; rintro e w24 ⟨rfl, hb24⟩
                            replace B := below_then B (below_box hb24)
                            replace hG := Lib.hid (hG.out.later (below_box hb24))
                            replace hM := Lib.hid (hM.out.later (below_box hb24))
                            replace hY := Lib.hid (CI.born hY.out hb24)
                            clear hb24 lM m0 m1 m2
                            generalize w23.heap.size = qY at *
                            as_aux_lemma =>
                              obtain ⟨lY, y0, y1, y2⟩ := hY.out.1
                              go_wp2_with fail
                              refine (gfind_any Gra.yr 400 146097 0 n (Cal.yG n - 1970) bY 400 _ Gra.years hY.out.2 (by omega) (by omega) (by omega) (by omega) (by omega) (by omega) (by have := M.out; omega) (by have := M.out; omega)).mono ?_; rintro e w25 ⟨rfl, hb25⟩
                              replace B := below_then B hb25
                              replace hG := Lib.hid (hG.out.later hb25)
                              replace hM := Lib.hid (hM.out.later hb25)
                              replace hY := Lib.hid (hY.out.later hb25)
                              clear hb25 lY y0 y1 y2
                              obtain ⟨lM, m0, m1, m2⟩ := hM.out.1
                              obtain ⟨lY, y0, y1, y2⟩ := hY.out.1
                              go_wp2_with fail
                              refine (nplaceof_any Gra.ms 4800 146097 0 bM 4800 Gra.yr 400 146097 0 bY 400 (12 * (Cal.yG n - 1970) + Cal.mG n - 1) (Cal.yG n - 1970) (12 * (Cal.yG n - 1970)) _ Gra.months hM.out.2 (by omega) (by omega) Gra.years hY.out.2 (by omega) (by omega) (by have := M.out; omega) (by have := M.out; omega) (by have := PF.out; omega) (by have := PF.out; omega) (by omega) (by omega) PF.out.1 PF.out.2.1 (by omega) (by omega) (by have := PF.out; omega) PF.out.2.2.1).mono ?_; rintro e w26 ⟨he, hb26⟩
                              rw [show 12 * (Cal.yG n - 1970) + Cal.mG n - 1 - 12 * (Cal.yG n - 1970) + 1 = Cal.mG n by omega] at he
                              subst he
                              replace B := below_then B hb26
                              replace hG := Lib.hid (hG.out.later hb26)
                              replace hM := Lib.hid (hM.out.later hb26)
                              replace hY := Lib.hid (hY.out.later hb26)
                              clear hb26 lM m0 m1 m2 lY y0 y1 y2
                              as_aux_lemma =>
                                go_wp2_with fail
                                refine (gWeeks_any _).mono ?_; rintro e w27 ⟨bW, rfl, hW, hb27⟩
                                replace B := below_then B hb27
                                replace hG := Lib.hid (hG.out.later hb27)
                                replace hM := Lib.hid (hM.out.later hb27)
                                replace hY := Lib.hid (hY.out.later hb27)
                                replace hW := Lib.hid hW
                                clear hb27
                                go_wp2_with fail
                                refine (gfind_any Gra.wk 1 7 (-3) n ((n + 3) / 7) bW 1 _ Gra.weeks (hW.out.alloc _) (by omega) (by omega) (by omega) (by omega) (by omega) (by omega) (Top.w_fact n).1 (Top.w_fact n).2).mono ?_; rintro e w28 ⟨rfl, hb28⟩
                                replace B := below_then B (below_box hb28)
                                replace hG := Lib.hid (hG.out.later (below_box hb28))
                                replace hM := Lib.hid (hM.out.later (below_box hb28))
                                replace hY := Lib.hid (hY.out.later (below_box hb28))
                                clear hb28 hW
                                as_aux_lemma =>
                                  obtain ⟨lM, m0, m1, m2⟩ := hM.out.1
                                  go_wp2_with fail
                                  refine (ugroups_12 bM 4800 _ hM.out.2).mono ?_; rintro e w29 ⟨bT, rfl, hT29, hb29⟩
                                  replace B := below_then B hb29
                                  replace hG := Lib.hid (hG.out.later hb29)
                                  replace hY := Lib.hid (hY.out.later hb29)
                                  replace hT29 := Lib.hid hT29
                                  clear hb29 lM m0 m1 m2 hM
                                  obtain ⟨_, a0, a1, a2, _, _, _⟩ := hG.out
                                  go_wp2_with fail
                                  refine (floor_b _ _ _ (by omega) (by omega) (by omega) (by omega)).mono ?_; rintro e w30 ⟨rfl, hb30⟩
                                  replace B := below_then B (below_box hb30)
                                  replace hY := Lib.hid (hY.out.later (below_box hb30))
                                  have hX := Lib.hid (CI.born hT29.out hb30)
                                  clear hb30 a0 a1 a2 hG hT29
                                  generalize w29.heap.size = qT at *
                                  as_aux_lemma =>
                                    obtain ⟨lY, y0, y1, y2⟩ := hY.out.1
                                    obtain ⟨lT, t0, t1, t2⟩ := hX.out.1
                                    go_wp2_with fail
                                    refine (gequal_any Gra.yr 400 146097 0 bT 400 bY 400 _ Gra.years hX.out.2 hY.out.2 (by omega) (by omega)).mono ?_; rintro e w31 ⟨rfl, hb31⟩
                                    replace B := below_then B hb31
                                    clear hb31 lY y0 y1 y2 lT t0 t1 t2 hX hY
                                    go_wp2_with fail
                                    go_ret
                                    exact ⟨rfl, B⟩
end Go.Proofs.YtehjjinlpilelaaGreatDoor
