/- The walk of TopCalendars: calendars agree day by day, and going on by months is the same in dates and in granules. No conditions but the table of lengths. -/
import Derived.Test.YtehjjinlpilelaaGreatDoorMn
import Derived.Test.YtehjjinlpilelaaGreatDoorSTopC
namespace Go.Proofs.YtehjjinlpilelaaGreatDoor
open Go.ChangeShapes Go.WideShapes Go.ChangeAt Go.RowKit

set_option maxHeartbeats 8000000 in
set_option maxRecDepth 100000 in
theorem wTopCalendars (n k s : Int) (w : World) (_hn : -9223372036854775808 ≤ n ∧ n ≤ 9223372036854775807) (hk : 0 ≤ k ∧ k ≤ 255) (hs : -32768 ≤ s ∧ s ≤ 32767) (ht : Tab w) :
    Calls Tryz.prog 3 #[.int .i64 n, .int .u8 k, .int .i16 s] w fun e w' => e = .returned (.bool true) ∧ Below w.heap.size w w' := by
  have hT := Lib.hid ht
  clear ht
  by_cases c1 : n < -719162
  · go_enter Tryz.func3, Tryz.ntmps3
    go_wp2_with fail
    refine (tagree_any 0 1 _ (by decide) (by decide) hT.out).mono ?_; rintro e w1 ⟨rfl, hb1⟩
    go_wp2_with fail
    go_ret
    exact ⟨rfl, hb1⟩
  · by_cases c2 : 2932897 ≤ n
    · go_enter Tryz.func3, Tryz.ntmps3
      go_wp2_with fail
      refine (tagree_any 0 1 _ (by decide) (by decide) hT.out).mono ?_; rintro e w1 ⟨rfl, hb1⟩
      go_wp2_with fail
      go_ret
      exact ⟨rfl, hb1⟩
    · have h : Cal.inB n = true := Cal.inB_iff.2 (by omega)
      have hin := Lib.hid h
      have G := Lib.hid (Top.g_fact h)
      have hkB : Isl.kB (k % 4 + 1) = true := Isl.kB_iff.2 (by omega)
      have hkH := Lib.hid hkB
      have r4 : Int.tmod k 4 = k % 4 := Int.tmod_eq_emod_of_nonneg (by omega)
      have b4 : 0 ≤ k % 4 ∧ k % 4 ≤ 3 := by omega
      obtain ⟨E, hE⟩ : ∃ E, amE (Cal.yG n) (Cal.mG n) s = E := ⟨_, rfl⟩
      have AF : Hid (E = 0 → _) := Lib.hid (fun q => add_fact h (hE.trans q))
      have hEH := Lib.hid hE
      clear h hkB hE
      go_enter Tryz.func3, Tryz.ntmps3
      go_wp2_with fail
      refine (tagree_any 0 1 _ (by decide) (by decide) hT.out).mono ?_; rintro e w1 ⟨rfl, B⟩
      go_upto_region 6 with fail
      go_cut [43] from 17 (fun v wx => v = .bool false ∧ Below w.heap.size w wx)
      case first =>
        as_aux_lemma =>
          go_wp2_with fail
          refine (tagree_any n (k % 4 + 1) _ hin.out hkH.out (hT.out.later B)).mono ?_; rintro e w2 ⟨rfl, hb2⟩
          replace B := below_then B hb2
          clear hb2
          by_cases c3 : n + 1 < 2932897
          · go_wp2_with fail
            refine (tfollow_any n (k % 4 + 1) _ hin.out (Cal.inB_iff.2 (by omega)) hkH.out (hT.out.later B)).mono ?_; rintro e w3 ⟨rfl, hb3⟩
            replace B := below_then B hb3
            clear hb3
            go_wp2_with fail
            go_meet
            exact ⟨rfl, B⟩
          · go_wp2_with fail
            go_meet
            exact ⟨rfl, B⟩
      case rest =>
        clear B
        obtain ⟨rfl, B⟩ := hcut
        as_aux_lemma =>
          go_wp2_with fail
          refine (cdate_any _ _).mono ?_; rintro e w4 ⟨rfl, hb4⟩
          rw [G.out.1]
          replace B := below_then B hb4
          clear hb4
          go_wp2_with fail
          refine (caddm_any _ _ _ _ _ G.out.2.2.2.1 hs.1 hs.2).mono ?_; rintro e w5 ⟨rfl, hb5⟩
          rw [hEH.out]
          replace B := below_then B (below_box hb5)
          clear hb5
          by_cases z : E = 0
          · subst z
            obtain ⟨T, K, _, _, _, hK, rfl, rfl, rfl, t1, t2, k1, k2, s1, s2, f1, f2, f3, f4, f5, f6, f7, f8, f9, hM⟩ := AF.out rfl
            have TH := Lib.hid (And.intro t1 (And.intro t2 hM))
            clear t1 t2 hM hK
            go_wp2_with fail
            refine (cday_any _ _ _ _).mono ?_; rintro e w6 ⟨he, hb6⟩
            rw [TH.out.1, TH.out.2.1] at he
            subst he
            replace B := below_then B (below_box hb6)
            clear hb6
            go_wp2_with fail
            refine (gMonths_any _).mono ?_; rintro e w7 ⟨bM, rfl, hI, hb7⟩
            replace B := below_then B hb7
            replace hI := Lib.hid hI
            clear hb7
            as_aux_lemma =>
              go_wp2_with fail
              refine (nadd_any Gra.ms 4800 146097 0 bM 4800 n s K T _ Gra.months (hI.out.alloc _) (by omega) (by omega) (by omega) (by omega) (by omega) (by omega) (by omega) (by omega) (by omega) (by omega) (by omega) (by omega) (by omega) TH.out.2.2).mono ?_; rintro e w8 ⟨rfl, hb8⟩
              replace B := below_then B (below_box hb8)
              replace hI := Lib.hid (CI.born hI.out hb8)
              clear hb8
              obtain ⟨lM, m0, m1, m2⟩ := hI.out.1
              go_wp2_with fail
              refine (nbetween_any Gra.ms 4800 146097 0 bM 4800 n T K (K + s) _ Gra.months hI.out.2 (by omega) (by omega) (by omega) (by omega) (by omega) (by omega) (by omega) (by omega) (by omega) (by omega) (by omega) (by omega) (by omega) (by omega)).mono ?_; rintro e w9 ⟨he, hb9⟩
              rw [show K + s - K = s by omega] at he
              subst he
              replace B := below_then B hb9
              clear hb9 lM m0 m1 m2
              go_wp2_with fail
              go_ret
              exact ⟨rfl, B⟩
          · have zz : (E != 0) = true := by simpa using z
            go_wp2_with fail
            go_ret
            exact ⟨rfl, B.alloc B.size _⟩
end Go.Proofs.YtehjjinlpilelaaGreatDoor
