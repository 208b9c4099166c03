/- The statement FnExactShiftsOf: for every input the law's function returns true, and each argument reads behind the call as it read before. No condition. -/
import Derived.Test.YtnjgcacnfobmiaaRows
import Derived.Test.YtnjgcacnfobmiaaWords
import Derived.Test.YtnjgcacnfobmiaaGat
import Derived.Test.YtnjgcacnfobmiaaOpen
import Derived.Test.YtnjgcacnfobmiaaLoadg
import Derived.Test.YtnjgcacnfobmiaaFShf
import Derived.ProofKit
import Derived.OpenShut
import Derived.ChangeOld
import Derived.Deep.RegionHeld3
namespace Go.Proofs.Ytnjgcacnfobmiaa.xShiftsOf
open Go.RowKit Go.ChangeShapes Go.WideShapes Go.ChangeAt
set_option maxRecDepth 100000
open Go.Proofs.Ytnjgcacnfobmiaa
set_option linter.unusedVariables false

set_option maxRecDepth 100000 in
set_option maxHeartbeats 4000000 in
theorem walk (a0 : Int) (pa0 : Option Addr) (pc0 : Nat) (ps0 : List Nat) (ra0 : Option Addr) (rc0 : Nat) (rs0 : List (List Nat)) (ao1 : Option Addr) (cap1 : Nat) (xs1 : List Nat) (a2 : Int) (w : World) (hi0 : -9223372036854775808 ≤ a0 ∧ a0 ≤ 9223372036854775807) (hc0 : FR w pa0 ps0) (hr0 : RS w ra0 rs0) (hb0 : small ps0 rs0) (hc1 : FR w ao1 xs1) (hi2 : -9223372036854775808 ≤ a2 ∧ a2 ≤ 9223372036854775807) : Calls Try.prog 10 #[.agg #[.int .i64 a0, .slice pa0 ps0.length pc0, .slice ra0 rs0.length rc0], .slice ao1 xs1.length cap1, .int .i64 a2] w fun e w' => e = .returned (.bool true) ∧ Ext w w' := by
  have EW : Ext w (w.alloc (.cells #[.int .i64 a0, .slice pa0 ps0.length pc0, .slice ra0 rs0.length rc0] 55)) := ((Ext.refl w).alloc _)
  replace hc0 := hc0.ext EW
  replace hr0 := hr0.ext EW
  replace hc1 := hc1.ext EW
  by_cases hl1 : xs1.length ≤ 1048576
  case neg =>
    have hl' : 1048576 < xs1.length := by omega
    go_enter Try.func10, Try.ntmps10
    go_wp2_with fail
    all_goals go_ret
    all_goals exact ⟨rfl, EW⟩
  by_cases hl0 : ps0.length + (rs0.length + tot rs0) ≤ 1048576
  case neg =>
    have T : Ext (w.alloc (.cells #[.int .i64 a0, .slice pa0 ps0.length pc0, .slice ra0 rs0.length rc0] 55)) (w.alloc (.cells #[.int .i64 a0, .slice pa0 ps0.length pc0, .slice ra0 rs0.length rc0] 55)) := Ext.refl _
    go_enter Try.func10, Try.ntmps10
    have hbox0 : Cells _ (w.heap.size) #[.int .i64 a0, .slice pa0 ps0.length pc0, .slice ra0 rs0.length rc0] 55 := Cells.ext (Cells.new w _ _) T
    go_wp2_with (first | (refine wpList_load_row rfl _ _ rfl _ rfl _ _ _ _ hbox0 Try.underlying55 rfl infoLG ?_))
    clear hbox0
    go_at_call 44; have hq := szGather_no a0 pa0 pc0 ps0 ra0 rc0 rs0 (1048576) _ (hr0.ext T) hb0 (by omega) (by omega); refine hq.mono ?_; clear hq
    rintro _ _ ⟨rfl, E⟩
    replace T := Ext.trans T E
    clear E
    go_wp2_with fail
    go_ret
    exact ⟨rfl, Ext.trans EW T⟩
  have T : Ext (w.alloc (.cells #[.int .i64 a0, .slice pa0 ps0.length pc0, .slice ra0 rs0.length rc0] 55)) (w.alloc (.cells #[.int .i64 a0, .slice pa0 ps0.length pc0, .slice ra0 rs0.length rc0] 55)) := Ext.refl _
  have hsl : Hid (((shiftsO a0 (cl ps0) (cls rs0) (cl xs1) a2).getD []).length ≤ 1048576) := shiftsO_len _ _ _ _ _
  obtain ⟨LL, hLL⟩ : ∃ L : List Int, Hid (L = (shiftsO a0 (cl ps0) (cls rs0) (cl xs1) a2).getD []) := ⟨_, rfl⟩
  have hLl : Hid (LL.length ≤ 1048576) := by unfold Hid; rw [hLL.out]; exact hsl.out
  go_enter Try.func10, Try.ntmps10
  have hz0 : (0 : Int) ≤ 1048576 - (ps0.length : Int) - ((rs0.length : Int) + (tot rs0 : Int)) := by omega
  have hbox0 : Cells _ (w.heap.size) #[.int .i64 a0, .slice pa0 ps0.length pc0, .slice ra0 rs0.length rc0] 55 := Cells.ext (Cells.new w _ _) T
  go_wp2_with (first | (refine wpList_load_row rfl _ _ rfl _ rfl _ _ _ _ hbox0 Try.underlying55 rfl infoLG ?_))
  clear hbox0
  go_at_call 44; have hq := szGather_ok a0 pa0 pc0 ps0 ra0 rc0 rs0 (1048576) _ (hr0.ext T) hb0 (by omega) (by omega); refine hq.mono ?_; clear hq
  rintro _ Vz0 ⟨rfl, E⟩
  replace T := Ext.trans T E
  clear E
  have hbox0 : Cells _ (w.heap.size) #[.int .i64 a0, .slice pa0 ps0.length pc0, .slice ra0 rs0.length rc0] 55 := Cells.ext (Cells.new w _ _) T
  go_wp2_with (first | (refine wpList_load_row rfl _ _ rfl _ rfl _ _ _ _ hbox0 Try.underlying55 rfl infoLG ?_))
  clear hbox0
  go_at_call 46; refine (toGather_any _ _ _ _ _ _ _ _ (by exact hc0.ext T) (by exact hr0.ext T) hl0).mono ?_
  rintro _ W_c1 ⟨pv, rv, vs_c1, rfl, E, O_c1⟩
  obtain ⟨⟨ap_c1, cp_c1, rfl, _⟩, ⟨ar_c1, cr_c1, rfl, _⟩⟩ := OwnG.fr O_c1
  replace O_c1 := OwnG.mono O_c1 T.size
  replace T := Ext.trans (by repeat (first | exact T | apply Ext.drewN)) E
  clear E
  have hbox0 : Cells _ (w.heap.size) #[.int .i64 a0, .slice pa0 ps0.length pc0, .slice ra0 rs0.length rc0] 55 := Cells.ext (Cells.new w _ _) T
  go_wp2_with (first | (refine wpList_load_row rfl _ _ rfl _ rfl _ _ _ _ hbox0 Try.underlying55 rfl infoLG ?_))
  clear hbox0
  go_at_call 21; refine (toFloat32S_any _ _ _ _ (by exact hc1.ext T) hl1).mono ?_
  rintro _ W_c2 ⟨v, rfl, E, O_c2⟩
  obtain ⟨ao_c2, cap_c2, rfl, _⟩ := OwnF.fr O_c2
  have D_c1_c2 : ∀ k, gB (.slice ap_c1 ps0.length cp_c1) (.slice ar_c1 rs0.length cr_c1) vs_c1 k → ¬ (Value.ownBlock (.slice ao_c2 xs1.length cap_c2) = some k) := by intro k hk hy; have h1 := OwnG.lt O_c1 k hk; have h2 := OwnF.lt O_c2 k hy; omega
  replace O_c1 := OwnG.ext (by exact O_c1) E
  replace O_c2 := OwnF.mono O_c2 T.size
  replace T := Ext.trans (by repeat (first | exact T | apply Ext.drewN)) E
  clear E
  have hbox0 : Cells _ (w.heap.size) #[.int .i64 a0, .slice pa0 ps0.length pc0, .slice ra0 rs0.length rc0] 55 := Cells.ext (Cells.new w _ _) T
  go_wp2_with (first | (refine wpList_load_row rfl _ _ rfl _ rfl _ _ _ _ hbox0 Try.underlying55 rfl infoLG ?_))
  clear hbox0
  refine (specShf_any _ _ _ _ _ _ _ _ _ _ _ _ (by exact OwnG.fp O_c1) (by exact OwnG.fs O_c1) hl0 (by exact OwnF.toFR O_c2) hl1 hi2.1 hi2.2).mono ?_
  rintro _ V3 ⟨v, rfl, E, O_w0⟩
  rw [← hLL.out] at O_w0
  obtain ⟨ao_w0, cap_w0, rfl, _⟩ := OwnV.fr O_w0
  have D_c1_w0 : ∀ k, gB (.slice ap_c1 ps0.length cp_c1) (.slice ar_c1 rs0.length cr_c1) vs_c1 k → ¬ (Value.ownBlock (.slice ao_w0 LL.length cap_w0) = some k) := by intro k hk hy; have h1 := OwnG.lt O_c1 k hk; have h2 := OwnI.lt O_w0 k hy; omega
  have D_c2_w0 : ∀ k, Value.ownBlock (.slice ao_c2 xs1.length cap_c2) = some k → ¬ (Value.ownBlock (.slice ao_w0 LL.length cap_w0) = some k) := by intro k hk hy; have h1 := OwnF.lt O_c2 k hk; have h2 := OwnI.lt O_w0 k hy; omega
  replace O_c1 := OwnG.ext (by exact O_c1) E
  replace O_c2 := OwnF.ext (by exact O_c2) E
  replace O_w0 := OwnI.mono O_w0 T.size
  replace T := Ext.trans (by repeat (first | exact T | apply Ext.drewN)) E
  clear E
  clear O_c1
  clear O_c2
  have hbox0 : Cells _ (w.heap.size) #[.int .i64 a0, .slice pa0 ps0.length pc0, .slice ra0 rs0.length rc0] 55 := Cells.ext (Cells.new w _ _) T
  go_wp2_with (first | (refine wpList_load_row rfl _ _ rfl _ rfl _ _ _ _ hbox0 Try.underlying55 rfl infoLG ?_))
  clear hbox0
  go_at_call 46; refine (toGather_any _ _ _ _ _ _ _ _ (by exact hc0.ext T) (by exact hr0.ext T) hl0).mono ?_
  rintro _ W_x0 ⟨pv, rv, vs_x0, rfl, E, O_x0⟩
  obtain ⟨⟨ap_x0, cp_x0, rfl, _⟩, ⟨ar_x0, cr_x0, rfl, _⟩⟩ := OwnG.fr O_x0
  have D_w0_x0 : ∀ k, Value.ownBlock (.slice ao_w0 LL.length cap_w0) = some k → ¬ (gB (.slice ap_x0 ps0.length cp_x0) (.slice ar_x0 rs0.length cr_x0) vs_x0 k) := by intro k hk hy; have h1 := OwnI.lt O_w0 k hk; have h2 := OwnG.lt O_x0 k hy; omega
  replace O_w0 := OwnI.ext (by exact O_w0) E
  replace O_x0 := OwnG.mono O_x0 T.size
  replace T := Ext.trans (by repeat (first | exact T | apply Ext.drewN)) E
  clear E
  have E := (Ext.refl W_x0).alloc (.cells #[.int .i64 a0, .slice ap_x0 ps0.length cp_x0, .slice ar_x0 rs0.length cr_x0] 25)
  have O_bx0 := OwnC.new W_x0 #[.int .i64 a0, .slice ap_x0 ps0.length cp_x0, .slice ar_x0 rs0.length cr_x0] 25
  have D_w0_bx0 : ∀ k, Value.ownBlock (.slice ao_w0 LL.length cap_w0) = some k → ¬ (k = W_x0.heap.size) := by intro k hk hy; have h1 := OwnI.lt O_w0 k hk; have h2 := OwnC.lt O_bx0 k hy; omega
  have D_x0_bx0 : ∀ k, gB (.slice ap_x0 ps0.length cp_x0) (.slice ar_x0 rs0.length cr_x0) vs_x0 k → ¬ (k = W_x0.heap.size) := by intro k hk hy; have h1 := OwnG.lt O_x0 k hk; have h2 := OwnC.lt O_bx0 k hy; omega
  replace O_w0 := OwnI.ext (by exact O_w0) E
  replace O_x0 := OwnG.ext (by exact O_x0) E
  replace O_bx0 := OwnC.mono O_bx0 T.size
  replace T := Ext.trans (by repeat (first | exact T | apply Ext.drewN)) E
  clear E
  have hbox0 : Cells _ (w.heap.size) #[.int .i64 a0, .slice pa0 ps0.length pc0, .slice ra0 rs0.length rc0] 55 := Cells.ext (Cells.new w _ _) T
  go_wp2_with (first | (refine wpList_load_row rfl _ _ rfl _ rfl _ _ _ _ hbox0 Try.underlying55 rfl infoLG ?_) | (refine wl_load_row rfl _ _ rfl _ rfl _ _ _ (OwnC.cells O_bx0) Try.underlying25 rfl infoG ?_))
  clear hbox0
  go_at_call 21; refine (toFloat32S_any _ _ _ _ (by exact hc1.ext T) hl1).mono ?_
  rintro _ W_x1 ⟨v, rfl, E, O_x1⟩
  obtain ⟨ao_x1, cap_x1, rfl, _⟩ := OwnF.fr O_x1
  have D_w0_x1 : ∀ k, Value.ownBlock (.slice ao_w0 LL.length cap_w0) = some k → ¬ (Value.ownBlock (.slice ao_x1 xs1.length cap_x1) = some k) := by intro k hk hy; have h1 := OwnI.lt O_w0 k hk; have h2 := OwnF.lt O_x1 k hy; omega
  have D_x0_x1 : ∀ k, gB (.slice ap_x0 ps0.length cp_x0) (.slice ar_x0 rs0.length cr_x0) vs_x0 k → ¬ (Value.ownBlock (.slice ao_x1 xs1.length cap_x1) = some k) := by intro k hk hy; have h1 := OwnG.lt O_x0 k hk; have h2 := OwnF.lt O_x1 k hy; omega
  have D_bx0_x1 : ∀ k, k = W_x0.heap.size → ¬ (Value.ownBlock (.slice ao_x1 xs1.length cap_x1) = some k) := by intro k hk hy; have h1 := OwnC.lt O_bx0 k hk; have h2 := OwnF.lt O_x1 k hy; omega
  replace O_w0 := OwnI.ext (by exact O_w0) E
  replace O_x0 := OwnG.ext (by exact O_x0) E
  replace O_bx0 := OwnC.ext (by exact O_bx0) E
  replace O_x1 := OwnF.mono O_x1 T.size
  replace T := Ext.trans (by repeat (first | exact T | apply Ext.drewN)) E
  clear E
  have hbox0 : Cells _ (w.heap.size) #[.int .i64 a0, .slice pa0 ps0.length pc0, .slice ra0 rs0.length rc0] 55 := Cells.ext (Cells.new w _ _) T
  go_wp2_with (first | (refine wpList_load_row rfl _ _ rfl _ rfl _ _ _ _ hbox0 Try.underlying55 rfl infoLG ?_) | (refine wl_load_row rfl _ _ rfl _ rfl _ _ _ (OwnC.cells O_bx0) Try.underlying25 rfl infoG ?_))
  clear hbox0
  refine (implShf_any _ _ _ _ _ _ _ _ _ _ _ _ (by exact OwnG.fp O_x0) (by exact OwnG.fs O_x0) hl0 (by exact OwnF.toFR O_x1) hl1 hi2.1 hi2.2).mono ?_
  rintro _ V4 ⟨v, rfl, E, O_g0⟩
  rw [← hLL.out] at O_g0
  obtain ⟨ao_g0, cap_g0, rfl, _⟩ := OwnV.fr O_g0
  have D_w0_g0 : ∀ k, Value.ownBlock (.slice ao_w0 LL.length cap_w0) = some k → ¬ (Value.ownBlock (.slice ao_g0 LL.length cap_g0) = some k) := by intro k hk hy; have h1 := OwnI.lt O_w0 k hk; have h2 := OwnI.lt O_g0 k hy; omega
  have D_x0_g0 : ∀ k, gB (.slice ap_x0 ps0.length cp_x0) (.slice ar_x0 rs0.length cr_x0) vs_x0 k → ¬ (Value.ownBlock (.slice ao_g0 LL.length cap_g0) = some k) := by intro k hk hy; have h1 := OwnG.lt O_x0 k hk; have h2 := OwnI.lt O_g0 k hy; omega
  have D_bx0_g0 : ∀ k, k = W_x0.heap.size → ¬ (Value.ownBlock (.slice ao_g0 LL.length cap_g0) = some k) := by intro k hk hy; have h1 := OwnC.lt O_bx0 k hk; have h2 := OwnI.lt O_g0 k hy; omega
  have D_x1_g0 : ∀ k, Value.ownBlock (.slice ao_x1 xs1.length cap_x1) = some k → ¬ (Value.ownBlock (.slice ao_g0 LL.length cap_g0) = some k) := by intro k hk hy; have h1 := OwnF.lt O_x1 k hk; have h2 := OwnI.lt O_g0 k hy; omega
  replace O_w0 := OwnI.ext (by exact O_w0) E
  replace O_x0 := OwnG.ext (by exact O_x0) E
  replace O_bx0 := OwnC.ext (by exact O_bx0) E
  replace O_x1 := OwnF.ext (by exact O_x1) E
  replace O_g0 := OwnI.mono O_g0 T.size
  replace T := Ext.trans (by repeat (first | exact T | apply Ext.drewN)) E
  clear E
  have hbox0 : Cells _ (w.heap.size) #[.int .i64 a0, .slice pa0 ps0.length pc0, .slice ra0 rs0.length rc0] 55 := Cells.ext (Cells.new w _ _) T
  go_wp2_with (first | (refine wpList_load_row rfl _ _ rfl _ rfl _ _ _ _ hbox0 Try.underlying55 rfl infoLG ?_) | (refine wl_load_row rfl _ _ rfl _ rfl _ _ _ (OwnC.cells O_bx0) Try.underlying25 rfl infoG ?_))
  clear hbox0
  go_at_call 50; refine (eqInt64S_yes _ _ _ _ _ _ (by exact OwnI.toFR O_g0) (by exact OwnI.toFR O_w0) hLl.out).mono ?_
  rintro _ w5 ⟨rfl, dn, hw⟩
  replace O_w0 := ownI_drew O_w0 (by exact hw)
  replace O_x0 := ownG_drew O_x0 (by exact hw)
  replace O_bx0 := ownC_drew O_bx0 (by exact hw)
  replace O_x1 := own_drew O_x1 (by exact hw)
  replace O_g0 := ownI_drew O_g0 (by exact hw)
  replace T : Ext (w.alloc (.cells #[.int .i64 a0, .slice pa0 ps0.length pc0, .slice ra0 rs0.length rc0] 55)) w5 := ext_drew (by repeat (first | exact T | apply Ext.drewN)) hw
  clear hw
  have hbox0 : Cells _ (w.heap.size) #[.int .i64 a0, .slice pa0 ps0.length pc0, .slice ra0 rs0.length rc0] 55 := Cells.ext (Cells.new w _ _) T
  have hx := OwnC.cells O_bx0
  have q0 := hbox0.at 0
  have q1 := hbox0.at 1
  have q2 := hbox0.at 2
  have q3 := hx.at 0
  have q4 := hx.at 1
  have q5 := hx.at 2
  simp only [List.getElem?_toArray, List.getElem?_cons_succ, List.getElem?_cons_zero] at q0 q1 q2 q3 q4 q5
  have S6 : ∀ w', Ext w5 w' → (Ext w5 w' ∧ w'.cell? ⟨w.heap.size, 0, none⟩ = some (.int .i64 a0) ∧ w'.cell? ⟨w.heap.size, 1, none⟩ = some (.slice pa0 ps0.length pc0) ∧ w'.cell? ⟨w.heap.size, 2, none⟩ = some (.slice ra0 rs0.length rc0) ∧ w'.cell? ⟨W_x0.heap.size, 0, none⟩ = some (.int .i64 a0) ∧ w'.cell? ⟨W_x0.heap.size, 1, none⟩ = some (.slice ap_x0 ps0.length cp_x0) ∧ w'.cell? ⟨W_x0.heap.size, 2, none⟩ = some (.slice ar_x0 rs0.length cr_x0)) := fun w' h => ⟨h, h.cell q0, h.cell q1, h.cell q2, h.cell q3, h.cell q4, h.cell q5⟩
  go_wp2_with (first | (refine wpList_load_row rfl _ _ rfl _ rfl _ _ _ _ hbox0 Try.underlying55 rfl infoLG ?_) | (refine wl_load_row rfl _ _ rfl _ rfl _ _ _ (OwnC.cells O_bx0) Try.underlying25 rfl infoG ?_))
  go_region_held3 (fun w' => Ext w5 w' ∧ w'.cell? ⟨w.heap.size, 0, none⟩ = some (.int .i64 a0) ∧ w'.cell? ⟨w.heap.size, 1, none⟩ = some (.slice pa0 ps0.length pc0) ∧ w'.cell? ⟨w.heap.size, 2, none⟩ = some (.slice ra0 rs0.length rc0) ∧ w'.cell? ⟨W_x0.heap.size, 0, none⟩ = some (.int .i64 a0) ∧ w'.cell? ⟨W_x0.heap.size, 1, none⟩ = some (.slice ap_x0 ps0.length cp_x0) ∧ w'.cell? ⟨W_x0.heap.size, 2, none⟩ = some (.slice ar_x0 rs0.length cr_x0))
    (first | (refine S6 _ ?_; repeat (first | assumption | exact Ext.refl _ | apply Ext.drewN | (refine Ext.trans (by assumption) ?_))))
    (first
      | (go_at_call 46; refine (toGather_any _ _ _ _ _ _ _ _ (hc0.ext (T.trans (by repeat (first | assumption | exact Ext.refl _ | apply Ext.drewN | (refine Ext.trans (by assumption) ?_))))) (hr0.ext (T.trans (by repeat (first | assumption | exact Ext.refl _ | apply Ext.drewN | (refine Ext.trans (by assumption) ?_))))) hl0).mono ?_; rintro _ W_c6 ⟨pv, rv, vs_c6, rfl, E, O_c6⟩; (have E' : Ext w5 W_c6 := Ext.trans (by repeat (first | assumption | exact Ext.refl _ | apply Ext.drewN | (refine Ext.trans (by assumption) ?_))) E); obtain ⟨⟨ap_c6, cp_c6, rfl, _⟩, ⟨ar_c6, cr_c6, rfl, _⟩⟩ := OwnG.fr O_c6)
      | (go_at_call 23; refine (eqGather_yes _ _ _ _ _ _ _ _ _ _ _ _ _ _ ((OwnG.fp O_x0).ext (by repeat (first | assumption | exact Ext.refl _ | apply Ext.drewN | (refine Ext.trans (by assumption) ?_)))) ((OwnG.fs O_x0).ext (by repeat (first | assumption | exact Ext.refl _ | apply Ext.drewN | (refine Ext.trans (by assumption) ?_)))) ((OwnG.fp O_c6).ext (by repeat (first | assumption | exact Ext.refl _ | apply Ext.drewN | (refine Ext.trans (by assumption) ?_)))) ((OwnG.fs O_c6).ext (by repeat (first | assumption | exact Ext.refl _ | apply Ext.drewN | (refine Ext.trans (by assumption) ?_)))) rfl rfl hl0).mono ?_; rintro _ V7 ⟨rfl, E2⟩; (have E2' : Ext w5 V7 := Ext.trans (by repeat (first | assumption | exact Ext.refl _ | apply Ext.drewN | (refine Ext.trans (by assumption) ?_))) E2)))
  replace O_w0 := OwnI.ext (by exact O_w0) E2'
  replace O_x0 := OwnG.ext (by exact O_x0) E2'
  replace O_bx0 := OwnC.ext (by exact O_bx0) E2'
  replace O_x1 := OwnF.ext (by exact O_x1) E2'
  replace O_g0 := OwnI.ext (by exact O_g0) E2'
  replace T := Ext.trans T E2'
  clear E2' E2 E' E S6 hx q0 q1 q2 q3 q4 q5 hbox0
  have hbox0 : Cells _ (w.heap.size) #[.int .i64 a0, .slice pa0 ps0.length pc0, .slice ra0 rs0.length rc0] 55 := Cells.ext (Cells.new w _ _) T
  go_wp2_with (first | (refine wpList_load_row rfl _ _ rfl _ rfl _ _ _ _ hbox0 Try.underlying55 rfl infoLG ?_) | (refine wl_load_row rfl _ _ rfl _ rfl _ _ _ (OwnC.cells O_bx0) Try.underlying25 rfl infoG ?_))
  clear hbox0
  go_at_call 21; refine (toFloat32S_any _ _ _ _ (by exact hc1.ext T) hl1).mono ?_
  rintro _ W_c8 ⟨v, rfl, E, O_c8⟩
  obtain ⟨ao_c8, cap_c8, rfl, _⟩ := OwnF.fr O_c8
  have D_w0_c8 : ∀ k, Value.ownBlock (.slice ao_w0 LL.length cap_w0) = some k → ¬ (Value.ownBlock (.slice ao_c8 xs1.length cap_c8) = some k) := by intro k hk hy; have h1 := OwnI.lt O_w0 k hk; have h2 := OwnF.lt O_c8 k hy; omega
  have D_x0_c8 : ∀ k, gB (.slice ap_x0 ps0.length cp_x0) (.slice ar_x0 rs0.length cr_x0) vs_x0 k → ¬ (Value.ownBlock (.slice ao_c8 xs1.length cap_c8) = some k) := by intro k hk hy; have h1 := OwnG.lt O_x0 k hk; have h2 := OwnF.lt O_c8 k hy; omega
  have D_bx0_c8 : ∀ k, k = W_x0.heap.size → ¬ (Value.ownBlock (.slice ao_c8 xs1.length cap_c8) = some k) := by intro k hk hy; have h1 := OwnC.lt O_bx0 k hk; have h2 := OwnF.lt O_c8 k hy; omega
  have D_x1_c8 : ∀ k, Value.ownBlock (.slice ao_x1 xs1.length cap_x1) = some k → ¬ (Value.ownBlock (.slice ao_c8 xs1.length cap_c8) = some k) := by intro k hk hy; have h1 := OwnF.lt O_x1 k hk; have h2 := OwnF.lt O_c8 k hy; omega
  have D_g0_c8 : ∀ k, Value.ownBlock (.slice ao_g0 LL.length cap_g0) = some k → ¬ (Value.ownBlock (.slice ao_c8 xs1.length cap_c8) = some k) := by intro k hk hy; have h1 := OwnI.lt O_g0 k hk; have h2 := OwnF.lt O_c8 k hy; omega
  replace O_w0 := OwnI.ext (by exact O_w0) E
  replace O_x0 := OwnG.ext (by exact O_x0) E
  replace O_bx0 := OwnC.ext (by exact O_bx0) E
  replace O_x1 := OwnF.ext (by exact O_x1) E
  replace O_g0 := OwnI.ext (by exact O_g0) E
  replace O_c8 := OwnF.mono O_c8 T.size
  replace T := Ext.trans (by repeat (first | exact T | apply Ext.drewN)) E
  clear E
  have hbox0 : Cells _ (w.heap.size) #[.int .i64 a0, .slice pa0 ps0.length pc0, .slice ra0 rs0.length rc0] 55 := Cells.ext (Cells.new w _ _) T
  go_wp2_with (first | (refine wpList_load_row rfl _ _ rfl _ rfl _ _ _ _ hbox0 Try.underlying55 rfl infoLG ?_) | (refine wl_load_row rfl _ _ rfl _ rfl _ _ _ (OwnC.cells O_bx0) Try.underlying25 rfl infoG ?_))
  clear hbox0
  go_at_call 24; refine (eqFloat32S_yes _ _ _ _ _ _ _ (by exact OwnF.toFR O_x1) (by exact OwnF.toFR O_c8) rfl hl1).mono ?_
  rintro _ w9 ⟨rfl, dn, hw⟩
  replace O_w0 := ownI_drew O_w0 (by exact hw)
  replace O_x0 := ownG_drew O_x0 (by exact hw)
  replace O_bx0 := ownC_drew O_bx0 (by exact hw)
  replace O_x1 := own_drew O_x1 (by exact hw)
  replace O_g0 := ownI_drew O_g0 (by exact hw)
  replace O_c8 := own_drew O_c8 (by exact hw)
  replace T : Ext (w.alloc (.cells #[.int .i64 a0, .slice pa0 ps0.length pc0, .slice ra0 rs0.length rc0] 55)) w9 := ext_drew (by repeat (first | exact T | apply Ext.drewN)) hw
  clear hw
  clear O_c8
  have hbox0 : Cells _ (w.heap.size) #[.int .i64 a0, .slice pa0 ps0.length pc0, .slice ra0 rs0.length rc0] 55 := Cells.ext (Cells.new w _ _) T
  go_wp2_with (first | (refine wpList_load_row rfl _ _ rfl _ rfl _ _ _ _ hbox0 Try.underlying55 rfl infoLG ?_) | (refine wl_load_row rfl _ _ rfl _ rfl _ _ _ (OwnC.cells O_bx0) Try.underlying25 rfl infoG ?_))
  clear hbox0
  go_at_call 26; refine (markGather_any _ _ _ _ _ _ _ _ _ (by exact O_x0) hl0 (by omega) (by omega)).mono ?_
  rintro _ _ ⟨rfl, hg, O⟩
  have hch := hg
  clear hg
  replace O_w0 := OwnI.chg (by exact O_w0) hch D_w0_x0
  replace O_bx0 := OwnC.chg (by exact O_bx0) hch (fun k hk hz => D_x0_bx0 k hz hk)
  replace O_x1 := OwnF.chg (by exact O_x1) hch (fun k hk hz => D_x0_x1 k hz hk)
  replace O_g0 := OwnI.chg (by exact O_g0) hch (fun k hk hz => D_x0_g0 k hz hk)
  replace T := Chg.ext (by repeat (first | exact T | apply Ext.drewN)) hch (fun k hk => (OwnG.lt O_x0 k hk).1)
  clear hch
  clear O_x0
  have O_x0 := O
  clear O
  have hbox0 : Cells _ (w.heap.size) #[.int .i64 a0, .slice pa0 ps0.length pc0, .slice ra0 rs0.length rc0] 55 := Cells.ext (Cells.new w _ _) T
  go_wp2_with (first | (refine wpList_load_row rfl _ _ rfl _ rfl _ _ _ _ hbox0 Try.underlying55 rfl infoLG ?_) | (refine wl_load_row rfl _ _ rfl _ rfl _ _ _ (OwnC.cells O_bx0) Try.underlying25 rfl infoG ?_))
  clear hbox0
  go_at_call 25; refine (markFloat32S_any _ _ _ _ _ (by exact O_x1) hl1 (by omega) (by omega)).mono ?_
  rintro _ _ ⟨rfl, hg, O⟩
  have hch := Chg.of_grown (bs := fun k => Value.ownBlock (.slice ao_x1 xs1.length cap_x1) = some k) hg (fun k e => e)
  clear hg
  replace O_w0 := OwnI.chg (by exact O_w0) hch D_w0_x1
  replace O_x0 := OwnG.chg (by exact O_x0) hch D_x0_x1
  replace O_bx0 := OwnC.chg (by exact O_bx0) hch D_bx0_x1
  replace O_g0 := OwnI.chg (by exact O_g0) hch (fun k hk hz => D_x1_g0 k hz hk)
  replace T := Chg.ext (by repeat (first | exact T | apply Ext.drewN)) hch (fun k hk => (OwnF.lt O_x1 k hk).1)
  clear hch
  clear O_x1
  have O_x1 := O
  clear O
  have hbox0 : Cells _ (w.heap.size) #[.int .i64 a0, .slice pa0 ps0.length pc0, .slice ra0 rs0.length rc0] 55 := Cells.ext (Cells.new w _ _) T
  go_wp2_with (first | (refine wpList_load_row rfl _ _ rfl _ rfl _ _ _ _ hbox0 Try.underlying55 rfl infoLG ?_) | (refine wl_load_row rfl _ _ rfl _ rfl _ _ _ (OwnC.cells O_bx0) Try.underlying25 rfl infoG ?_))
  clear hbox0
  go_at_call 50; refine (eqInt64S_yes _ _ _ _ _ _ (by exact OwnI.toFR O_g0) (by exact OwnI.toFR O_w0) hLl.out).mono ?_
  rintro _ w10 ⟨rfl, dn, hw⟩
  replace O_w0 := ownI_drew O_w0 (by exact hw)
  replace O_x0 := ownG_drew O_x0 (by exact hw)
  replace O_bx0 := ownC_drew O_bx0 (by exact hw)
  replace O_x1 := own_drew O_x1 (by exact hw)
  replace O_g0 := ownI_drew O_g0 (by exact hw)
  replace T : Ext (w.alloc (.cells #[.int .i64 a0, .slice pa0 ps0.length pc0, .slice ra0 rs0.length rc0] 55)) w10 := ext_drew (by repeat (first | exact T | apply Ext.drewN)) hw
  clear hw
  have hbox0 : Cells _ (w.heap.size) #[.int .i64 a0, .slice pa0 ps0.length pc0, .slice ra0 rs0.length rc0] 55 := Cells.ext (Cells.new w _ _) T
  go_wp2_with (first | (refine wpList_load_row rfl _ _ rfl _ rfl _ _ _ _ hbox0 Try.underlying55 rfl infoLG ?_) | (refine wl_load_row rfl _ _ rfl _ rfl _ _ _ (OwnC.cells O_bx0) Try.underlying25 rfl infoG ?_))
  clear hbox0
  go_at_call 51; refine (markInt64S_any _ _ _ _ _ (by exact O_g0) hLl.out (by omega) (by omega)).mono ?_
  rintro _ _ ⟨rfl, hg, O⟩
  have hch := Chg.of_grown (bs := fun k => Value.ownBlock (.slice ao_g0 LL.length cap_g0) = some k) hg (fun k e => e)
  clear hg
  replace O_w0 := OwnI.chg (by exact O_w0) hch D_w0_g0
  replace O_x0 := OwnG.chg (by exact O_x0) hch D_x0_g0
  replace O_bx0 := OwnC.chg (by exact O_bx0) hch D_bx0_g0
  replace O_x1 := OwnF.chg (by exact O_x1) hch D_x1_g0
  replace T := Chg.ext (by repeat (first | exact T | apply Ext.drewN)) hch (fun k hk => (OwnI.lt O_g0 k hk).1)
  clear hch
  clear O_g0
  have O_g0 := O
  clear O
  have hbox0 : Cells _ (w.heap.size) #[.int .i64 a0, .slice pa0 ps0.length pc0, .slice ra0 rs0.length rc0] 55 := Cells.ext (Cells.new w _ _) T
  go_wp2_with (first | (refine wpList_load_row rfl _ _ rfl _ rfl _ _ _ _ hbox0 Try.underlying55 rfl infoLG ?_) | (refine wl_load_row rfl _ _ rfl _ rfl _ _ _ (OwnC.cells O_bx0) Try.underlying25 rfl infoG ?_))
  clear hbox0
  go_at_call 52; refine (heldInt64S_any _ _ _ _ _ (by exact OwnI.toFR O_g0) hLl.out (by omega) (by omega)).mono ?_
  rintro _ _ ⟨rfl, rfl⟩
  have hbox0 : Cells _ (w.heap.size) #[.int .i64 a0, .slice pa0 ps0.length pc0, .slice ra0 rs0.length rc0] 55 := Cells.ext (Cells.new w _ _) T
  go_wp2_with (first | (refine wpList_load_row rfl _ _ rfl _ rfl _ _ _ _ hbox0 Try.underlying55 rfl infoLG ?_) | (refine wl_load_row rfl _ _ rfl _ rfl _ _ _ (OwnC.cells O_bx0) Try.underlying25 rfl infoG ?_))
  clear hbox0
  go_at_call 46; refine (toGather_any _ _ _ _ _ _ _ _ (by exact hc0.ext T) (by exact hr0.ext T) hl0).mono ?_
  rintro _ W_c11 ⟨pv, rv, vs_c11, rfl, E, O_c11⟩
  obtain ⟨⟨ap_c11, cp_c11, rfl, _⟩, ⟨ar_c11, cr_c11, rfl, _⟩⟩ := OwnG.fr O_c11
  have D_w0_c11 : ∀ k, Value.ownBlock (.slice ao_w0 LL.length cap_w0) = some k → ¬ (gB (.slice ap_c11 ps0.length cp_c11) (.slice ar_c11 rs0.length cr_c11) vs_c11 k) := by intro k hk hy; have h1 := OwnI.lt O_w0 k hk; have h2 := OwnG.lt O_c11 k hy; omega
  have D_x0_c11 : ∀ k, gB (.slice ap_x0 ps0.length cp_x0) (.slice ar_x0 rs0.length cr_x0) vs_x0 k → ¬ (gB (.slice ap_c11 ps0.length cp_c11) (.slice ar_c11 rs0.length cr_c11) vs_c11 k) := by intro k hk hy; have h1 := OwnG.lt O_x0 k hk; have h2 := OwnG.lt O_c11 k hy; omega
  have D_bx0_c11 : ∀ k, k = W_x0.heap.size → ¬ (gB (.slice ap_c11 ps0.length cp_c11) (.slice ar_c11 rs0.length cr_c11) vs_c11 k) := by intro k hk hy; have h1 := OwnC.lt O_bx0 k hk; have h2 := OwnG.lt O_c11 k hy; omega
  have D_x1_c11 : ∀ k, Value.ownBlock (.slice ao_x1 xs1.length cap_x1) = some k → ¬ (gB (.slice ap_c11 ps0.length cp_c11) (.slice ar_c11 rs0.length cr_c11) vs_c11 k) := by intro k hk hy; have h1 := OwnF.lt O_x1 k hk; have h2 := OwnG.lt O_c11 k hy; omega
  have D_g0_c11 : ∀ k, Value.ownBlock (.slice ao_g0 LL.length cap_g0) = some k → ¬ (gB (.slice ap_c11 ps0.length cp_c11) (.slice ar_c11 rs0.length cr_c11) vs_c11 k) := by intro k hk hy; have h1 := OwnI.lt O_g0 k hk; have h2 := OwnG.lt O_c11 k hy; omega
  replace O_w0 := OwnI.ext (by exact O_w0) E
  replace O_x0 := OwnG.ext (by exact O_x0) E
  replace O_bx0 := OwnC.ext (by exact O_bx0) E
  replace O_x1 := OwnF.ext (by exact O_x1) E
  replace O_g0 := OwnI.ext (by exact O_g0) E
  replace O_c11 := OwnG.mono O_c11 T.size
  replace T := Ext.trans (by repeat (first | exact T | apply Ext.drewN)) E
  clear E
  have hbox0 : Cells _ (w.heap.size) #[.int .i64 a0, .slice pa0 ps0.length pc0, .slice ra0 rs0.length rc0] 55 := Cells.ext (Cells.new w _ _) T
  go_wp2_with (first | (refine wpList_load_row rfl _ _ rfl _ rfl _ _ _ _ hbox0 Try.underlying55 rfl infoLG ?_) | (refine wl_load_row rfl _ _ rfl _ rfl _ _ _ (OwnC.cells O_bx0) Try.underlying25 rfl infoG ?_))
  clear hbox0
  go_at_call 21; refine (toFloat32S_any _ _ _ _ (by exact hc1.ext T) hl1).mono ?_
  rintro _ W_c12 ⟨v, rfl, E, O_c12⟩
  obtain ⟨ao_c12, cap_c12, rfl, _⟩ := OwnF.fr O_c12
  have D_w0_c12 : ∀ k, Value.ownBlock (.slice ao_w0 LL.length cap_w0) = some k → ¬ (Value.ownBlock (.slice ao_c12 xs1.length cap_c12) = some k) := by intro k hk hy; have h1 := OwnI.lt O_w0 k hk; have h2 := OwnF.lt O_c12 k hy; omega
  have D_x0_c12 : ∀ k, gB (.slice ap_x0 ps0.length cp_x0) (.slice ar_x0 rs0.length cr_x0) vs_x0 k → ¬ (Value.ownBlock (.slice ao_c12 xs1.length cap_c12) = some k) := by intro k hk hy; have h1 := OwnG.lt O_x0 k hk; have h2 := OwnF.lt O_c12 k hy; omega
  have D_bx0_c12 : ∀ k, k = W_x0.heap.size → ¬ (Value.ownBlock (.slice ao_c12 xs1.length cap_c12) = some k) := by intro k hk hy; have h1 := OwnC.lt O_bx0 k hk; have h2 := OwnF.lt O_c12 k hy; omega
  have D_x1_c12 : ∀ k, Value.ownBlock (.slice ao_x1 xs1.length cap_x1) = some k → ¬ (Value.ownBlock (.slice ao_c12 xs1.length cap_c12) = some k) := by intro k hk hy; have h1 := OwnF.lt O_x1 k hk; have h2 := OwnF.lt O_c12 k hy; omega
  have D_g0_c12 : ∀ k, Value.ownBlock (.slice ao_g0 LL.length cap_g0) = some k → ¬ (Value.ownBlock (.slice ao_c12 xs1.length cap_c12) = some k) := by intro k hk hy; have h1 := OwnI.lt O_g0 k hk; have h2 := OwnF.lt O_c12 k hy; omega
  have D_c11_c12 : ∀ k, gB (.slice ap_c11 ps0.length cp_c11) (.slice ar_c11 rs0.length cr_c11) vs_c11 k → ¬ (Value.ownBlock (.slice ao_c12 xs1.length cap_c12) = some k) := by intro k hk hy; have h1 := OwnG.lt O_c11 k hk; have h2 := OwnF.lt O_c12 k hy; omega
  replace O_w0 := OwnI.ext (by exact O_w0) E
  replace O_x0 := OwnG.ext (by exact O_x0) E
  replace O_bx0 := OwnC.ext (by exact O_bx0) E
  replace O_x1 := OwnF.ext (by exact O_x1) E
  replace O_g0 := OwnI.ext (by exact O_g0) E
  replace O_c11 := OwnG.ext (by exact O_c11) E
  replace O_c12 := OwnF.mono O_c12 T.size
  replace T := Ext.trans (by repeat (first | exact T | apply Ext.drewN)) E
  clear E
  have hbox0 : Cells _ (w.heap.size) #[.int .i64 a0, .slice pa0 ps0.length pc0, .slice ra0 rs0.length rc0] 55 := Cells.ext (Cells.new w _ _) T
  go_wp2_with (first | (refine wpList_load_row rfl _ _ rfl _ rfl _ _ _ _ hbox0 Try.underlying55 rfl infoLG ?_) | (refine wl_load_row rfl _ _ rfl _ rfl _ _ _ (OwnC.cells O_bx0) Try.underlying25 rfl infoG ?_))
  clear hbox0
  refine (implShf_any _ _ _ _ _ _ _ _ _ _ _ _ (by exact OwnG.fp O_c11) (by exact OwnG.fs O_c11) hl0 (by exact OwnF.toFR O_c12) hl1 hi2.1 hi2.2).mono ?_
  rintro _ V13 ⟨v, rfl, E, O_h0⟩
  rw [← hLL.out] at O_h0
  obtain ⟨ao_h0, cap_h0, rfl, _⟩ := OwnV.fr O_h0
  have D_w0_h0 : ∀ k, Value.ownBlock (.slice ao_w0 LL.length cap_w0) = some k → ¬ (Value.ownBlock (.slice ao_h0 LL.length cap_h0) = some k) := by intro k hk hy; have h1 := OwnI.lt O_w0 k hk; have h2 := OwnI.lt O_h0 k hy; omega
  have D_x0_h0 : ∀ k, gB (.slice ap_x0 ps0.length cp_x0) (.slice ar_x0 rs0.length cr_x0) vs_x0 k → ¬ (Value.ownBlock (.slice ao_h0 LL.length cap_h0) = some k) := by intro k hk hy; have h1 := OwnG.lt O_x0 k hk; have h2 := OwnI.lt O_h0 k hy; omega
  have D_bx0_h0 : ∀ k, k = W_x0.heap.size → ¬ (Value.ownBlock (.slice ao_h0 LL.length cap_h0) = some k) := by intro k hk hy; have h1 := OwnC.lt O_bx0 k hk; have h2 := OwnI.lt O_h0 k hy; omega
  have D_x1_h0 : ∀ k, Value.ownBlock (.slice ao_x1 xs1.length cap_x1) = some k → ¬ (Value.ownBlock (.slice ao_h0 LL.length cap_h0) = some k) := by intro k hk hy; have h1 := OwnF.lt O_x1 k hk; have h2 := OwnI.lt O_h0 k hy; omega
  have D_g0_h0 : ∀ k, Value.ownBlock (.slice ao_g0 LL.length cap_g0) = some k → ¬ (Value.ownBlock (.slice ao_h0 LL.length cap_h0) = some k) := by intro k hk hy; have h1 := OwnI.lt O_g0 k hk; have h2 := OwnI.lt O_h0 k hy; omega
  have D_c11_h0 : ∀ k, gB (.slice ap_c11 ps0.length cp_c11) (.slice ar_c11 rs0.length cr_c11) vs_c11 k → ¬ (Value.ownBlock (.slice ao_h0 LL.length cap_h0) = some k) := by intro k hk hy; have h1 := OwnG.lt O_c11 k hk; have h2 := OwnI.lt O_h0 k hy; omega
  have D_c12_h0 : ∀ k, Value.ownBlock (.slice ao_c12 xs1.length cap_c12) = some k → ¬ (Value.ownBlock (.slice ao_h0 LL.length cap_h0) = some k) := by intro k hk hy; have h1 := OwnF.lt O_c12 k hk; have h2 := OwnI.lt O_h0 k hy; omega
  replace O_w0 := OwnI.ext (by exact O_w0) E
  replace O_x0 := OwnG.ext (by exact O_x0) E
  replace O_bx0 := OwnC.ext (by exact O_bx0) E
  replace O_x1 := OwnF.ext (by exact O_x1) E
  replace O_g0 := OwnI.ext (by exact O_g0) E
  replace O_c11 := OwnG.ext (by exact O_c11) E
  replace O_c12 := OwnF.ext (by exact O_c12) E
  replace O_h0 := OwnI.mono O_h0 T.size
  replace T := Ext.trans (by repeat (first | exact T | apply Ext.drewN)) E
  clear E
  clear O_c11
  clear O_c12
  have hbox0 : Cells _ (w.heap.size) #[.int .i64 a0, .slice pa0 ps0.length pc0, .slice ra0 rs0.length rc0] 55 := Cells.ext (Cells.new w _ _) T
  go_wp2_with (first | (refine wpList_load_row rfl _ _ rfl _ rfl _ _ _ _ hbox0 Try.underlying55 rfl infoLG ?_) | (refine wl_load_row rfl _ _ rfl _ rfl _ _ _ (OwnC.cells O_bx0) Try.underlying25 rfl infoG ?_))
  clear hbox0
  go_at_call 50; refine (eqInt64S_yes _ _ _ _ _ _ (by exact OwnI.toFR O_h0) (by exact OwnI.toFR O_w0) hLl.out).mono ?_
  rintro _ w14 ⟨rfl, dn, hw⟩
  replace O_w0 := ownI_drew O_w0 (by exact hw)
  replace O_x0 := ownG_drew O_x0 (by exact hw)
  replace O_bx0 := ownC_drew O_bx0 (by exact hw)
  replace O_x1 := own_drew O_x1 (by exact hw)
  replace O_g0 := ownI_drew O_g0 (by exact hw)
  replace O_h0 := ownI_drew O_h0 (by exact hw)
  replace T : Ext (w.alloc (.cells #[.int .i64 a0, .slice pa0 ps0.length pc0, .slice ra0 rs0.length rc0] 55)) w14 := ext_drew (by repeat (first | exact T | apply Ext.drewN)) hw
  clear hw
  have hbox0 : Cells _ (w.heap.size) #[.int .i64 a0, .slice pa0 ps0.length pc0, .slice ra0 rs0.length rc0] 55 := Cells.ext (Cells.new w _ _) T
  go_wp2_with (first | (refine wpList_load_row rfl _ _ rfl _ rfl _ _ _ _ hbox0 Try.underlying55 rfl infoLG ?_) | (refine wl_load_row rfl _ _ rfl _ rfl _ _ _ (OwnC.cells O_bx0) Try.underlying25 rfl infoG ?_))
  clear hbox0
  go_at_call 52; refine (heldInt64S_any _ _ _ _ _ (by exact OwnI.toFR O_g0) hLl.out (by omega) (by omega)).mono ?_
  rintro _ _ ⟨rfl, rfl⟩
  have hbox0 : Cells _ (w.heap.size) #[.int .i64 a0, .slice pa0 ps0.length pc0, .slice ra0 rs0.length rc0] 55 := Cells.ext (Cells.new w _ _) T
  go_wp2_with (first | (refine wpList_load_row rfl _ _ rfl _ rfl _ _ _ _ hbox0 Try.underlying55 rfl infoLG ?_) | (refine wl_load_row rfl _ _ rfl _ rfl _ _ _ (OwnC.cells O_bx0) Try.underlying25 rfl infoG ?_))
  clear hbox0
  go_ret
  exact ⟨rfl, Ext.trans EW T⟩

set_option maxRecDepth 100000 in
theorem lifted (os : Os) (started : os.Started) (H : Type) (enc : TypeId × Value → H) :
    ReturnsInHanded {} Try.checked os 10 .any (Rows.fnExactShiftsOfSpec.pre6 enc Try.prog Try.f10 Rows.fnExactShiftsOfRow.domain false) (Rows.fnExactShiftsOfSpec.post enc Try.prog Try.f10 false true false false) := by
  refine returnsInHanded_of_change (C := Try.checked) own started (by kernel_rfl) Try.func10
    (ChangeSpec.witness6 (enc := enc) (C := Try.checked) false ⟨#[], #[.agg #[.int .i64 0, .slice none 0 0, .slice none 0 0], .slice none 0 0, .int .i64 0], []⟩ 8 (by kernel_rfl) (by kernel_rfl) (by kernel_rfl) (by kernel_rfl)) ?_
  intro W base args ds gs before hval0 hW hcnd _
  have hval : ∀ (j : Nat) t v, Try.f10.params[j]? = some t → args[j]? = some v → Value.okWide Try.prog W .any base t v := hval0
  have hW' := hW
  obtain ⟨p, q, hA0, hV, rfl, hfz, hnd⟩ := hW
  have hA : DataW.TrodAll enc Try.prog W 0 (fun _ => true) true Try.f10.params.toList args.toList ds p := hA0
  rw [Try.params10] at hA hval
  obtain ⟨v0, vs0, d0, ds0, p0, q0, hargs, rfl, rfl, h0, r0⟩ := trodAll_cons hA
  obtain ⟨v1, vs1, d1, ds1, p1, q1, rfl, rfl, rfl, h1, r1⟩ := trodAll_cons r0
  obtain ⟨v2, vs2, d2, ds2, p2, q2, rfl, rfl, rfl, h2, r2⟩ := trodAll_cons r1
  obtain ⟨rfl, rfl, rfl⟩ := trodAll_nil r2
  obtain rfl : args = #[v0, v1, v2] := by cases args; simp_all
  obtain ⟨rfl, rfl⟩ := trodVars_none hV
  have k0 := h0
  have lt0 : ∀ x ∈ p0, x.block < W.heap.size := by obtain ⟨m, hm⟩ := k0; exact DataW.trod_lt m _ _ _ hm
  obtain ⟨a0, pa0, pc0, ps0, ra0, rc0, rs0, rfl, hi0, hc0, hr0, hb0⟩ := open_gather h0
  have k1 := h1
  have lt1 : ∀ x ∈ p1, x.block < W.heap.size := by obtain ⟨m, hm⟩ := k1; exact DataW.trod_lt m _ _ _ hm
  obtain ⟨ao1, cap1, xs1, rfl, hc1, _, _⟩ := open_floats Try.underlying22 Try.underlying34 cells32 (hval 1 22 v1 rfl rfl) h1
  obtain ⟨a2, rfl, rfl, rfl, wf2⟩ := open_int Try.underlying2 (hval 2 2 v2 rfl rfl) h2
  have hi2 : -9223372036854775808 ≤ a2 ∧ a2 ≤ 9223372036854775807 := by simpa [Lit.wf, IntKind.min, IntKind.max, IntKind.signed, IntKind.bits] using wf2
  clear hA0 hval0
  refine (walk a0 pa0 pc0 ps0 ra0 rc0 rs0 ao1 cap1 xs1 a2 W hi0 hc0 hr0 hb0 hc1 hi2).mono fun e W' ⟨he, bel⟩ => ?_
  subst he
  exact ⟨_, rfl, _, _, _, [], _, [], hW', trodAll_mk1 (shut_bool Try.underlying4 _), (trodAll_cons_mk (Below.trod laidOut (by kernel_rfl) (of_decide_eq_true (by kernel_rfl)) k0 bel lt0) (trodAll_cons_mk (Below.trod laidOut (by kernel_rfl) (of_decide_eq_true (by kernel_rfl)) k1 bel lt1) (trodAll_cons_mk (shut_int Try.underlying2 wf2) trodAll_mk0))), rfl, Below.frame (show Below W.heap.size W W' from bel) _, fun h => by cases h⟩
theorem closed : joinedFacts Try.prog 10 Try.f10 Rows.fnExactShiftsOfSpec Rows.fnExactShiftsOfRow = true := by
  unfold joinedFacts
  rw [Go.Proofs.Ytnjgcacnfobmiaa.mayEnter, Go.Proofs.Ytnjgcacnfobmiaa.liftsFinal, Go.Proofs.Ytnjgcacnfobmiaa.make]
  kernel_rfl
theorem proved : Rows.FnExactShiftsOfSaid :=
  OpenClaim.holds_of_wide 10 Try.f10 rfl rfl rfl rfl rfl rfl rfl ⟨rfl, rfl, rfl, rfl, rfl⟩ rfl rfl rfl rfl rfl (by kernel_rfl) Try.func10 closed
    (of_decide_eq_true (by kernel_rfl)) (by unfold Func.isWrapper; first | (rw [if_pos (by decide +kernel)]; kernel_rfl) | (rw [if_neg (by decide +kernel)]; exact ⟨rfl, rfl⟩))
    (fun os started H enc _ => lifted os started H enc)
end Go.Proofs.Ytnjgcacnfobmiaa.xShiftsOf
