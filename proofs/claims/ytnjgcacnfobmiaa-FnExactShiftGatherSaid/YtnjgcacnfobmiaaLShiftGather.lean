/- The statement FnExactShiftGather: for every input the law's function returns true, and each argument reads behind the call as it read before. No condition. -/
import Derived.Test.YtnjgcacnfobmiaaRows
import Derived.Test.YtnjgcacnfobmiaaWords
import Derived.Test.YtnjgcacnfobmiaaGat
import Derived.Test.YtnjgcacnfobmiaaOpen
import Derived.Test.YtnjgcacnfobmiaaLoadg
import Derived.Test.YtnjgcacnfobmiaaIntC
import Derived.Test.YtnjgcacnfobmiaaFShgS
import Derived.ProofKit
import Derived.OpenShut
import Derived.ChangeOld
import Derived.Deep.RegionHeld3
namespace Go.Proofs.Ytnjgcacnfobmiaa.xShiftGather
open Go.RowKit Go.ChangeShapes Go.WideShapes Go.ChangeAt
set_option maxRecDepth 100000
open Go.Proofs.Ytnjgcacnfobmiaa
set_option linter.unusedVariables false

set_option maxRecDepth 100000 in
set_option maxHeartbeats 4000000 in
theorem walk (a0 : Int) (pa0 : Option Addr) (pc0 : Nat) (ps0 : List Nat) (ra0 : Option Addr) (rc0 : Nat) (rs0 : List (List Nat)) (ao1 : Option Addr) (cap1 : Nat) (xs1 : List Int) (w : World) (hi0 : -9223372036854775808 ≤ a0 ∧ a0 ≤ 9223372036854775807) (hc0 : FR w pa0 ps0) (hr0 : RS w ra0 rs0) (hb0 : small ps0 rs0) (hc1 : FRI w ao1 xs1) : Calls Try.prog 11 #[.agg #[.int .i64 a0, .slice pa0 ps0.length pc0, .slice ra0 rs0.length rc0], .slice ao1 xs1.length cap1] w fun e w' => e = .returned (.bool true) ∧ Ext w w' := by
  have EW : Ext w (w.alloc (.cells #[.int .i64 a0, .slice pa0 ps0.length pc0, .slice ra0 rs0.length rc0] 55)) := ((Ext.refl w).alloc _)
  replace hc0 := hc0.ext EW
  replace hr0 := hr0.ext EW
  replace hc1 := hc1.ext EW
  by_cases hl1 : xs1.length ≤ 1048576
  case neg =>
    have hl' : 1048576 < xs1.length := by omega
    go_enter Try.func11, Try.ntmps11
    go_wp2_with fail
    all_goals go_ret
    all_goals exact ⟨rfl, EW⟩
  by_cases hl0 : ps0.length + (rs0.length + tot rs0) ≤ 1048576
  case neg =>
    have T : Ext (w.alloc (.cells #[.int .i64 a0, .slice pa0 ps0.length pc0, .slice ra0 rs0.length rc0] 55)) (w.alloc (.cells #[.int .i64 a0, .slice pa0 ps0.length pc0, .slice ra0 rs0.length rc0] 55)) := Ext.refl _
    go_enter Try.func11, Try.ntmps11
    have hbox0 : Cells _ (w.heap.size) #[.int .i64 a0, .slice pa0 ps0.length pc0, .slice ra0 rs0.length rc0] 55 := Cells.ext (Cells.new w _ _) T
    go_wp2_with (first | (refine wpList_load_row rfl _ _ rfl _ rfl _ _ _ _ hbox0 Try.underlying55 rfl infoLG ?_))
    clear hbox0
    go_at_call 44; have hq := szGather_no a0 pa0 pc0 ps0 ra0 rc0 rs0 (1048576) _ (hr0.ext T) hb0 (by omega) (by omega); refine hq.mono ?_; clear hq
    rintro _ _ ⟨rfl, E⟩
    replace T := Ext.trans T E
    clear E
    go_wp2_with fail
    go_ret
    exact ⟨rfl, Ext.trans EW T⟩
  have T : Ext (w.alloc (.cells #[.int .i64 a0, .slice pa0 ps0.length pc0, .slice ra0 rs0.length rc0] 55)) (w.alloc (.cells #[.int .i64 a0, .slice pa0 ps0.length pc0, .slice ra0 rs0.length rc0] 55)) := Ext.refl _
  have hsl : Hid ((((((shgO a0 (cl ps0) (cls rs0) xs1).map (·.2.1)).getD []).length + ((((shgO a0 (cl ps0) (cls rs0) xs1).map (·.2.2)).getD []).length + tot (((shgO a0 (cl ps0) (cls rs0) xs1).map (·.2.2)).getD [])) ≤ 1048576))) := shgO_len _ _ _ _
  go_enter Try.func11, Try.ntmps11
  have hz0 : (0 : Int) ≤ 1048576 - (ps0.length : Int) - ((rs0.length : Int) + (tot rs0 : Int)) := by omega
  have hbox0 : Cells _ (w.heap.size) #[.int .i64 a0, .slice pa0 ps0.length pc0, .slice ra0 rs0.length rc0] 55 := Cells.ext (Cells.new w _ _) T
  go_wp2_with (first | (refine wpList_load_row rfl _ _ rfl _ rfl _ _ _ _ hbox0 Try.underlying55 rfl infoLG ?_))
  clear hbox0
  go_at_call 44; have hq := szGather_ok a0 pa0 pc0 ps0 ra0 rc0 rs0 (1048576) _ (hr0.ext T) hb0 (by omega) (by omega); refine hq.mono ?_; clear hq
  rintro _ Vz0 ⟨rfl, E⟩
  replace T := Ext.trans T E
  clear E
  have hbox0 : Cells _ (w.heap.size) #[.int .i64 a0, .slice pa0 ps0.length pc0, .slice ra0 rs0.length rc0] 55 := Cells.ext (Cells.new w _ _) T
  go_wp2_with (first | (refine wpList_load_row rfl _ _ rfl _ rfl _ _ _ _ hbox0 Try.underlying55 rfl infoLG ?_))
  clear hbox0
  go_at_call 46; refine (toGather_any _ _ _ _ _ _ _ _ (by exact hc0.ext T) (by exact hr0.ext T) hl0).mono ?_
  rintro _ W_c1 ⟨pv, rv, vs_c1, rfl, E, O_c1⟩
  obtain ⟨⟨ap_c1, cp_c1, rfl, _⟩, ⟨ar_c1, cr_c1, rfl, _⟩⟩ := OwnG.fr O_c1
  replace O_c1 := OwnG.mono O_c1 T.size
  replace T := Ext.trans (by repeat (first | exact T | apply Ext.drewN)) E
  clear E
  have hbox0 : Cells _ (w.heap.size) #[.int .i64 a0, .slice pa0 ps0.length pc0, .slice ra0 rs0.length rc0] 55 := Cells.ext (Cells.new w _ _) T
  go_wp2_with (first | (refine wpList_load_row rfl _ _ rfl _ rfl _ _ _ _ hbox0 Try.underlying55 rfl infoLG ?_))
  clear hbox0
  go_at_call 54; refine (toInt64S_any _ _ _ _ (by exact hc1.ext T) hl1).mono ?_
  rintro _ W_c2 ⟨v, rfl, E, O_c2⟩
  obtain ⟨ao_c2, cap_c2, rfl, _⟩ := OwnV.fr O_c2
  have D_c1_c2 : ∀ k, gB (.slice ap_c1 ps0.length cp_c1) (.slice ar_c1 rs0.length cr_c1) vs_c1 k → ¬ (Value.ownBlock (.slice ao_c2 xs1.length cap_c2) = some k) := by intro k hk hy; have h1 := OwnG.lt O_c1 k hk; have h2 := OwnI.lt O_c2 k hy; omega
  replace O_c1 := OwnG.ext (by exact O_c1) E
  replace O_c2 := OwnI.mono O_c2 T.size
  replace T := Ext.trans (by repeat (first | exact T | apply Ext.drewN)) E
  clear E
  have hbox0 : Cells _ (w.heap.size) #[.int .i64 a0, .slice pa0 ps0.length pc0, .slice ra0 rs0.length rc0] 55 := Cells.ext (Cells.new w _ _) T
  go_wp2_with (first | (refine wpList_load_row rfl _ _ rfl _ rfl _ _ _ _ hbox0 Try.underlying55 rfl infoLG ?_))
  clear hbox0
  refine (specShg_any _ _ _ _ _ _ _ _ _ _ _ (by exact OwnG.fp O_c1) (by exact OwnG.fs O_c1) hl0 (by exact OwnI.toFR O_c2) hl1).mono ?_
  rintro _ W_w0 ⟨t_w0, pv, rv, vs_w0, ys_w0, qs_w0, rfl, E, O_w0, HT, HP, HR⟩
  obtain ⟨⟨ap_w0, cp_w0, rfl, _⟩, ⟨ar_w0, cr_w0, rfl, _⟩⟩ := OwnG.fr O_w0
  subst HT
  have HP_w0 := Lib.hid HP
  have HR_w0 := Lib.hid HR
  clear HP HR
  have D_c1_w0 : ∀ k, gB (.slice ap_c1 ps0.length cp_c1) (.slice ar_c1 rs0.length cr_c1) vs_c1 k → ¬ (gB (.slice ap_w0 ys_w0.length cp_w0) (.slice ar_w0 qs_w0.length cr_w0) vs_w0 k) := by intro k hk hy; have h1 := OwnG.lt O_c1 k hk; have h2 := OwnG.lt O_w0 k hy; omega
  have D_c2_w0 : ∀ k, Value.ownBlock (.slice ao_c2 xs1.length cap_c2) = some k → ¬ (gB (.slice ap_w0 ys_w0.length cp_w0) (.slice ar_w0 qs_w0.length cr_w0) vs_w0 k) := by intro k hk hy; have h1 := OwnI.lt O_c2 k hk; have h2 := OwnG.lt O_w0 k hy; omega
  replace O_c1 := OwnG.ext (by exact O_c1) E
  replace O_c2 := OwnI.ext (by exact O_c2) E
  replace O_w0 := OwnG.mono O_w0 T.size
  replace T := Ext.trans (by repeat (first | exact T | apply Ext.drewN)) E
  clear E
  have E := (Ext.refl W_w0).alloc (.cells #[.int .i64 (((shgO a0 (cl ps0) (cls rs0) xs1).map (·.1)).getD 0), .slice ap_w0 ys_w0.length cp_w0, .slice ar_w0 qs_w0.length cr_w0] 25)
  have O_bw0 := OwnC.new W_w0 #[.int .i64 (((shgO a0 (cl ps0) (cls rs0) xs1).map (·.1)).getD 0), .slice ap_w0 ys_w0.length cp_w0, .slice ar_w0 qs_w0.length cr_w0] 25
  have D_c1_bw0 : ∀ k, gB (.slice ap_c1 ps0.length cp_c1) (.slice ar_c1 rs0.length cr_c1) vs_c1 k → ¬ (k = W_w0.heap.size) := by intro k hk hy; have h1 := OwnG.lt O_c1 k hk; have h2 := OwnC.lt O_bw0 k hy; omega
  have D_c2_bw0 : ∀ k, Value.ownBlock (.slice ao_c2 xs1.length cap_c2) = some k → ¬ (k = W_w0.heap.size) := by intro k hk hy; have h1 := OwnI.lt O_c2 k hk; have h2 := OwnC.lt O_bw0 k hy; omega
  have D_w0_bw0 : ∀ k, gB (.slice ap_w0 ys_w0.length cp_w0) (.slice ar_w0 qs_w0.length cr_w0) vs_w0 k → ¬ (k = W_w0.heap.size) := by intro k hk hy; have h1 := OwnG.lt O_w0 k hk; have h2 := OwnC.lt O_bw0 k hy; omega
  replace O_c1 := OwnG.ext (by exact O_c1) E
  replace O_c2 := OwnI.ext (by exact O_c2) E
  replace O_w0 := OwnG.ext (by exact O_w0) E
  replace O_bw0 := OwnC.mono O_bw0 T.size
  replace T := Ext.trans (by repeat (first | exact T | apply Ext.drewN)) E
  clear E
  clear O_c1
  clear O_c2
  have hbox0 : Cells _ (w.heap.size) #[.int .i64 a0, .slice pa0 ps0.length pc0, .slice ra0 rs0.length rc0] 55 := Cells.ext (Cells.new w _ _) T
  go_wp2_with (first | (refine wpList_load_row rfl _ _ rfl _ rfl _ _ _ _ hbox0 Try.underlying55 rfl infoLG ?_) | (refine wl_load_row rfl _ _ rfl _ rfl _ _ _ (OwnC.cells O_bw0) Try.underlying25 rfl infoG ?_))
  clear hbox0
  go_at_call 46; refine (toGather_any _ _ _ _ _ _ _ _ (by exact hc0.ext T) (by exact hr0.ext T) hl0).mono ?_
  rintro _ W_x0 ⟨pv, rv, vs_x0, rfl, E, O_x0⟩
  obtain ⟨⟨ap_x0, cp_x0, rfl, _⟩, ⟨ar_x0, cr_x0, rfl, _⟩⟩ := OwnG.fr O_x0
  have D_w0_x0 : ∀ k, gB (.slice ap_w0 ys_w0.length cp_w0) (.slice ar_w0 qs_w0.length cr_w0) vs_w0 k → ¬ (gB (.slice ap_x0 ps0.length cp_x0) (.slice ar_x0 rs0.length cr_x0) vs_x0 k) := by intro k hk hy; have h1 := OwnG.lt O_w0 k hk; have h2 := OwnG.lt O_x0 k hy; omega
  have D_bw0_x0 : ∀ k, k = W_w0.heap.size → ¬ (gB (.slice ap_x0 ps0.length cp_x0) (.slice ar_x0 rs0.length cr_x0) vs_x0 k) := by intro k hk hy; have h1 := OwnC.lt O_bw0 k hk; have h2 := OwnG.lt O_x0 k hy; omega
  replace O_w0 := OwnG.ext (by exact O_w0) E
  replace O_bw0 := OwnC.ext (by exact O_bw0) E
  replace O_x0 := OwnG.mono O_x0 T.size
  replace T := Ext.trans (by repeat (first | exact T | apply Ext.drewN)) E
  clear E
  have E := (Ext.refl W_x0).alloc (.cells #[.int .i64 a0, .slice ap_x0 ps0.length cp_x0, .slice ar_x0 rs0.length cr_x0] 25)
  have O_bx0 := OwnC.new W_x0 #[.int .i64 a0, .slice ap_x0 ps0.length cp_x0, .slice ar_x0 rs0.length cr_x0] 25
  have D_w0_bx0 : ∀ k, gB (.slice ap_w0 ys_w0.length cp_w0) (.slice ar_w0 qs_w0.length cr_w0) vs_w0 k → ¬ (k = W_x0.heap.size) := by intro k hk hy; have h1 := OwnG.lt O_w0 k hk; have h2 := OwnC.lt O_bx0 k hy; omega
  have D_bw0_bx0 : ∀ k, k = W_w0.heap.size → ¬ (k = W_x0.heap.size) := by intro k hk hy; have h1 := OwnC.lt O_bw0 k hk; have h2 := OwnC.lt O_bx0 k hy; omega
  have D_x0_bx0 : ∀ k, gB (.slice ap_x0 ps0.length cp_x0) (.slice ar_x0 rs0.length cr_x0) vs_x0 k → ¬ (k = W_x0.heap.size) := by intro k hk hy; have h1 := OwnG.lt O_x0 k hk; have h2 := OwnC.lt O_bx0 k hy; omega
  replace O_w0 := OwnG.ext (by exact O_w0) E
  replace O_bw0 := OwnC.ext (by exact O_bw0) E
  replace O_x0 := OwnG.ext (by exact O_x0) E
  replace O_bx0 := OwnC.mono O_bx0 T.size
  replace T := Ext.trans (by repeat (first | exact T | apply Ext.drewN)) E
  clear E
  have hbox0 : Cells _ (w.heap.size) #[.int .i64 a0, .slice pa0 ps0.length pc0, .slice ra0 rs0.length rc0] 55 := Cells.ext (Cells.new w _ _) T
  go_wp2_with (first | (refine wpList_load_row rfl _ _ rfl _ rfl _ _ _ _ hbox0 Try.underlying55 rfl infoLG ?_) | (refine wl_load_row rfl _ _ rfl _ rfl _ _ _ (OwnC.cells O_bw0) Try.underlying25 rfl infoG ?_) | (refine wl_load_row rfl _ _ rfl _ rfl _ _ _ (OwnC.cells O_bx0) Try.underlying25 rfl infoG ?_))
  clear hbox0
  go_at_call 54; refine (toInt64S_any _ _ _ _ (by exact hc1.ext T) hl1).mono ?_
  rintro _ W_x1 ⟨v, rfl, E, O_x1⟩
  obtain ⟨ao_x1, cap_x1, rfl, _⟩ := OwnV.fr O_x1
  have D_w0_x1 : ∀ k, gB (.slice ap_w0 ys_w0.length cp_w0) (.slice ar_w0 qs_w0.length cr_w0) vs_w0 k → ¬ (Value.ownBlock (.slice ao_x1 xs1.length cap_x1) = some k) := by intro k hk hy; have h1 := OwnG.lt O_w0 k hk; have h2 := OwnI.lt O_x1 k hy; omega
  have D_bw0_x1 : ∀ k, k = W_w0.heap.size → ¬ (Value.ownBlock (.slice ao_x1 xs1.length cap_x1) = some k) := by intro k hk hy; have h1 := OwnC.lt O_bw0 k hk; have h2 := OwnI.lt O_x1 k hy; omega
  have D_x0_x1 : ∀ k, gB (.slice ap_x0 ps0.length cp_x0) (.slice ar_x0 rs0.length cr_x0) vs_x0 k → ¬ (Value.ownBlock (.slice ao_x1 xs1.length cap_x1) = some k) := by intro k hk hy; have h1 := OwnG.lt O_x0 k hk; have h2 := OwnI.lt O_x1 k hy; omega
  have D_bx0_x1 : ∀ k, k = W_x0.heap.size → ¬ (Value.ownBlock (.slice ao_x1 xs1.length cap_x1) = some k) := by intro k hk hy; have h1 := OwnC.lt O_bx0 k hk; have h2 := OwnI.lt O_x1 k hy; omega
  replace O_w0 := OwnG.ext (by exact O_w0) E
  replace O_bw0 := OwnC.ext (by exact O_bw0) E
  replace O_x0 := OwnG.ext (by exact O_x0) E
  replace O_bx0 := OwnC.ext (by exact O_bx0) E
  replace O_x1 := OwnI.mono O_x1 T.size
  replace T := Ext.trans (by repeat (first | exact T | apply Ext.drewN)) E
  clear E
  have hbox0 : Cells _ (w.heap.size) #[.int .i64 a0, .slice pa0 ps0.length pc0, .slice ra0 rs0.length rc0] 55 := Cells.ext (Cells.new w _ _) T
  go_wp2_with (first | (refine wpList_load_row rfl _ _ rfl _ rfl _ _ _ _ hbox0 Try.underlying55 rfl infoLG ?_) | (refine wl_load_row rfl _ _ rfl _ rfl _ _ _ (OwnC.cells O_bw0) Try.underlying25 rfl infoG ?_) | (refine wl_load_row rfl _ _ rfl _ rfl _ _ _ (OwnC.cells O_bx0) Try.underlying25 rfl infoG ?_))
  clear hbox0
  refine (implShg_any _ _ _ _ _ _ _ _ _ _ _ (by exact OwnG.fp O_x0) (by exact OwnG.fs O_x0) hl0 (by exact OwnI.toFR O_x1) hl1).mono ?_
  rintro _ W_g0 ⟨t_g0, pv, rv, vs_g0, ys_g0, qs_g0, rfl, E, O_g0, HT, HP, HR⟩
  obtain ⟨⟨ap_g0, cp_g0, rfl, _⟩, ⟨ar_g0, cr_g0, rfl, _⟩⟩ := OwnG.fr O_g0
  subst HT
  have HP_g0 := Lib.hid HP
  have HR_g0 := Lib.hid HR
  clear HP HR
  have D_w0_g0 : ∀ k, gB (.slice ap_w0 ys_w0.length cp_w0) (.slice ar_w0 qs_w0.length cr_w0) vs_w0 k → ¬ (gB (.slice ap_g0 ys_g0.length cp_g0) (.slice ar_g0 qs_g0.length cr_g0) vs_g0 k) := by intro k hk hy; have h1 := OwnG.lt O_w0 k hk; have h2 := OwnG.lt O_g0 k hy; omega
  have D_bw0_g0 : ∀ k, k = W_w0.heap.size → ¬ (gB (.slice ap_g0 ys_g0.length cp_g0) (.slice ar_g0 qs_g0.length cr_g0) vs_g0 k) := by intro k hk hy; have h1 := OwnC.lt O_bw0 k hk; have h2 := OwnG.lt O_g0 k hy; omega
  have D_x0_g0 : ∀ k, gB (.slice ap_x0 ps0.length cp_x0) (.slice ar_x0 rs0.length cr_x0) vs_x0 k → ¬ (gB (.slice ap_g0 ys_g0.length cp_g0) (.slice ar_g0 qs_g0.length cr_g0) vs_g0 k) := by intro k hk hy; have h1 := OwnG.lt O_x0 k hk; have h2 := OwnG.lt O_g0 k hy; omega
  have D_bx0_g0 : ∀ k, k = W_x0.heap.size → ¬ (gB (.slice ap_g0 ys_g0.length cp_g0) (.slice ar_g0 qs_g0.length cr_g0) vs_g0 k) := by intro k hk hy; have h1 := OwnC.lt O_bx0 k hk; have h2 := OwnG.lt O_g0 k hy; omega
  have D_x1_g0 : ∀ k, Value.ownBlock (.slice ao_x1 xs1.length cap_x1) = some k → ¬ (gB (.slice ap_g0 ys_g0.length cp_g0) (.slice ar_g0 qs_g0.length cr_g0) vs_g0 k) := by intro k hk hy; have h1 := OwnI.lt O_x1 k hk; have h2 := OwnG.lt O_g0 k hy; omega
  replace O_w0 := OwnG.ext (by exact O_w0) E
  replace O_bw0 := OwnC.ext (by exact O_bw0) E
  replace O_x0 := OwnG.ext (by exact O_x0) E
  replace O_bx0 := OwnC.ext (by exact O_bx0) E
  replace O_x1 := OwnI.ext (by exact O_x1) E
  replace O_g0 := OwnG.mono O_g0 T.size
  replace T := Ext.trans (by repeat (first | exact T | apply Ext.drewN)) E
  clear E
  have E := (Ext.refl W_g0).alloc (.cells #[.int .i64 (((shgO a0 (cl ps0) (cls rs0) xs1).map (·.1)).getD 0), .slice ap_g0 ys_g0.length cp_g0, .slice ar_g0 qs_g0.length cr_g0] 25)
  have O_bg0 := OwnC.new W_g0 #[.int .i64 (((shgO a0 (cl ps0) (cls rs0) xs1).map (·.1)).getD 0), .slice ap_g0 ys_g0.length cp_g0, .slice ar_g0 qs_g0.length cr_g0] 25
  have D_w0_bg0 : ∀ k, gB (.slice ap_w0 ys_w0.length cp_w0) (.slice ar_w0 qs_w0.length cr_w0) vs_w0 k → ¬ (k = W_g0.heap.size) := by intro k hk hy; have h1 := OwnG.lt O_w0 k hk; have h2 := OwnC.lt O_bg0 k hy; omega
  have D_bw0_bg0 : ∀ k, k = W_w0.heap.size → ¬ (k = W_g0.heap.size) := by intro k hk hy; have h1 := OwnC.lt O_bw0 k hk; have h2 := OwnC.lt O_bg0 k hy; omega
  have D_x0_bg0 : ∀ k, gB (.slice ap_x0 ps0.length cp_x0) (.slice ar_x0 rs0.length cr_x0) vs_x0 k → ¬ (k = W_g0.heap.size) := by intro k hk hy; have h1 := OwnG.lt O_x0 k hk; have h2 := OwnC.lt O_bg0 k hy; omega
  have D_bx0_bg0 : ∀ k, k = W_x0.heap.size → ¬ (k = W_g0.heap.size) := by intro k hk hy; have h1 := OwnC.lt O_bx0 k hk; have h2 := OwnC.lt O_bg0 k hy; omega
  have D_x1_bg0 : ∀ k, Value.ownBlock (.slice ao_x1 xs1.length cap_x1) = some k → ¬ (k = W_g0.heap.size) := by intro k hk hy; have h1 := OwnI.lt O_x1 k hk; have h2 := OwnC.lt O_bg0 k hy; omega
  have D_g0_bg0 : ∀ k, gB (.slice ap_g0 ys_g0.length cp_g0) (.slice ar_g0 qs_g0.length cr_g0) vs_g0 k → ¬ (k = W_g0.heap.size) := by intro k hk hy; have h1 := OwnG.lt O_g0 k hk; have h2 := OwnC.lt O_bg0 k hy; omega
  replace O_w0 := OwnG.ext (by exact O_w0) E
  replace O_bw0 := OwnC.ext (by exact O_bw0) E
  replace O_x0 := OwnG.ext (by exact O_x0) E
  replace O_bx0 := OwnC.ext (by exact O_bx0) E
  replace O_x1 := OwnI.ext (by exact O_x1) E
  replace O_g0 := OwnG.ext (by exact O_g0) E
  replace O_bg0 := OwnC.mono O_bg0 T.size
  replace T := Ext.trans (by repeat (first | exact T | apply Ext.drewN)) E
  clear E
  have hbox0 : Cells _ (w.heap.size) #[.int .i64 a0, .slice pa0 ps0.length pc0, .slice ra0 rs0.length rc0] 55 := Cells.ext (Cells.new w _ _) T
  go_wp2_with (first | (refine wpList_load_row rfl _ _ rfl _ rfl _ _ _ _ hbox0 Try.underlying55 rfl infoLG ?_) | (refine wl_load_row rfl _ _ rfl _ rfl _ _ _ (OwnC.cells O_bw0) Try.underlying25 rfl infoG ?_) | (refine wl_load_row rfl _ _ rfl _ rfl _ _ _ (OwnC.cells O_bx0) Try.underlying25 rfl infoG ?_) | (refine wl_load_row rfl _ _ rfl _ rfl _ _ _ (OwnC.cells O_bg0) Try.underlying25 rfl infoG ?_))
  clear hbox0
  go_at_call 23; refine (eqGather_yes _ _ _ _ _ _ _ _ _ _ _ _ _ _ (by exact OwnG.fp O_g0) (by exact OwnG.fs O_g0) (by exact OwnG.fp O_w0) (by exact OwnG.fs O_w0) (HP_g0.out.trans HP_w0.out.symm) (HR_g0.out.trans HR_w0.out.symm) (small_of HP_g0.out HR_g0.out hsl.out)).mono ?_
  rintro _ V3 ⟨rfl, E⟩
  replace O_w0 := OwnG.ext (by exact O_w0) E
  replace O_bw0 := OwnC.ext (by exact O_bw0) E
  replace O_x0 := OwnG.ext (by exact O_x0) E
  replace O_bx0 := OwnC.ext (by exact O_bx0) E
  replace O_x1 := OwnI.ext (by exact O_x1) E
  replace O_g0 := OwnG.ext (by exact O_g0) E
  replace O_bg0 := OwnC.ext (by exact O_bg0) E
  replace T := Ext.trans (by repeat (first | exact T | apply Ext.drewN)) E
  clear E
  have hbox0 : Cells _ (w.heap.size) #[.int .i64 a0, .slice pa0 ps0.length pc0, .slice ra0 rs0.length rc0] 55 := Cells.ext (Cells.new w _ _) T
  have hx := OwnC.cells O_bx0
  have q0 := hbox0.at 0
  have q1 := hbox0.at 1
  have q2 := hbox0.at 2
  have q3 := hx.at 0
  have q4 := hx.at 1
  have q5 := hx.at 2
  simp only [List.getElem?_toArray, List.getElem?_cons_succ, List.getElem?_cons_zero] at q0 q1 q2 q3 q4 q5
  have S6 : ∀ w', Ext V3 w' → (Ext V3 w' ∧ w'.cell? ⟨w.heap.size, 0, none⟩ = some (.int .i64 a0) ∧ w'.cell? ⟨w.heap.size, 1, none⟩ = some (.slice pa0 ps0.length pc0) ∧ w'.cell? ⟨w.heap.size, 2, none⟩ = some (.slice ra0 rs0.length rc0) ∧ w'.cell? ⟨W_x0.heap.size, 0, none⟩ = some (.int .i64 a0) ∧ w'.cell? ⟨W_x0.heap.size, 1, none⟩ = some (.slice ap_x0 ps0.length cp_x0) ∧ w'.cell? ⟨W_x0.heap.size, 2, none⟩ = some (.slice ar_x0 rs0.length cr_x0)) := fun w' h => ⟨h, h.cell q0, h.cell q1, h.cell q2, h.cell q3, h.cell q4, h.cell q5⟩
  go_wp2_with (first | (refine wpList_load_row rfl _ _ rfl _ rfl _ _ _ _ hbox0 Try.underlying55 rfl infoLG ?_) | (refine wl_load_row rfl _ _ rfl _ rfl _ _ _ (OwnC.cells O_bw0) Try.underlying25 rfl infoG ?_) | (refine wl_load_row rfl _ _ rfl _ rfl _ _ _ (OwnC.cells O_bx0) Try.underlying25 rfl infoG ?_) | (refine wl_load_row rfl _ _ rfl _ rfl _ _ _ (OwnC.cells O_bg0) Try.underlying25 rfl infoG ?_))
  go_region_held3 (fun w' => Ext V3 w' ∧ w'.cell? ⟨w.heap.size, 0, none⟩ = some (.int .i64 a0) ∧ w'.cell? ⟨w.heap.size, 1, none⟩ = some (.slice pa0 ps0.length pc0) ∧ w'.cell? ⟨w.heap.size, 2, none⟩ = some (.slice ra0 rs0.length rc0) ∧ w'.cell? ⟨W_x0.heap.size, 0, none⟩ = some (.int .i64 a0) ∧ w'.cell? ⟨W_x0.heap.size, 1, none⟩ = some (.slice ap_x0 ps0.length cp_x0) ∧ w'.cell? ⟨W_x0.heap.size, 2, none⟩ = some (.slice ar_x0 rs0.length cr_x0))
    (first | (refine S6 _ ?_; repeat (first | assumption | exact Ext.refl _ | apply Ext.drewN | (refine Ext.trans (by assumption) ?_))))
    (first
      | (go_at_call 46; refine (toGather_any _ _ _ _ _ _ _ _ (hc0.ext (T.trans (by repeat (first | assumption | exact Ext.refl _ | apply Ext.drewN | (refine Ext.trans (by assumption) ?_))))) (hr0.ext (T.trans (by repeat (first | assumption | exact Ext.refl _ | apply Ext.drewN | (refine Ext.trans (by assumption) ?_))))) hl0).mono ?_; rintro _ W_c4 ⟨pv, rv, vs_c4, rfl, E, O_c4⟩; (have E' : Ext V3 W_c4 := Ext.trans (by repeat (first | assumption | exact Ext.refl _ | apply Ext.drewN | (refine Ext.trans (by assumption) ?_))) E); obtain ⟨⟨ap_c4, cp_c4, rfl, _⟩, ⟨ar_c4, cr_c4, rfl, _⟩⟩ := OwnG.fr O_c4)
      | (go_at_call 23; refine (eqGather_yes _ _ _ _ _ _ _ _ _ _ _ _ _ _ ((OwnG.fp O_x0).ext (by repeat (first | assumption | exact Ext.refl _ | apply Ext.drewN | (refine Ext.trans (by assumption) ?_)))) ((OwnG.fs O_x0).ext (by repeat (first | assumption | exact Ext.refl _ | apply Ext.drewN | (refine Ext.trans (by assumption) ?_)))) ((OwnG.fp O_c4).ext (by repeat (first | assumption | exact Ext.refl _ | apply Ext.drewN | (refine Ext.trans (by assumption) ?_)))) ((OwnG.fs O_c4).ext (by repeat (first | assumption | exact Ext.refl _ | apply Ext.drewN | (refine Ext.trans (by assumption) ?_)))) rfl rfl hl0).mono ?_; rintro _ V5 ⟨rfl, E2⟩; (have E2' : Ext V3 V5 := Ext.trans (by repeat (first | assumption | exact Ext.refl _ | apply Ext.drewN | (refine Ext.trans (by assumption) ?_))) E2)))
  replace O_w0 := OwnG.ext (by exact O_w0) E2'
  replace O_bw0 := OwnC.ext (by exact O_bw0) E2'
  replace O_x0 := OwnG.ext (by exact O_x0) E2'
  replace O_bx0 := OwnC.ext (by exact O_bx0) E2'
  replace O_x1 := OwnI.ext (by exact O_x1) E2'
  replace O_g0 := OwnG.ext (by exact O_g0) E2'
  replace O_bg0 := OwnC.ext (by exact O_bg0) E2'
  replace T := Ext.trans T E2'
  clear E2' E2 E' E S6 hx q0 q1 q2 q3 q4 q5 hbox0
  have hbox0 : Cells _ (w.heap.size) #[.int .i64 a0, .slice pa0 ps0.length pc0, .slice ra0 rs0.length rc0] 55 := Cells.ext (Cells.new w _ _) T
  go_wp2_with (first | (refine wpList_load_row rfl _ _ rfl _ rfl _ _ _ _ hbox0 Try.underlying55 rfl infoLG ?_) | (refine wl_load_row rfl _ _ rfl _ rfl _ _ _ (OwnC.cells O_bw0) Try.underlying25 rfl infoG ?_) | (refine wl_load_row rfl _ _ rfl _ rfl _ _ _ (OwnC.cells O_bx0) Try.underlying25 rfl infoG ?_) | (refine wl_load_row rfl _ _ rfl _ rfl _ _ _ (OwnC.cells O_bg0) Try.underlying25 rfl infoG ?_))
  clear hbox0
  go_at_call 54; refine (toInt64S_any _ _ _ _ (by exact hc1.ext T) hl1).mono ?_
  rintro _ W_c6 ⟨v, rfl, E, O_c6⟩
  obtain ⟨ao_c6, cap_c6, rfl, _⟩ := OwnV.fr O_c6
  have D_w0_c6 : ∀ k, gB (.slice ap_w0 ys_w0.length cp_w0) (.slice ar_w0 qs_w0.length cr_w0) vs_w0 k → ¬ (Value.ownBlock (.slice ao_c6 xs1.length cap_c6) = some k) := by intro k hk hy; have h1 := OwnG.lt O_w0 k hk; have h2 := OwnI.lt O_c6 k hy; omega
  have D_bw0_c6 : ∀ k, k = W_w0.heap.size → ¬ (Value.ownBlock (.slice ao_c6 xs1.length cap_c6) = some k) := by intro k hk hy; have h1 := OwnC.lt O_bw0 k hk; have h2 := OwnI.lt O_c6 k hy; omega
  have D_x0_c6 : ∀ k, gB (.slice ap_x0 ps0.length cp_x0) (.slice ar_x0 rs0.length cr_x0) vs_x0 k → ¬ (Value.ownBlock (.slice ao_c6 xs1.length cap_c6) = some k) := by intro k hk hy; have h1 := OwnG.lt O_x0 k hk; have h2 := OwnI.lt O_c6 k hy; omega
  have D_bx0_c6 : ∀ k, k = W_x0.heap.size → ¬ (Value.ownBlock (.slice ao_c6 xs1.length cap_c6) = some k) := by intro k hk hy; have h1 := OwnC.lt O_bx0 k hk; have h2 := OwnI.lt O_c6 k hy; omega
  have D_x1_c6 : ∀ k, Value.ownBlock (.slice ao_x1 xs1.length cap_x1) = some k → ¬ (Value.ownBlock (.slice ao_c6 xs1.length cap_c6) = some k) := by intro k hk hy; have h1 := OwnI.lt O_x1 k hk; have h2 := OwnI.lt O_c6 k hy; omega
  have D_g0_c6 : ∀ k, gB (.slice ap_g0 ys_g0.length cp_g0) (.slice ar_g0 qs_g0.length cr_g0) vs_g0 k → ¬ (Value.ownBlock (.slice ao_c6 xs1.length cap_c6) = some k) := by intro k hk hy; have h1 := OwnG.lt O_g0 k hk; have h2 := OwnI.lt O_c6 k hy; omega
  have D_bg0_c6 : ∀ k, k = W_g0.heap.size → ¬ (Value.ownBlock (.slice ao_c6 xs1.length cap_c6) = some k) := by intro k hk hy; have h1 := OwnC.lt O_bg0 k hk; have h2 := OwnI.lt O_c6 k hy; omega
  replace O_w0 := OwnG.ext (by exact O_w0) E
  replace O_bw0 := OwnC.ext (by exact O_bw0) E
  replace O_x0 := OwnG.ext (by exact O_x0) E
  replace O_bx0 := OwnC.ext (by exact O_bx0) E
  replace O_x1 := OwnI.ext (by exact O_x1) E
  replace O_g0 := OwnG.ext (by exact O_g0) E
  replace O_bg0 := OwnC.ext (by exact O_bg0) E
  replace O_c6 := OwnI.mono O_c6 T.size
  replace T := Ext.trans (by repeat (first | exact T | apply Ext.drewN)) E
  clear E
  have hbox0 : Cells _ (w.heap.size) #[.int .i64 a0, .slice pa0 ps0.length pc0, .slice ra0 rs0.length rc0] 55 := Cells.ext (Cells.new w _ _) T
  go_wp2_with (first | (refine wpList_load_row rfl _ _ rfl _ rfl _ _ _ _ hbox0 Try.underlying55 rfl infoLG ?_) | (refine wl_load_row rfl _ _ rfl _ rfl _ _ _ (OwnC.cells O_bw0) Try.underlying25 rfl infoG ?_) | (refine wl_load_row rfl _ _ rfl _ rfl _ _ _ (OwnC.cells O_bx0) Try.underlying25 rfl infoG ?_) | (refine wl_load_row rfl _ _ rfl _ rfl _ _ _ (OwnC.cells O_bg0) Try.underlying25 rfl infoG ?_))
  clear hbox0
  go_at_call 50; refine (eqInt64S_yes _ _ _ _ _ _ (by exact OwnI.toFR O_x1) (by exact OwnI.toFR O_c6) hl1).mono ?_
  rintro _ w7 ⟨rfl, dn, hw⟩
  replace O_w0 := ownG_drew O_w0 (by exact hw)
  replace O_bw0 := ownC_drew O_bw0 (by exact hw)
  replace O_x0 := ownG_drew O_x0 (by exact hw)
  replace O_bx0 := ownC_drew O_bx0 (by exact hw)
  replace O_x1 := ownI_drew O_x1 (by exact hw)
  replace O_g0 := ownG_drew O_g0 (by exact hw)
  replace O_bg0 := ownC_drew O_bg0 (by exact hw)
  replace O_c6 := ownI_drew O_c6 (by exact hw)
  replace T : Ext (w.alloc (.cells #[.int .i64 a0, .slice pa0 ps0.length pc0, .slice ra0 rs0.length rc0] 55)) w7 := ext_drew (by repeat (first | exact T | apply Ext.drewN)) hw
  clear hw
  clear O_c6
  have hbox0 : Cells _ (w.heap.size) #[.int .i64 a0, .slice pa0 ps0.length pc0, .slice ra0 rs0.length rc0] 55 := Cells.ext (Cells.new w _ _) T
  go_wp2_with (first | (refine wpList_load_row rfl _ _ rfl _ rfl _ _ _ _ hbox0 Try.underlying55 rfl infoLG ?_) | (refine wl_load_row rfl _ _ rfl _ rfl _ _ _ (OwnC.cells O_bw0) Try.underlying25 rfl infoG ?_) | (refine wl_load_row rfl _ _ rfl _ rfl _ _ _ (OwnC.cells O_bx0) Try.underlying25 rfl infoG ?_) | (refine wl_load_row rfl _ _ rfl _ rfl _ _ _ (OwnC.cells O_bg0) Try.underlying25 rfl infoG ?_))
  clear hbox0
  go_at_call 26; refine (markGather_any _ _ _ _ _ _ _ _ _ (by exact O_x0) hl0 (by omega) (by omega)).mono ?_
  rintro _ V8 ⟨rfl, hg, O⟩
  have hch := hg
  clear hg
  replace O_w0 := OwnG.chg (by exact O_w0) hch D_w0_x0
  replace O_bw0 := OwnC.chg (by exact O_bw0) hch D_bw0_x0
  replace O_bx0 := OwnC.chg (by exact O_bx0) hch (fun k hk hz => D_x0_bx0 k hz hk)
  replace O_x1 := OwnI.chg (by exact O_x1) hch (fun k hk hz => D_x0_x1 k hz hk)
  replace O_g0 := OwnG.chg (by exact O_g0) hch (fun k hk hz => D_x0_g0 k hz hk)
  replace O_bg0 := OwnC.chg (by exact O_bg0) hch (fun k hk hz => D_x0_bg0 k hz hk)
  replace T := Chg.ext (by repeat (first | exact T | apply Ext.drewN)) hch (fun k hk => (OwnG.lt O_x0 k hk).1)
  clear hch
  clear O_x0
  have O_x0 := O
  clear O
  have hbox0 : Cells _ (w.heap.size) #[.int .i64 a0, .slice pa0 ps0.length pc0, .slice ra0 rs0.length rc0] 55 := Cells.ext (Cells.new w _ _) T
  go_wp2_with (first | (refine wpList_load_row rfl _ _ rfl _ rfl _ _ _ _ hbox0 Try.underlying55 rfl infoLG ?_) | (refine wl_load_row rfl _ _ rfl _ rfl _ _ _ (OwnC.cells O_bw0) Try.underlying25 rfl infoG ?_) | (refine wl_load_row rfl _ _ rfl _ rfl _ _ _ (OwnC.cells O_bx0) Try.underlying25 rfl infoG ?_) | (refine wl_load_row rfl _ _ rfl _ rfl _ _ _ (OwnC.cells O_bg0) Try.underlying25 rfl infoG ?_))
  clear hbox0
  go_at_call 51; refine (markInt64S_any _ _ _ _ _ (by exact O_x1) hl1 (by omega) (by omega)).mono ?_
  rintro _ V9 ⟨rfl, hg, O⟩
  have hch := Chg.of_grown (bs := fun k => Value.ownBlock (.slice ao_x1 xs1.length cap_x1) = some k) hg (fun k e => e)
  clear hg
  replace O_w0 := OwnG.chg (by exact O_w0) hch D_w0_x1
  replace O_bw0 := OwnC.chg (by exact O_bw0) hch D_bw0_x1
  replace O_x0 := OwnG.chg (by exact O_x0) hch D_x0_x1
  replace O_bx0 := OwnC.chg (by exact O_bx0) hch D_bx0_x1
  replace O_g0 := OwnG.chg (by exact O_g0) hch (fun k hk hz => D_x1_g0 k hz hk)
  replace O_bg0 := OwnC.chg (by exact O_bg0) hch (fun k hk hz => D_x1_bg0 k hz hk)
  replace T := Chg.ext (by repeat (first | exact T | apply Ext.drewN)) hch (fun k hk => (OwnI.lt O_x1 k hk).1)
  clear hch
  clear O_x1
  have O_x1 := O
  clear O
  have hbox0 : Cells _ (w.heap.size) #[.int .i64 a0, .slice pa0 ps0.length pc0, .slice ra0 rs0.length rc0] 55 := Cells.ext (Cells.new w _ _) T
  go_wp2_with (first | (refine wpList_load_row rfl _ _ rfl _ rfl _ _ _ _ hbox0 Try.underlying55 rfl infoLG ?_) | (refine wl_load_row rfl _ _ rfl _ rfl _ _ _ (OwnC.cells O_bw0) Try.underlying25 rfl infoG ?_) | (refine wl_load_row rfl _ _ rfl _ rfl _ _ _ (OwnC.cells O_bx0) Try.underlying25 rfl infoG ?_) | (refine wl_load_row rfl _ _ rfl _ rfl _ _ _ (OwnC.cells O_bg0) Try.underlying25 rfl infoG ?_))
  clear hbox0
  go_at_call 23; refine (eqGather_yes _ _ _ _ _ _ _ _ _ _ _ _ _ _ (by exact OwnG.fp O_g0) (by exact OwnG.fs O_g0) (by exact OwnG.fp O_w0) (by exact OwnG.fs O_w0) (HP_g0.out.trans HP_w0.out.symm) (HR_g0.out.trans HR_w0.out.symm) (small_of HP_g0.out HR_g0.out hsl.out)).mono ?_
  rintro _ V10 ⟨rfl, E⟩
  replace O_w0 := OwnG.ext (by exact O_w0) E
  replace O_bw0 := OwnC.ext (by exact O_bw0) E
  replace O_x0 := OwnG.ext (by exact O_x0) E
  replace O_bx0 := OwnC.ext (by exact O_bx0) E
  replace O_x1 := OwnI.ext (by exact O_x1) E
  replace O_g0 := OwnG.ext (by exact O_g0) E
  replace O_bg0 := OwnC.ext (by exact O_bg0) E
  replace T := Ext.trans (by repeat (first | exact T | apply Ext.drewN)) E
  clear E
  have hbox0 : Cells _ (w.heap.size) #[.int .i64 a0, .slice pa0 ps0.length pc0, .slice ra0 rs0.length rc0] 55 := Cells.ext (Cells.new w _ _) T
  go_wp2_with (first | (refine wpList_load_row rfl _ _ rfl _ rfl _ _ _ _ hbox0 Try.underlying55 rfl infoLG ?_) | (refine wl_load_row rfl _ _ rfl _ rfl _ _ _ (OwnC.cells O_bw0) Try.underlying25 rfl infoG ?_) | (refine wl_load_row rfl _ _ rfl _ rfl _ _ _ (OwnC.cells O_bx0) Try.underlying25 rfl infoG ?_) | (refine wl_load_row rfl _ _ rfl _ rfl _ _ _ (OwnC.cells O_bg0) Try.underlying25 rfl infoG ?_))
  clear hbox0
  go_at_call 26; refine (markGather_any _ _ _ _ _ _ _ _ _ (by exact O_g0) (small_of HP_g0.out HR_g0.out hsl.out) (by omega) (by omega)).mono ?_
  rintro _ V11 ⟨rfl, hg, O⟩
  have hch := hg
  clear hg
  replace O_w0 := OwnG.chg (by exact O_w0) hch D_w0_g0
  replace O_bw0 := OwnC.chg (by exact O_bw0) hch D_bw0_g0
  replace O_x0 := OwnG.chg (by exact O_x0) hch D_x0_g0
  replace O_bx0 := OwnC.chg (by exact O_bx0) hch D_bx0_g0
  replace O_x1 := OwnI.chg (by exact O_x1) hch D_x1_g0
  replace O_bg0 := OwnC.chg (by exact O_bg0) hch (fun k hk hz => D_g0_bg0 k hz hk)
  replace T := Chg.ext (by repeat (first | exact T | apply Ext.drewN)) hch (fun k hk => (OwnG.lt O_g0 k hk).1)
  clear hch
  clear O_g0
  have O_g0 := O
  clear O
  have hbox0 : Cells _ (w.heap.size) #[.int .i64 a0, .slice pa0 ps0.length pc0, .slice ra0 rs0.length rc0] 55 := Cells.ext (Cells.new w _ _) T
  go_wp2_with (first | (refine wpList_load_row rfl _ _ rfl _ rfl _ _ _ _ hbox0 Try.underlying55 rfl infoLG ?_) | (refine wl_load_row rfl _ _ rfl _ rfl _ _ _ (OwnC.cells O_bw0) Try.underlying25 rfl infoG ?_) | (refine wl_load_row rfl _ _ rfl _ rfl _ _ _ (OwnC.cells O_bx0) Try.underlying25 rfl infoG ?_) | (refine wl_load_row rfl _ _ rfl _ rfl _ _ _ (OwnC.cells O_bg0) Try.underlying25 rfl infoG ?_))
  clear hbox0
  go_at_call 27; refine (heldGather_any _ _ _ _ _ _ _ _ _ _ _ (by exact O_g0) (small_of HP_g0.out HR_g0.out hsl.out) (by omega) (by omega)).mono ?_
  rintro _ V12 ⟨rfl, E⟩
  replace O_w0 := OwnG.ext (by exact O_w0) E
  replace O_bw0 := OwnC.ext (by exact O_bw0) E
  replace O_x0 := OwnG.ext (by exact O_x0) E
  replace O_bx0 := OwnC.ext (by exact O_bx0) E
  replace O_x1 := OwnI.ext (by exact O_x1) E
  replace O_g0 := OwnG.ext (by exact O_g0) E
  replace O_bg0 := OwnC.ext (by exact O_bg0) E
  replace T := Ext.trans (by repeat (first | exact T | apply Ext.drewN)) E
  clear E
  have hbox0 : Cells _ (w.heap.size) #[.int .i64 a0, .slice pa0 ps0.length pc0, .slice ra0 rs0.length rc0] 55 := Cells.ext (Cells.new w _ _) T
  go_wp2_with (first | (refine wpList_load_row rfl _ _ rfl _ rfl _ _ _ _ hbox0 Try.underlying55 rfl infoLG ?_) | (refine wl_load_row rfl _ _ rfl _ rfl _ _ _ (OwnC.cells O_bw0) Try.underlying25 rfl infoG ?_) | (refine wl_load_row rfl _ _ rfl _ rfl _ _ _ (OwnC.cells O_bx0) Try.underlying25 rfl infoG ?_) | (refine wl_load_row rfl _ _ rfl _ rfl _ _ _ (OwnC.cells O_bg0) Try.underlying25 rfl infoG ?_))
  clear hbox0
  go_at_call 46; refine (toGather_any _ _ _ _ _ _ _ _ (by exact hc0.ext T) (by exact hr0.ext T) hl0).mono ?_
  rintro _ W_c13 ⟨pv, rv, vs_c13, rfl, E, O_c13⟩
  obtain ⟨⟨ap_c13, cp_c13, rfl, _⟩, ⟨ar_c13, cr_c13, rfl, _⟩⟩ := OwnG.fr O_c13
  have D_w0_c13 : ∀ k, gB (.slice ap_w0 ys_w0.length cp_w0) (.slice ar_w0 qs_w0.length cr_w0) vs_w0 k → ¬ (gB (.slice ap_c13 ps0.length cp_c13) (.slice ar_c13 rs0.length cr_c13) vs_c13 k) := by intro k hk hy; have h1 := OwnG.lt O_w0 k hk; have h2 := OwnG.lt O_c13 k hy; omega
  have D_bw0_c13 : ∀ k, k = W_w0.heap.size → ¬ (gB (.slice ap_c13 ps0.length cp_c13) (.slice ar_c13 rs0.length cr_c13) vs_c13 k) := by intro k hk hy; have h1 := OwnC.lt O_bw0 k hk; have h2 := OwnG.lt O_c13 k hy; omega
  have D_x0_c13 : ∀ k, gB (.slice ap_x0 ps0.length cp_x0) (.slice ar_x0 rs0.length cr_x0) vs_x0 k → ¬ (gB (.slice ap_c13 ps0.length cp_c13) (.slice ar_c13 rs0.length cr_c13) vs_c13 k) := by intro k hk hy; have h1 := OwnG.lt O_x0 k hk; have h2 := OwnG.lt O_c13 k hy; omega
  have D_bx0_c13 : ∀ k, k = W_x0.heap.size → ¬ (gB (.slice ap_c13 ps0.length cp_c13) (.slice ar_c13 rs0.length cr_c13) vs_c13 k) := by intro k hk hy; have h1 := OwnC.lt O_bx0 k hk; have h2 := OwnG.lt O_c13 k hy; omega
  have D_x1_c13 : ∀ k, Value.ownBlock (.slice ao_x1 xs1.length cap_x1) = some k → ¬ (gB (.slice ap_c13 ps0.length cp_c13) (.slice ar_c13 rs0.length cr_c13) vs_c13 k) := by intro k hk hy; have h1 := OwnI.lt O_x1 k hk; have h2 := OwnG.lt O_c13 k hy; omega
  have D_g0_c13 : ∀ k, gB (.slice ap_g0 ys_g0.length cp_g0) (.slice ar_g0 qs_g0.length cr_g0) vs_g0 k → ¬ (gB (.slice ap_c13 ps0.length cp_c13) (.slice ar_c13 rs0.length cr_c13) vs_c13 k) := by intro k hk hy; have h1 := OwnG.lt O_g0 k hk; have h2 := OwnG.lt O_c13 k hy; omega
  have D_bg0_c13 : ∀ k, k = W_g0.heap.size → ¬ (gB (.slice ap_c13 ps0.length cp_c13) (.slice ar_c13 rs0.length cr_c13) vs_c13 k) := by intro k hk hy; have h1 := OwnC.lt O_bg0 k hk; have h2 := OwnG.lt O_c13 k hy; omega
  replace O_w0 := OwnG.ext (by exact O_w0) E
  replace O_bw0 := OwnC.ext (by exact O_bw0) E
  replace O_x0 := OwnG.ext (by exact O_x0) E
  replace O_bx0 := OwnC.ext (by exact O_bx0) E
  replace O_x1 := OwnI.ext (by exact O_x1) E
  replace O_g0 := OwnG.ext (by exact O_g0) E
  replace O_bg0 := OwnC.ext (by exact O_bg0) E
  replace O_c13 := OwnG.mono O_c13 T.size
  replace T := Ext.trans (by repeat (first | exact T | apply Ext.drewN)) E
  clear E
  have hbox0 : Cells _ (w.heap.size) #[.int .i64 a0, .slice pa0 ps0.length pc0, .slice ra0 rs0.length rc0] 55 := Cells.ext (Cells.new w _ _) T
  go_wp2_with (first | (refine wpList_load_row rfl _ _ rfl _ rfl _ _ _ _ hbox0 Try.underlying55 rfl infoLG ?_) | (refine wl_load_row rfl _ _ rfl _ rfl _ _ _ (OwnC.cells O_bw0) Try.underlying25 rfl infoG ?_) | (refine wl_load_row rfl _ _ rfl _ rfl _ _ _ (OwnC.cells O_bx0) Try.underlying25 rfl infoG ?_) | (refine wl_load_row rfl _ _ rfl _ rfl _ _ _ (OwnC.cells O_bg0) Try.underlying25 rfl infoG ?_))
  clear hbox0
  go_at_call 54; refine (toInt64S_any _ _ _ _ (by exact hc1.ext T) hl1).mono ?_
  rintro _ W_c14 ⟨v, rfl, E, O_c14⟩
  obtain ⟨ao_c14, cap_c14, rfl, _⟩ := OwnV.fr O_c14
  have D_w0_c14 : ∀ k, gB (.slice ap_w0 ys_w0.length cp_w0) (.slice ar_w0 qs_w0.length cr_w0) vs_w0 k → ¬ (Value.ownBlock (.slice ao_c14 xs1.length cap_c14) = some k) := by intro k hk hy; have h1 := OwnG.lt O_w0 k hk; have h2 := OwnI.lt O_c14 k hy; omega
  have D_bw0_c14 : ∀ k, k = W_w0.heap.size → ¬ (Value.ownBlock (.slice ao_c14 xs1.length cap_c14) = some k) := by intro k hk hy; have h1 := OwnC.lt O_bw0 k hk; have h2 := OwnI.lt O_c14 k hy; omega
  have D_x0_c14 : ∀ k, gB (.slice ap_x0 ps0.length cp_x0) (.slice ar_x0 rs0.length cr_x0) vs_x0 k → ¬ (Value.ownBlock (.slice ao_c14 xs1.length cap_c14) = some k) := by intro k hk hy; have h1 := OwnG.lt O_x0 k hk; have h2 := OwnI.lt O_c14 k hy; omega
  have D_bx0_c14 : ∀ k, k = W_x0.heap.size → ¬ (Value.ownBlock (.slice ao_c14 xs1.length cap_c14) = some k) := by intro k hk hy; have h1 := OwnC.lt O_bx0 k hk; have h2 := OwnI.lt O_c14 k hy; omega
  have D_x1_c14 : ∀ k, Value.ownBlock (.slice ao_x1 xs1.length cap_x1) = some k → ¬ (Value.ownBlock (.slice ao_c14 xs1.length cap_c14) = some k) := by intro k hk hy; have h1 := OwnI.lt O_x1 k hk; have h2 := OwnI.lt O_c14 k hy; omega
  have D_g0_c14 : ∀ k, gB (.slice ap_g0 ys_g0.length cp_g0) (.slice ar_g0 qs_g0.length cr_g0) vs_g0 k → ¬ (Value.ownBlock (.slice ao_c14 xs1.length cap_c14) = some k) := by intro k hk hy; have h1 := OwnG.lt O_g0 k hk; have h2 := OwnI.lt O_c14 k hy; omega
  have D_bg0_c14 : ∀ k, k = W_g0.heap.size → ¬ (Value.ownBlock (.slice ao_c14 xs1.length cap_c14) = some k) := by intro k hk hy; have h1 := OwnC.lt O_bg0 k hk; have h2 := OwnI.lt O_c14 k hy; omega
  have D_c13_c14 : ∀ k, gB (.slice ap_c13 ps0.length cp_c13) (.slice ar_c13 rs0.length cr_c13) vs_c13 k → ¬ (Value.ownBlock (.slice ao_c14 xs1.length cap_c14) = some k) := by intro k hk hy; have h1 := OwnG.lt O_c13 k hk; have h2 := OwnI.lt O_c14 k hy; omega
  replace O_w0 := OwnG.ext (by exact O_w0) E
  replace O_bw0 := OwnC.ext (by exact O_bw0) E
  replace O_x0 := OwnG.ext (by exact O_x0) E
  replace O_bx0 := OwnC.ext (by exact O_bx0) E
  replace O_x1 := OwnI.ext (by exact O_x1) E
  replace O_g0 := OwnG.ext (by exact O_g0) E
  replace O_bg0 := OwnC.ext (by exact O_bg0) E
  replace O_c13 := OwnG.ext (by exact O_c13) E
  replace O_c14 := OwnI.mono O_c14 T.size
  replace T := Ext.trans (by repeat (first | exact T | apply Ext.drewN)) E
  clear E
  have hbox0 : Cells _ (w.heap.size) #[.int .i64 a0, .slice pa0 ps0.length pc0, .slice ra0 rs0.length rc0] 55 := Cells.ext (Cells.new w _ _) T
  go_wp2_with (first | (refine wpList_load_row rfl _ _ rfl _ rfl _ _ _ _ hbox0 Try.underlying55 rfl infoLG ?_) | (refine wl_load_row rfl _ _ rfl _ rfl _ _ _ (OwnC.cells O_bw0) Try.underlying25 rfl infoG ?_) | (refine wl_load_row rfl _ _ rfl _ rfl _ _ _ (OwnC.cells O_bx0) Try.underlying25 rfl infoG ?_) | (refine wl_load_row rfl _ _ rfl _ rfl _ _ _ (OwnC.cells O_bg0) Try.underlying25 rfl infoG ?_))
  clear hbox0
  refine (implShg_any _ _ _ _ _ _ _ _ _ _ _ (by exact OwnG.fp O_c13) (by exact OwnG.fs O_c13) hl0 (by exact OwnI.toFR O_c14) hl1).mono ?_
  rintro _ W_h0 ⟨t_h0, pv, rv, vs_h0, ys_h0, qs_h0, rfl, E, O_h0, HT, HP, HR⟩
  obtain ⟨⟨ap_h0, cp_h0, rfl, _⟩, ⟨ar_h0, cr_h0, rfl, _⟩⟩ := OwnG.fr O_h0
  subst HT
  have HP_h0 := Lib.hid HP
  have HR_h0 := Lib.hid HR
  clear HP HR
  have D_w0_h0 : ∀ k, gB (.slice ap_w0 ys_w0.length cp_w0) (.slice ar_w0 qs_w0.length cr_w0) vs_w0 k → ¬ (gB (.slice ap_h0 ys_h0.length cp_h0) (.slice ar_h0 qs_h0.length cr_h0) vs_h0 k) := by intro k hk hy; have h1 := OwnG.lt O_w0 k hk; have h2 := OwnG.lt O_h0 k hy; omega
  have D_bw0_h0 : ∀ k, k = W_w0.heap.size → ¬ (gB (.slice ap_h0 ys_h0.length cp_h0) (.slice ar_h0 qs_h0.length cr_h0) vs_h0 k) := by intro k hk hy; have h1 := OwnC.lt O_bw0 k hk; have h2 := OwnG.lt O_h0 k hy; omega
  have D_x0_h0 : ∀ k, gB (.slice ap_x0 ps0.length cp_x0) (.slice ar_x0 rs0.length cr_x0) vs_x0 k → ¬ (gB (.slice ap_h0 ys_h0.length cp_h0) (.slice ar_h0 qs_h0.length cr_h0) vs_h0 k) := by intro k hk hy; have h1 := OwnG.lt O_x0 k hk; have h2 := OwnG.lt O_h0 k hy; omega
  have D_bx0_h0 : ∀ k, k = W_x0.heap.size → ¬ (gB (.slice ap_h0 ys_h0.length cp_h0) (.slice ar_h0 qs_h0.length cr_h0) vs_h0 k) := by intro k hk hy; have h1 := OwnC.lt O_bx0 k hk; have h2 := OwnG.lt O_h0 k hy; omega
  have D_x1_h0 : ∀ k, Value.ownBlock (.slice ao_x1 xs1.length cap_x1) = some k → ¬ (gB (.slice ap_h0 ys_h0.length cp_h0) (.slice ar_h0 qs_h0.length cr_h0) vs_h0 k) := by intro k hk hy; have h1 := OwnI.lt O_x1 k hk; have h2 := OwnG.lt O_h0 k hy; omega
  have D_g0_h0 : ∀ k, gB (.slice ap_g0 ys_g0.length cp_g0) (.slice ar_g0 qs_g0.length cr_g0) vs_g0 k → ¬ (gB (.slice ap_h0 ys_h0.length cp_h0) (.slice ar_h0 qs_h0.length cr_h0) vs_h0 k) := by intro k hk hy; have h1 := OwnG.lt O_g0 k hk; have h2 := OwnG.lt O_h0 k hy; omega
  have D_bg0_h0 : ∀ k, k = W_g0.heap.size → ¬ (gB (.slice ap_h0 ys_h0.length cp_h0) (.slice ar_h0 qs_h0.length cr_h0) vs_h0 k) := by intro k hk hy; have h1 := OwnC.lt O_bg0 k hk; have h2 := OwnG.lt O_h0 k hy; omega
  have D_c13_h0 : ∀ k, gB (.slice ap_c13 ps0.length cp_c13) (.slice ar_c13 rs0.length cr_c13) vs_c13 k → ¬ (gB (.slice ap_h0 ys_h0.length cp_h0) (.slice ar_h0 qs_h0.length cr_h0) vs_h0 k) := by intro k hk hy; have h1 := OwnG.lt O_c13 k hk; have h2 := OwnG.lt O_h0 k hy; omega
  have D_c14_h0 : ∀ k, Value.ownBlock (.slice ao_c14 xs1.length cap_c14) = some k → ¬ (gB (.slice ap_h0 ys_h0.length cp_h0) (.slice ar_h0 qs_h0.length cr_h0) vs_h0 k) := by intro k hk hy; have h1 := OwnI.lt O_c14 k hk; have h2 := OwnG.lt O_h0 k hy; omega
  replace O_w0 := OwnG.ext (by exact O_w0) E
  replace O_bw0 := OwnC.ext (by exact O_bw0) E
  replace O_x0 := OwnG.ext (by exact O_x0) E
  replace O_bx0 := OwnC.ext (by exact O_bx0) E
  replace O_x1 := OwnI.ext (by exact O_x1) E
  replace O_g0 := OwnG.ext (by exact O_g0) E
  replace O_bg0 := OwnC.ext (by exact O_bg0) E
  replace O_c13 := OwnG.ext (by exact O_c13) E
  replace O_c14 := OwnI.ext (by exact O_c14) E
  replace O_h0 := OwnG.mono O_h0 T.size
  replace T := Ext.trans (by repeat (first | exact T | apply Ext.drewN)) E
  clear E
  have E := (Ext.refl W_h0).alloc (.cells #[.int .i64 (((shgO a0 (cl ps0) (cls rs0) xs1).map (·.1)).getD 0), .slice ap_h0 ys_h0.length cp_h0, .slice ar_h0 qs_h0.length cr_h0] 25)
  have O_bh0 := OwnC.new W_h0 #[.int .i64 (((shgO a0 (cl ps0) (cls rs0) xs1).map (·.1)).getD 0), .slice ap_h0 ys_h0.length cp_h0, .slice ar_h0 qs_h0.length cr_h0] 25
  have D_w0_bh0 : ∀ k, gB (.slice ap_w0 ys_w0.length cp_w0) (.slice ar_w0 qs_w0.length cr_w0) vs_w0 k → ¬ (k = W_h0.heap.size) := by intro k hk hy; have h1 := OwnG.lt O_w0 k hk; have h2 := OwnC.lt O_bh0 k hy; omega
  have D_bw0_bh0 : ∀ k, k = W_w0.heap.size → ¬ (k = W_h0.heap.size) := by intro k hk hy; have h1 := OwnC.lt O_bw0 k hk; have h2 := OwnC.lt O_bh0 k hy; omega
  have D_x0_bh0 : ∀ k, gB (.slice ap_x0 ps0.length cp_x0) (.slice ar_x0 rs0.length cr_x0) vs_x0 k → ¬ (k = W_h0.heap.size) := by intro k hk hy; have h1 := OwnG.lt O_x0 k hk; have h2 := OwnC.lt O_bh0 k hy; omega
  have D_bx0_bh0 : ∀ k, k = W_x0.heap.size → ¬ (k = W_h0.heap.size) := by intro k hk hy; have h1 := OwnC.lt O_bx0 k hk; have h2 := OwnC.lt O_bh0 k hy; omega
  have D_x1_bh0 : ∀ k, Value.ownBlock (.slice ao_x1 xs1.length cap_x1) = some k → ¬ (k = W_h0.heap.size) := by intro k hk hy; have h1 := OwnI.lt O_x1 k hk; have h2 := OwnC.lt O_bh0 k hy; omega
  have D_g0_bh0 : ∀ k, gB (.slice ap_g0 ys_g0.length cp_g0) (.slice ar_g0 qs_g0.length cr_g0) vs_g0 k → ¬ (k = W_h0.heap.size) := by intro k hk hy; have h1 := OwnG.lt O_g0 k hk; have h2 := OwnC.lt O_bh0 k hy; omega
  have D_bg0_bh0 : ∀ k, k = W_g0.heap.size → ¬ (k = W_h0.heap.size) := by intro k hk hy; have h1 := OwnC.lt O_bg0 k hk; have h2 := OwnC.lt O_bh0 k hy; omega
  have D_c13_bh0 : ∀ k, gB (.slice ap_c13 ps0.length cp_c13) (.slice ar_c13 rs0.length cr_c13) vs_c13 k → ¬ (k = W_h0.heap.size) := by intro k hk hy; have h1 := OwnG.lt O_c13 k hk; have h2 := OwnC.lt O_bh0 k hy; omega
  have D_c14_bh0 : ∀ k, Value.ownBlock (.slice ao_c14 xs1.length cap_c14) = some k → ¬ (k = W_h0.heap.size) := by intro k hk hy; have h1 := OwnI.lt O_c14 k hk; have h2 := OwnC.lt O_bh0 k hy; omega
  have D_h0_bh0 : ∀ k, gB (.slice ap_h0 ys_h0.length cp_h0) (.slice ar_h0 qs_h0.length cr_h0) vs_h0 k → ¬ (k = W_h0.heap.size) := by intro k hk hy; have h1 := OwnG.lt O_h0 k hk; have h2 := OwnC.lt O_bh0 k hy; omega
  replace O_w0 := OwnG.ext (by exact O_w0) E
  replace O_bw0 := OwnC.ext (by exact O_bw0) E
  replace O_x0 := OwnG.ext (by exact O_x0) E
  replace O_bx0 := OwnC.ext (by exact O_bx0) E
  replace O_x1 := OwnI.ext (by exact O_x1) E
  replace O_g0 := OwnG.ext (by exact O_g0) E
  replace O_bg0 := OwnC.ext (by exact O_bg0) E
  replace O_c13 := OwnG.ext (by exact O_c13) E
  replace O_c14 := OwnI.ext (by exact O_c14) E
  replace O_h0 := OwnG.ext (by exact O_h0) E
  replace O_bh0 := OwnC.mono O_bh0 T.size
  replace T := Ext.trans (by repeat (first | exact T | apply Ext.drewN)) E
  clear E
  clear O_c13
  clear O_c14
  have hbox0 : Cells _ (w.heap.size) #[.int .i64 a0, .slice pa0 ps0.length pc0, .slice ra0 rs0.length rc0] 55 := Cells.ext (Cells.new w _ _) T
  go_wp2_with (first | (refine wpList_load_row rfl _ _ rfl _ rfl _ _ _ _ hbox0 Try.underlying55 rfl infoLG ?_) | (refine wl_load_row rfl _ _ rfl _ rfl _ _ _ (OwnC.cells O_bw0) Try.underlying25 rfl infoG ?_) | (refine wl_load_row rfl _ _ rfl _ rfl _ _ _ (OwnC.cells O_bx0) Try.underlying25 rfl infoG ?_) | (refine wl_load_row rfl _ _ rfl _ rfl _ _ _ (OwnC.cells O_bg0) Try.underlying25 rfl infoG ?_) | (refine wl_load_row rfl _ _ rfl _ rfl _ _ _ (OwnC.cells O_bh0) Try.underlying25 rfl infoG ?_))
  clear hbox0
  go_at_call 23; refine (eqGather_yes _ _ _ _ _ _ _ _ _ _ _ _ _ _ (by exact OwnG.fp O_h0) (by exact OwnG.fs O_h0) (by exact OwnG.fp O_w0) (by exact OwnG.fs O_w0) (HP_h0.out.trans HP_w0.out.symm) (HR_h0.out.trans HR_w0.out.symm) (small_of HP_h0.out HR_h0.out hsl.out)).mono ?_
  rintro _ V15 ⟨rfl, E⟩
  replace O_w0 := OwnG.ext (by exact O_w0) E
  replace O_bw0 := OwnC.ext (by exact O_bw0) E
  replace O_x0 := OwnG.ext (by exact O_x0) E
  replace O_bx0 := OwnC.ext (by exact O_bx0) E
  replace O_x1 := OwnI.ext (by exact O_x1) E
  replace O_g0 := OwnG.ext (by exact O_g0) E
  replace O_bg0 := OwnC.ext (by exact O_bg0) E
  replace O_h0 := OwnG.ext (by exact O_h0) E
  replace O_bh0 := OwnC.ext (by exact O_bh0) E
  replace T := Ext.trans (by repeat (first | exact T | apply Ext.drewN)) E
  clear E
  have hbox0 : Cells _ (w.heap.size) #[.int .i64 a0, .slice pa0 ps0.length pc0, .slice ra0 rs0.length rc0] 55 := Cells.ext (Cells.new w _ _) T
  go_wp2_with (first | (refine wpList_load_row rfl _ _ rfl _ rfl _ _ _ _ hbox0 Try.underlying55 rfl infoLG ?_) | (refine wl_load_row rfl _ _ rfl _ rfl _ _ _ (OwnC.cells O_bw0) Try.underlying25 rfl infoG ?_) | (refine wl_load_row rfl _ _ rfl _ rfl _ _ _ (OwnC.cells O_bx0) Try.underlying25 rfl infoG ?_) | (refine wl_load_row rfl _ _ rfl _ rfl _ _ _ (OwnC.cells O_bg0) Try.underlying25 rfl infoG ?_) | (refine wl_load_row rfl _ _ rfl _ rfl _ _ _ (OwnC.cells O_bh0) Try.underlying25 rfl infoG ?_))
  clear hbox0
  go_at_call 27; refine (heldGather_any _ _ _ _ _ _ _ _ _ _ _ (by exact O_g0) (small_of HP_g0.out HR_g0.out hsl.out) (by omega) (by omega)).mono ?_
  rintro _ V16 ⟨rfl, E⟩
  replace O_w0 := OwnG.ext (by exact O_w0) E
  replace O_bw0 := OwnC.ext (by exact O_bw0) E
  replace O_x0 := OwnG.ext (by exact O_x0) E
  replace O_bx0 := OwnC.ext (by exact O_bx0) E
  replace O_x1 := OwnI.ext (by exact O_x1) E
  replace O_g0 := OwnG.ext (by exact O_g0) E
  replace O_bg0 := OwnC.ext (by exact O_bg0) E
  replace O_h0 := OwnG.ext (by exact O_h0) E
  replace O_bh0 := OwnC.ext (by exact O_bh0) E
  replace T := Ext.trans (by repeat (first | exact T | apply Ext.drewN)) E
  clear E
  have hbox0 : Cells _ (w.heap.size) #[.int .i64 a0, .slice pa0 ps0.length pc0, .slice ra0 rs0.length rc0] 55 := Cells.ext (Cells.new w _ _) T
  go_wp2_with (first | (refine wpList_load_row rfl _ _ rfl _ rfl _ _ _ _ hbox0 Try.underlying55 rfl infoLG ?_) | (refine wl_load_row rfl _ _ rfl _ rfl _ _ _ (OwnC.cells O_bw0) Try.underlying25 rfl infoG ?_) | (refine wl_load_row rfl _ _ rfl _ rfl _ _ _ (OwnC.cells O_bx0) Try.underlying25 rfl infoG ?_) | (refine wl_load_row rfl _ _ rfl _ rfl _ _ _ (OwnC.cells O_bg0) Try.underlying25 rfl infoG ?_) | (refine wl_load_row rfl _ _ rfl _ rfl _ _ _ (OwnC.cells O_bh0) Try.underlying25 rfl infoG ?_))
  clear hbox0
  go_ret
  exact ⟨rfl, Ext.trans EW T⟩

set_option maxRecDepth 100000 in
theorem lifted (os : Os) (started : os.Started) (H : Type) (enc : TypeId × Value → H) :
    ReturnsInHanded {} Try.checked os 11 .any (Rows.fnExactShiftGatherSpec.pre6 enc Try.prog Try.f11 Rows.fnExactShiftGatherRow.domain false) (Rows.fnExactShiftGatherSpec.post enc Try.prog Try.f11 false true false false) := by
  refine returnsInHanded_of_change (C := Try.checked) own started (by kernel_rfl) Try.func11
    (ChangeSpec.witness6 (enc := enc) (C := Try.checked) false ⟨#[], #[.agg #[.int .i64 0, .slice none 0 0, .slice none 0 0], .slice none 0 0], []⟩ 8 (by kernel_rfl) (by kernel_rfl) (by kernel_rfl) (by kernel_rfl)) ?_
  intro W base args ds gs before hval0 hW hcnd _
  have hval : ∀ (j : Nat) t v, Try.f11.params[j]? = some t → args[j]? = some v → Value.okWide Try.prog W .any base t v := hval0
  have hW' := hW
  obtain ⟨p, q, hA0, hV, rfl, hfz, hnd⟩ := hW
  have hA : DataW.TrodAll enc Try.prog W 0 (fun _ => true) true Try.f11.params.toList args.toList ds p := hA0
  rw [Try.params11] at hA hval
  obtain ⟨v0, vs0, d0, ds0, p0, q0, hargs, rfl, rfl, h0, r0⟩ := trodAll_cons hA
  obtain ⟨v1, vs1, d1, ds1, p1, q1, rfl, rfl, rfl, h1, r1⟩ := trodAll_cons r0
  obtain ⟨rfl, rfl, rfl⟩ := trodAll_nil r1
  obtain rfl : args = #[v0, v1] := by cases args; simp_all
  obtain ⟨rfl, rfl⟩ := trodVars_none hV
  have k0 := h0
  have lt0 : ∀ x ∈ p0, x.block < W.heap.size := by obtain ⟨m, hm⟩ := k0; exact DataW.trod_lt m _ _ _ hm
  obtain ⟨a0, pa0, pc0, ps0, ra0, rc0, rs0, rfl, hi0, hc0, hr0, hb0⟩ := open_gather h0
  have k1 := h1
  have lt1 : ∀ x ∈ p1, x.block < W.heap.size := by obtain ⟨m, hm⟩ := k1; exact DataW.trod_lt m _ _ _ hm
  obtain ⟨ao1, cap1, xs1, rfl, hc1⟩ := open_ints Try.underlying60 Try.underlying2 cellsI (hval 1 60 v1 rfl rfl) h1
  clear hA0 hval0
  refine (walk a0 pa0 pc0 ps0 ra0 rc0 rs0 ao1 cap1 xs1 W hi0 hc0 hr0 hb0 hc1).mono fun e W' ⟨he, bel⟩ => ?_
  subst he
  exact ⟨_, rfl, _, _, _, [], _, [], hW', trodAll_mk1 (shut_bool Try.underlying4 _), (trodAll_cons_mk (Below.trod laidOut (by kernel_rfl) (of_decide_eq_true (by kernel_rfl)) k0 bel lt0) (trodAll_cons_mk (Below.trod laidOut (by kernel_rfl) (of_decide_eq_true (by kernel_rfl)) k1 bel lt1) trodAll_mk0)), rfl, Below.frame (show Below W.heap.size W W' from bel) _, fun h => by cases h⟩
theorem closed : joinedFacts Try.prog 11 Try.f11 Rows.fnExactShiftGatherSpec Rows.fnExactShiftGatherRow = true := by
  unfold joinedFacts
  rw [Go.Proofs.Ytnjgcacnfobmiaa.mayEnter, Go.Proofs.Ytnjgcacnfobmiaa.liftsFinal, Go.Proofs.Ytnjgcacnfobmiaa.make]
  kernel_rfl
theorem proved : Rows.FnExactShiftGatherSaid :=
  OpenClaim.holds_of_wide 11 Try.f11 rfl rfl rfl rfl rfl rfl rfl ⟨rfl, rfl, rfl, rfl, rfl⟩ rfl rfl rfl rfl rfl (by kernel_rfl) Try.func11 closed
    (of_decide_eq_true (by kernel_rfl)) (by unfold Func.isWrapper; first | (rw [if_pos (by decide +kernel)]; kernel_rfl) | (rw [if_neg (by decide +kernel)]; exact ⟨rfl, rfl⟩))
    (fun os started H enc _ => lifted os started H enc)
end Go.Proofs.Ytnjgcacnfobmiaa.xShiftGather
