/- The statement FnExactSortGather: for every input the law's function returns true, and each argument reads behind the call as it read before. No condition. -/
import Derived.Test.YtnjgcacnfobmiaaRows
import Derived.Test.YtnjgcacnfobmiaaWords
import Derived.Test.YtnjgcacnfobmiaaGat
import Derived.Test.YtnjgcacnfobmiaaOpen
import Derived.Test.YtnjgcacnfobmiaaLoadg
import Derived.Test.YtnjgcacnfobmiaaFSrtJ
import Derived.ProofKit
import Derived.OpenShut
import Derived.ChangeOld
import Derived.Deep.RegionHeld3
namespace Go.Proofs.Ytnjgcacnfobmiaa.xSortGather
open Go.RowKit Go.ChangeShapes Go.WideShapes Go.ChangeAt
set_option maxRecDepth 100000
open Go.Proofs.Ytnjgcacnfobmiaa
set_option linter.unusedVariables false

set_option maxRecDepth 100000 in
set_option maxHeartbeats 4000000 in
theorem walk (a0 : Int) (pa0 : Option Addr) (pc0 : Nat) (ps0 : List Nat) (ra0 : Option Addr) (rc0 : Nat) (rs0 : List (List Nat)) (w : World) (hi0 : -9223372036854775808 ≤ a0 ∧ a0 ≤ 9223372036854775807) (hc0 : FR w pa0 ps0) (hr0 : RS w ra0 rs0) (hb0 : small ps0 rs0) : Calls Try.prog 12 #[.agg #[.int .i64 a0, .slice pa0 ps0.length pc0, .slice ra0 rs0.length rc0]] w fun e w' => e = .returned (.bool true) ∧ Ext w w' := by
  have EW : Ext w (w.alloc (.cells #[.int .i64 a0, .slice pa0 ps0.length pc0, .slice ra0 rs0.length rc0] 55)) := ((Ext.refl w).alloc _)
  replace hc0 := hc0.ext EW
  replace hr0 := hr0.ext EW
  by_cases hl0 : ps0.length + (rs0.length + tot rs0) ≤ 1048576
  case neg =>
    have T : Ext (w.alloc (.cells #[.int .i64 a0, .slice pa0 ps0.length pc0, .slice ra0 rs0.length rc0] 55)) (w.alloc (.cells #[.int .i64 a0, .slice pa0 ps0.length pc0, .slice ra0 rs0.length rc0] 55)) := Ext.refl _
    go_enter Try.func12, Try.ntmps12
    have hbox0 : Cells _ (w.heap.size) #[.int .i64 a0, .slice pa0 ps0.length pc0, .slice ra0 rs0.length rc0] 55 := Cells.ext (Cells.new w _ _) T
    go_wp2_with (first | (refine wpList_load_row rfl _ _ rfl _ rfl _ _ _ _ hbox0 Try.underlying55 rfl infoLG ?_))
    clear hbox0
    go_at_call 44; have hq := szGather_no a0 pa0 pc0 ps0 ra0 rc0 rs0 (1048576) _ (hr0.ext T) hb0 (by omega) (by omega); refine hq.mono ?_; clear hq
    rintro _ _ ⟨rfl, E⟩
    replace T := Ext.trans T E
    clear E
    go_wp2_with fail
    go_ret
    exact ⟨rfl, Ext.trans EW T⟩
  have T : Ext (w.alloc (.cells #[.int .i64 a0, .slice pa0 ps0.length pc0, .slice ra0 rs0.length rc0] 55)) (w.alloc (.cells #[.int .i64 a0, .slice pa0 ps0.length pc0, .slice ra0 rs0.length rc0] 55)) := Ext.refl _
  have hsl : Hid ((((((sortO a0 (cl ps0) (cls rs0)).map (·.2.1)).getD []).length + ((((sortO a0 (cl ps0) (cls rs0)).map (·.2.2)).getD []).length + tot (((sortO a0 (cl ps0) (cls rs0)).map (·.2.2)).getD [])) ≤ 1048576))) := sortO_len _ _ _
  go_enter Try.func12, Try.ntmps12
  have hz0 : (0 : Int) ≤ 1048576 - (ps0.length : Int) - ((rs0.length : Int) + (tot rs0 : Int)) := by omega
  have hbox0 : Cells _ (w.heap.size) #[.int .i64 a0, .slice pa0 ps0.length pc0, .slice ra0 rs0.length rc0] 55 := Cells.ext (Cells.new w _ _) T
  go_wp2_with (first | (refine wpList_load_row rfl _ _ rfl _ rfl _ _ _ _ hbox0 Try.underlying55 rfl infoLG ?_))
  clear hbox0
  go_at_call 44; have hq := szGather_ok a0 pa0 pc0 ps0 ra0 rc0 rs0 (1048576) _ (hr0.ext T) hb0 (by omega) (by omega); refine hq.mono ?_; clear hq
  rintro _ Vz0 ⟨rfl, E⟩
  replace T := Ext.trans T E
  clear E
  have hbox0 : Cells _ (w.heap.size) #[.int .i64 a0, .slice pa0 ps0.length pc0, .slice ra0 rs0.length rc0] 55 := Cells.ext (Cells.new w _ _) T
  go_wp2_with (first | (refine wpList_load_row rfl _ _ rfl _ rfl _ _ _ _ hbox0 Try.underlying55 rfl infoLG ?_))
  clear hbox0
  go_at_call 46; refine (toGather_any _ _ _ _ _ _ _ _ (by exact hc0.ext T) (by exact hr0.ext T) hl0).mono ?_
  rintro _ W_c1 ⟨pv, rv, vs_c1, rfl, E, O_c1⟩
  obtain ⟨⟨ap_c1, cp_c1, rfl, _⟩, ⟨ar_c1, cr_c1, rfl, _⟩⟩ := OwnG.fr O_c1
  replace O_c1 := OwnG.mono O_c1 T.size
  replace T := Ext.trans (by repeat (first | exact T | apply Ext.drewN)) E
  clear E
  have hbox0 : Cells _ (w.heap.size) #[.int .i64 a0, .slice pa0 ps0.length pc0, .slice ra0 rs0.length rc0] 55 := Cells.ext (Cells.new w _ _) T
  go_wp2_with (first | (refine wpList_load_row rfl _ _ rfl _ rfl _ _ _ _ hbox0 Try.underlying55 rfl infoLG ?_))
  clear hbox0
  refine (specSrt_any _ _ _ _ _ _ _ _ (by exact OwnG.fp O_c1) (by exact OwnG.fs O_c1) hl0).mono ?_
  rintro _ W_w0 ⟨t_w0, pv, rv, vs_w0, ys_w0, qs_w0, rfl, E, O_w0, HT, HP, HR⟩
  obtain ⟨⟨ap_w0, cp_w0, rfl, _⟩, ⟨ar_w0, cr_w0, rfl, _⟩⟩ := OwnG.fr O_w0
  subst HT
  have HP_w0 := Lib.hid HP
  have HR_w0 := Lib.hid HR
  clear HP HR
  have D_c1_w0 : ∀ k, gB (.slice ap_c1 ps0.length cp_c1) (.slice ar_c1 rs0.length cr_c1) vs_c1 k → ¬ (gB (.slice ap_w0 ys_w0.length cp_w0) (.slice ar_w0 qs_w0.length cr_w0) vs_w0 k) := by intro k hk hy; have h1 := OwnG.lt O_c1 k hk; have h2 := OwnG.lt O_w0 k hy; omega
  replace O_c1 := OwnG.ext (by exact O_c1) E
  replace O_w0 := OwnG.mono O_w0 T.size
  replace T := Ext.trans (by repeat (first | exact T | apply Ext.drewN)) E
  clear E
  have E := (Ext.refl W_w0).alloc (.cells #[.int .i64 (((sortO a0 (cl ps0) (cls rs0)).map (·.1)).getD 0), .slice ap_w0 ys_w0.length cp_w0, .slice ar_w0 qs_w0.length cr_w0] 25)
  have O_bw0 := OwnC.new W_w0 #[.int .i64 (((sortO a0 (cl ps0) (cls rs0)).map (·.1)).getD 0), .slice ap_w0 ys_w0.length cp_w0, .slice ar_w0 qs_w0.length cr_w0] 25
  have D_c1_bw0 : ∀ k, gB (.slice ap_c1 ps0.length cp_c1) (.slice ar_c1 rs0.length cr_c1) vs_c1 k → ¬ (k = W_w0.heap.size) := by intro k hk hy; have h1 := OwnG.lt O_c1 k hk; have h2 := OwnC.lt O_bw0 k hy; omega
  have D_w0_bw0 : ∀ k, gB (.slice ap_w0 ys_w0.length cp_w0) (.slice ar_w0 qs_w0.length cr_w0) vs_w0 k → ¬ (k = W_w0.heap.size) := by intro k hk hy; have h1 := OwnG.lt O_w0 k hk; have h2 := OwnC.lt O_bw0 k hy; omega
  replace O_c1 := OwnG.ext (by exact O_c1) E
  replace O_w0 := OwnG.ext (by exact O_w0) E
  replace O_bw0 := OwnC.mono O_bw0 T.size
  replace T := Ext.trans (by repeat (first | exact T | apply Ext.drewN)) E
  clear E
  clear O_c1
  have hbox0 : Cells _ (w.heap.size) #[.int .i64 a0, .slice pa0 ps0.length pc0, .slice ra0 rs0.length rc0] 55 := Cells.ext (Cells.new w _ _) T
  go_wp2_with (first | (refine wpList_load_row rfl _ _ rfl _ rfl _ _ _ _ hbox0 Try.underlying55 rfl infoLG ?_) | (refine wl_load_row rfl _ _ rfl _ rfl _ _ _ (OwnC.cells O_bw0) Try.underlying25 rfl infoG ?_))
  clear hbox0
  go_at_call 46; refine (toGather_any _ _ _ _ _ _ _ _ (by exact hc0.ext T) (by exact hr0.ext T) hl0).mono ?_
  rintro _ W_x0 ⟨pv, rv, vs_x0, rfl, E, O_x0⟩
  obtain ⟨⟨ap_x0, cp_x0, rfl, _⟩, ⟨ar_x0, cr_x0, rfl, _⟩⟩ := OwnG.fr O_x0
  have D_w0_x0 : ∀ k, gB (.slice ap_w0 ys_w0.length cp_w0) (.slice ar_w0 qs_w0.length cr_w0) vs_w0 k → ¬ (gB (.slice ap_x0 ps0.length cp_x0) (.slice ar_x0 rs0.length cr_x0) vs_x0 k) := by intro k hk hy; have h1 := OwnG.lt O_w0 k hk; have h2 := OwnG.lt O_x0 k hy; omega
  have D_bw0_x0 : ∀ k, k = W_w0.heap.size → ¬ (gB (.slice ap_x0 ps0.length cp_x0) (.slice ar_x0 rs0.length cr_x0) vs_x0 k) := by intro k hk hy; have h1 := OwnC.lt O_bw0 k hk; have h2 := OwnG.lt O_x0 k hy; omega
  replace O_w0 := OwnG.ext (by exact O_w0) E
  replace O_bw0 := OwnC.ext (by exact O_bw0) E
  replace O_x0 := OwnG.mono O_x0 T.size
  replace T := Ext.trans (by repeat (first | exact T | apply Ext.drewN)) E
  clear E
  have E := (Ext.refl W_x0).alloc (.cells #[.int .i64 a0, .slice ap_x0 ps0.length cp_x0, .slice ar_x0 rs0.length cr_x0] 25)
  have O_bx0 := OwnC.new W_x0 #[.int .i64 a0, .slice ap_x0 ps0.length cp_x0, .slice ar_x0 rs0.length cr_x0] 25
  have D_w0_bx0 : ∀ k, gB (.slice ap_w0 ys_w0.length cp_w0) (.slice ar_w0 qs_w0.length cr_w0) vs_w0 k → ¬ (k = W_x0.heap.size) := by intro k hk hy; have h1 := OwnG.lt O_w0 k hk; have h2 := OwnC.lt O_bx0 k hy; omega
  have D_bw0_bx0 : ∀ k, k = W_w0.heap.size → ¬ (k = W_x0.heap.size) := by intro k hk hy; have h1 := OwnC.lt O_bw0 k hk; have h2 := OwnC.lt O_bx0 k hy; omega
  have D_x0_bx0 : ∀ k, gB (.slice ap_x0 ps0.length cp_x0) (.slice ar_x0 rs0.length cr_x0) vs_x0 k → ¬ (k = W_x0.heap.size) := by intro k hk hy; have h1 := OwnG.lt O_x0 k hk; have h2 := OwnC.lt O_bx0 k hy; omega
  replace O_w0 := OwnG.ext (by exact O_w0) E
  replace O_bw0 := OwnC.ext (by exact O_bw0) E
  replace O_x0 := OwnG.ext (by exact O_x0) E
  replace O_bx0 := OwnC.mono O_bx0 T.size
  replace T := Ext.trans (by repeat (first | exact T | apply Ext.drewN)) E
  clear E
  have hbox0 : Cells _ (w.heap.size) #[.int .i64 a0, .slice pa0 ps0.length pc0, .slice ra0 rs0.length rc0] 55 := Cells.ext (Cells.new w _ _) T
  go_wp2_with (first | (refine wpList_load_row rfl _ _ rfl _ rfl _ _ _ _ hbox0 Try.underlying55 rfl infoLG ?_) | (refine wl_load_row rfl _ _ rfl _ rfl _ _ _ (OwnC.cells O_bw0) Try.underlying25 rfl infoG ?_) | (refine wl_load_row rfl _ _ rfl _ rfl _ _ _ (OwnC.cells O_bx0) Try.underlying25 rfl infoG ?_))
  clear hbox0
  refine (implSrt_any _ _ _ _ _ _ _ _ (by exact OwnG.fp O_x0) (by exact OwnG.fs O_x0) hl0).mono ?_
  rintro _ W_g0 ⟨t_g0, pv, rv, vs_g0, ys_g0, qs_g0, rfl, E, O_g0, HT, HP, HR⟩
  obtain ⟨⟨ap_g0, cp_g0, rfl, _⟩, ⟨ar_g0, cr_g0, rfl, _⟩⟩ := OwnG.fr O_g0
  subst HT
  have HP_g0 := Lib.hid HP
  have HR_g0 := Lib.hid HR
  clear HP HR
  have D_w0_g0 : ∀ k, gB (.slice ap_w0 ys_w0.length cp_w0) (.slice ar_w0 qs_w0.length cr_w0) vs_w0 k → ¬ (gB (.slice ap_g0 ys_g0.length cp_g0) (.slice ar_g0 qs_g0.length cr_g0) vs_g0 k) := by intro k hk hy; have h1 := OwnG.lt O_w0 k hk; have h2 := OwnG.lt O_g0 k hy; omega
  have D_bw0_g0 : ∀ k, k = W_w0.heap.size → ¬ (gB (.slice ap_g0 ys_g0.length cp_g0) (.slice ar_g0 qs_g0.length cr_g0) vs_g0 k) := by intro k hk hy; have h1 := OwnC.lt O_bw0 k hk; have h2 := OwnG.lt O_g0 k hy; omega
  have D_x0_g0 : ∀ k, gB (.slice ap_x0 ps0.length cp_x0) (.slice ar_x0 rs0.length cr_x0) vs_x0 k → ¬ (gB (.slice ap_g0 ys_g0.length cp_g0) (.slice ar_g0 qs_g0.length cr_g0) vs_g0 k) := by intro k hk hy; have h1 := OwnG.lt O_x0 k hk; have h2 := OwnG.lt O_g0 k hy; omega
  have D_bx0_g0 : ∀ k, k = W_x0.heap.size → ¬ (gB (.slice ap_g0 ys_g0.length cp_g0) (.slice ar_g0 qs_g0.length cr_g0) vs_g0 k) := by intro k hk hy; have h1 := OwnC.lt O_bx0 k hk; have h2 := OwnG.lt O_g0 k hy; omega
  replace O_w0 := OwnG.ext (by exact O_w0) E
  replace O_bw0 := OwnC.ext (by exact O_bw0) E
  replace O_x0 := OwnG.ext (by exact O_x0) E
  replace O_bx0 := OwnC.ext (by exact O_bx0) E
  replace O_g0 := OwnG.mono O_g0 T.size
  replace T := Ext.trans (by repeat (first | exact T | apply Ext.drewN)) E
  clear E
  have E := (Ext.refl W_g0).alloc (.cells #[.int .i64 (((sortO a0 (cl ps0) (cls rs0)).map (·.1)).getD 0), .slice ap_g0 ys_g0.length cp_g0, .slice ar_g0 qs_g0.length cr_g0] 25)
  have O_bg0 := OwnC.new W_g0 #[.int .i64 (((sortO a0 (cl ps0) (cls rs0)).map (·.1)).getD 0), .slice ap_g0 ys_g0.length cp_g0, .slice ar_g0 qs_g0.length cr_g0] 25
  have D_w0_bg0 : ∀ k, gB (.slice ap_w0 ys_w0.length cp_w0) (.slice ar_w0 qs_w0.length cr_w0) vs_w0 k → ¬ (k = W_g0.heap.size) := by intro k hk hy; have h1 := OwnG.lt O_w0 k hk; have h2 := OwnC.lt O_bg0 k hy; omega
  have D_bw0_bg0 : ∀ k, k = W_w0.heap.size → ¬ (k = W_g0.heap.size) := by intro k hk hy; have h1 := OwnC.lt O_bw0 k hk; have h2 := OwnC.lt O_bg0 k hy; omega
  have D_x0_bg0 : ∀ k, gB (.slice ap_x0 ps0.length cp_x0) (.slice ar_x0 rs0.length cr_x0) vs_x0 k → ¬ (k = W_g0.heap.size) := by intro k hk hy; have h1 := OwnG.lt O_x0 k hk; have h2 := OwnC.lt O_bg0 k hy; omega
  have D_bx0_bg0 : ∀ k, k = W_x0.heap.size → ¬ (k = W_g0.heap.size) := by intro k hk hy; have h1 := OwnC.lt O_bx0 k hk; have h2 := OwnC.lt O_bg0 k hy; omega
  have D_g0_bg0 : ∀ k, gB (.slice ap_g0 ys_g0.length cp_g0) (.slice ar_g0 qs_g0.length cr_g0) vs_g0 k → ¬ (k = W_g0.heap.size) := by intro k hk hy; have h1 := OwnG.lt O_g0 k hk; have h2 := OwnC.lt O_bg0 k hy; omega
  replace O_w0 := OwnG.ext (by exact O_w0) E
  replace O_bw0 := OwnC.ext (by exact O_bw0) E
  replace O_x0 := OwnG.ext (by exact O_x0) E
  replace O_bx0 := OwnC.ext (by exact O_bx0) E
  replace O_g0 := OwnG.ext (by exact O_g0) E
  replace O_bg0 := OwnC.mono O_bg0 T.size
  replace T := Ext.trans (by repeat (first | exact T | apply Ext.drewN)) E
  clear E
  have hbox0 : Cells _ (w.heap.size) #[.int .i64 a0, .slice pa0 ps0.length pc0, .slice ra0 rs0.length rc0] 55 := Cells.ext (Cells.new w _ _) T
  go_wp2_with (first | (refine wpList_load_row rfl _ _ rfl _ rfl _ _ _ _ hbox0 Try.underlying55 rfl infoLG ?_) | (refine wl_load_row rfl _ _ rfl _ rfl _ _ _ (OwnC.cells O_bw0) Try.underlying25 rfl infoG ?_) | (refine wl_load_row rfl _ _ rfl _ rfl _ _ _ (OwnC.cells O_bx0) Try.underlying25 rfl infoG ?_) | (refine wl_load_row rfl _ _ rfl _ rfl _ _ _ (OwnC.cells O_bg0) Try.underlying25 rfl infoG ?_))
  clear hbox0
  go_at_call 23; refine (eqGather_yes _ _ _ _ _ _ _ _ _ _ _ _ _ _ (by exact OwnG.fp O_g0) (by exact OwnG.fs O_g0) (by exact OwnG.fp O_w0) (by exact OwnG.fs O_w0) (HP_g0.out.trans HP_w0.out.symm) (HR_g0.out.trans HR_w0.out.symm) (small_of HP_g0.out HR_g0.out hsl.out)).mono ?_
  rintro _ V2 ⟨rfl, E⟩
  replace O_w0 := OwnG.ext (by exact O_w0) E
  replace O_bw0 := OwnC.ext (by exact O_bw0) E
  replace O_x0 := OwnG.ext (by exact O_x0) E
  replace O_bx0 := OwnC.ext (by exact O_bx0) E
  replace O_g0 := OwnG.ext (by exact O_g0) E
  replace O_bg0 := OwnC.ext (by exact O_bg0) E
  replace T := Ext.trans (by repeat (first | exact T | apply Ext.drewN)) E
  clear E
  have hbox0 : Cells _ (w.heap.size) #[.int .i64 a0, .slice pa0 ps0.length pc0, .slice ra0 rs0.length rc0] 55 := Cells.ext (Cells.new w _ _) T
  have hx := OwnC.cells O_bx0
  have q0 := hbox0.at 0
  have q1 := hbox0.at 1
  have q2 := hbox0.at 2
  have q3 := hx.at 0
  have q4 := hx.at 1
  have q5 := hx.at 2
  simp only [List.getElem?_toArray, List.getElem?_cons_succ, List.getElem?_cons_zero] at q0 q1 q2 q3 q4 q5
  have S6 : ∀ w', Ext V2 w' → (Ext V2 w' ∧ w'.cell? ⟨w.heap.size, 0, none⟩ = some (.int .i64 a0) ∧ w'.cell? ⟨w.heap.size, 1, none⟩ = some (.slice pa0 ps0.length pc0) ∧ w'.cell? ⟨w.heap.size, 2, none⟩ = some (.slice ra0 rs0.length rc0) ∧ w'.cell? ⟨W_x0.heap.size, 0, none⟩ = some (.int .i64 a0) ∧ w'.cell? ⟨W_x0.heap.size, 1, none⟩ = some (.slice ap_x0 ps0.length cp_x0) ∧ w'.cell? ⟨W_x0.heap.size, 2, none⟩ = some (.slice ar_x0 rs0.length cr_x0)) := fun w' h => ⟨h, h.cell q0, h.cell q1, h.cell q2, h.cell q3, h.cell q4, h.cell q5⟩
  go_wp2_with (first | (refine wpList_load_row rfl _ _ rfl _ rfl _ _ _ _ hbox0 Try.underlying55 rfl infoLG ?_) | (refine wl_load_row rfl _ _ rfl _ rfl _ _ _ (OwnC.cells O_bw0) Try.underlying25 rfl infoG ?_) | (refine wl_load_row rfl _ _ rfl _ rfl _ _ _ (OwnC.cells O_bx0) Try.underlying25 rfl infoG ?_) | (refine wl_load_row rfl _ _ rfl _ rfl _ _ _ (OwnC.cells O_bg0) Try.underlying25 rfl infoG ?_))
  go_region_held3 (fun w' => Ext V2 w' ∧ w'.cell? ⟨w.heap.size, 0, none⟩ = some (.int .i64 a0) ∧ w'.cell? ⟨w.heap.size, 1, none⟩ = some (.slice pa0 ps0.length pc0) ∧ w'.cell? ⟨w.heap.size, 2, none⟩ = some (.slice ra0 rs0.length rc0) ∧ w'.cell? ⟨W_x0.heap.size, 0, none⟩ = some (.int .i64 a0) ∧ w'.cell? ⟨W_x0.heap.size, 1, none⟩ = some (.slice ap_x0 ps0.length cp_x0) ∧ w'.cell? ⟨W_x0.heap.size, 2, none⟩ = some (.slice ar_x0 rs0.length cr_x0))
    (first | (refine S6 _ ?_; repeat (first | assumption | exact Ext.refl _ | apply Ext.drewN | (refine Ext.trans (by assumption) ?_))))
    (first
      | (go_at_call 46; refine (toGather_any _ _ _ _ _ _ _ _ (hc0.ext (T.trans (by repeat (first | assumption | exact Ext.refl _ | apply Ext.drewN | (refine Ext.trans (by assumption) ?_))))) (hr0.ext (T.trans (by repeat (first | assumption | exact Ext.refl _ | apply Ext.drewN | (refine Ext.trans (by assumption) ?_))))) hl0).mono ?_; rintro _ W_c3 ⟨pv, rv, vs_c3, rfl, E, O_c3⟩; (have E' : Ext V2 W_c3 := Ext.trans (by repeat (first | assumption | exact Ext.refl _ | apply Ext.drewN | (refine Ext.trans (by assumption) ?_))) E); obtain ⟨⟨ap_c3, cp_c3, rfl, _⟩, ⟨ar_c3, cr_c3, rfl, _⟩⟩ := OwnG.fr O_c3)
      | (go_at_call 23; refine (eqGather_yes _ _ _ _ _ _ _ _ _ _ _ _ _ _ ((OwnG.fp O_x0).ext (by repeat (first | assumption | exact Ext.refl _ | apply Ext.drewN | (refine Ext.trans (by assumption) ?_)))) ((OwnG.fs O_x0).ext (by repeat (first | assumption | exact Ext.refl _ | apply Ext.drewN | (refine Ext.trans (by assumption) ?_)))) ((OwnG.fp O_c3).ext (by repeat (first | assumption | exact Ext.refl _ | apply Ext.drewN | (refine Ext.trans (by assumption) ?_)))) ((OwnG.fs O_c3).ext (by repeat (first | assumption | exact Ext.refl _ | apply Ext.drewN | (refine Ext.trans (by assumption) ?_)))) rfl rfl hl0).mono ?_; rintro _ V4 ⟨rfl, E2⟩; (have E2' : Ext V2 V4 := Ext.trans (by repeat (first | assumption | exact Ext.refl _ | apply Ext.drewN | (refine Ext.trans (by assumption) ?_))) E2)))
  replace O_w0 := OwnG.ext (by exact O_w0) E2'
  replace O_bw0 := OwnC.ext (by exact O_bw0) E2'
  replace O_x0 := OwnG.ext (by exact O_x0) E2'
  replace O_bx0 := OwnC.ext (by exact O_bx0) E2'
  replace O_g0 := OwnG.ext (by exact O_g0) E2'
  replace O_bg0 := OwnC.ext (by exact O_bg0) E2'
  replace T := Ext.trans T E2'
  clear E2' E2 E' E S6 hx q0 q1 q2 q3 q4 q5 hbox0
  have hbox0 : Cells _ (w.heap.size) #[.int .i64 a0, .slice pa0 ps0.length pc0, .slice ra0 rs0.length rc0] 55 := Cells.ext (Cells.new w _ _) T
  go_wp2_with (first | (refine wpList_load_row rfl _ _ rfl _ rfl _ _ _ _ hbox0 Try.underlying55 rfl infoLG ?_) | (refine wl_load_row rfl _ _ rfl _ rfl _ _ _ (OwnC.cells O_bw0) Try.underlying25 rfl infoG ?_) | (refine wl_load_row rfl _ _ rfl _ rfl _ _ _ (OwnC.cells O_bx0) Try.underlying25 rfl infoG ?_) | (refine wl_load_row rfl _ _ rfl _ rfl _ _ _ (OwnC.cells O_bg0) Try.underlying25 rfl infoG ?_))
  clear hbox0
  go_at_call 26; refine (markGather_any _ _ _ _ _ _ _ _ _ (by exact O_x0) hl0 (by omega) (by omega)).mono ?_
  rintro _ V5 ⟨rfl, hg, O⟩
  have hch := hg
  clear hg
  replace O_w0 := OwnG.chg (by exact O_w0) hch D_w0_x0
  replace O_bw0 := OwnC.chg (by exact O_bw0) hch D_bw0_x0
  replace O_bx0 := OwnC.chg (by exact O_bx0) hch (fun k hk hz => D_x0_bx0 k hz hk)
  replace O_g0 := OwnG.chg (by exact O_g0) hch (fun k hk hz => D_x0_g0 k hz hk)
  replace O_bg0 := OwnC.chg (by exact O_bg0) hch (fun k hk hz => D_x0_bg0 k hz hk)
  replace T := Chg.ext (by repeat (first | exact T | apply Ext.drewN)) hch (fun k hk => (OwnG.lt O_x0 k hk).1)
  clear hch
  clear O_x0
  have O_x0 := O
  clear O
  have hbox0 : Cells _ (w.heap.size) #[.int .i64 a0, .slice pa0 ps0.length pc0, .slice ra0 rs0.length rc0] 55 := Cells.ext (Cells.new w _ _) T
  go_wp2_with (first | (refine wpList_load_row rfl _ _ rfl _ rfl _ _ _ _ hbox0 Try.underlying55 rfl infoLG ?_) | (refine wl_load_row rfl _ _ rfl _ rfl _ _ _ (OwnC.cells O_bw0) Try.underlying25 rfl infoG ?_) | (refine wl_load_row rfl _ _ rfl _ rfl _ _ _ (OwnC.cells O_bx0) Try.underlying25 rfl infoG ?_) | (refine wl_load_row rfl _ _ rfl _ rfl _ _ _ (OwnC.cells O_bg0) Try.underlying25 rfl infoG ?_))
  clear hbox0
  go_at_call 23; refine (eqGather_yes _ _ _ _ _ _ _ _ _ _ _ _ _ _ (by exact OwnG.fp O_g0) (by exact OwnG.fs O_g0) (by exact OwnG.fp O_w0) (by exact OwnG.fs O_w0) (HP_g0.out.trans HP_w0.out.symm) (HR_g0.out.trans HR_w0.out.symm) (small_of HP_g0.out HR_g0.out hsl.out)).mono ?_
  rintro _ V6 ⟨rfl, E⟩
  replace O_w0 := OwnG.ext (by exact O_w0) E
  replace O_bw0 := OwnC.ext (by exact O_bw0) E
  replace O_x0 := OwnG.ext (by exact O_x0) E
  replace O_bx0 := OwnC.ext (by exact O_bx0) E
  replace O_g0 := OwnG.ext (by exact O_g0) E
  replace O_bg0 := OwnC.ext (by exact O_bg0) E
  replace T := Ext.trans (by repeat (first | exact T | apply Ext.drewN)) E
  clear E
  have hbox0 : Cells _ (w.heap.size) #[.int .i64 a0, .slice pa0 ps0.length pc0, .slice ra0 rs0.length rc0] 55 := Cells.ext (Cells.new w _ _) T
  go_wp2_with (first | (refine wpList_load_row rfl _ _ rfl _ rfl _ _ _ _ hbox0 Try.underlying55 rfl infoLG ?_) | (refine wl_load_row rfl _ _ rfl _ rfl _ _ _ (OwnC.cells O_bw0) Try.underlying25 rfl infoG ?_) | (refine wl_load_row rfl _ _ rfl _ rfl _ _ _ (OwnC.cells O_bx0) Try.underlying25 rfl infoG ?_) | (refine wl_load_row rfl _ _ rfl _ rfl _ _ _ (OwnC.cells O_bg0) Try.underlying25 rfl infoG ?_))
  clear hbox0
  go_at_call 26; refine (markGather_any _ _ _ _ _ _ _ _ _ (by exact O_g0) (small_of HP_g0.out HR_g0.out hsl.out) (by omega) (by omega)).mono ?_
  rintro _ V7 ⟨rfl, hg, O⟩
  have hch := hg
  clear hg
  replace O_w0 := OwnG.chg (by exact O_w0) hch D_w0_g0
  replace O_bw0 := OwnC.chg (by exact O_bw0) hch D_bw0_g0
  replace O_x0 := OwnG.chg (by exact O_x0) hch D_x0_g0
  replace O_bx0 := OwnC.chg (by exact O_bx0) hch D_bx0_g0
  replace O_bg0 := OwnC.chg (by exact O_bg0) hch (fun k hk hz => D_g0_bg0 k hz hk)
  replace T := Chg.ext (by repeat (first | exact T | apply Ext.drewN)) hch (fun k hk => (OwnG.lt O_g0 k hk).1)
  clear hch
  clear O_g0
  have O_g0 := O
  clear O
  have hbox0 : Cells _ (w.heap.size) #[.int .i64 a0, .slice pa0 ps0.length pc0, .slice ra0 rs0.length rc0] 55 := Cells.ext (Cells.new w _ _) T
  go_wp2_with (first | (refine wpList_load_row rfl _ _ rfl _ rfl _ _ _ _ hbox0 Try.underlying55 rfl infoLG ?_) | (refine wl_load_row rfl _ _ rfl _ rfl _ _ _ (OwnC.cells O_bw0) Try.underlying25 rfl infoG ?_) | (refine wl_load_row rfl _ _ rfl _ rfl _ _ _ (OwnC.cells O_bx0) Try.underlying25 rfl infoG ?_) | (refine wl_load_row rfl _ _ rfl _ rfl _ _ _ (OwnC.cells O_bg0) Try.underlying25 rfl infoG ?_))
  clear hbox0
  go_at_call 27; refine (heldGather_any _ _ _ _ _ _ _ _ _ _ _ (by exact O_g0) (small_of HP_g0.out HR_g0.out hsl.out) (by omega) (by omega)).mono ?_
  rintro _ V8 ⟨rfl, E⟩
  replace O_w0 := OwnG.ext (by exact O_w0) E
  replace O_bw0 := OwnC.ext (by exact O_bw0) E
  replace O_x0 := OwnG.ext (by exact O_x0) E
  replace O_bx0 := OwnC.ext (by exact O_bx0) E
  replace O_g0 := OwnG.ext (by exact O_g0) E
  replace O_bg0 := OwnC.ext (by exact O_bg0) E
  replace T := Ext.trans (by repeat (first | exact T | apply Ext.drewN)) E
  clear E
  have hbox0 : Cells _ (w.heap.size) #[.int .i64 a0, .slice pa0 ps0.length pc0, .slice ra0 rs0.length rc0] 55 := Cells.ext (Cells.new w _ _) T
  go_wp2_with (first | (refine wpList_load_row rfl _ _ rfl _ rfl _ _ _ _ hbox0 Try.underlying55 rfl infoLG ?_) | (refine wl_load_row rfl _ _ rfl _ rfl _ _ _ (OwnC.cells O_bw0) Try.underlying25 rfl infoG ?_) | (refine wl_load_row rfl _ _ rfl _ rfl _ _ _ (OwnC.cells O_bx0) Try.underlying25 rfl infoG ?_) | (refine wl_load_row rfl _ _ rfl _ rfl _ _ _ (OwnC.cells O_bg0) Try.underlying25 rfl infoG ?_))
  clear hbox0
  go_at_call 46; refine (toGather_any _ _ _ _ _ _ _ _ (by exact hc0.ext T) (by exact hr0.ext T) hl0).mono ?_
  rintro _ W_c9 ⟨pv, rv, vs_c9, rfl, E, O_c9⟩
  obtain ⟨⟨ap_c9, cp_c9, rfl, _⟩, ⟨ar_c9, cr_c9, rfl, _⟩⟩ := OwnG.fr O_c9
  have D_w0_c9 : ∀ k, gB (.slice ap_w0 ys_w0.length cp_w0) (.slice ar_w0 qs_w0.length cr_w0) vs_w0 k → ¬ (gB (.slice ap_c9 ps0.length cp_c9) (.slice ar_c9 rs0.length cr_c9) vs_c9 k) := by intro k hk hy; have h1 := OwnG.lt O_w0 k hk; have h2 := OwnG.lt O_c9 k hy; omega
  have D_bw0_c9 : ∀ k, k = W_w0.heap.size → ¬ (gB (.slice ap_c9 ps0.length cp_c9) (.slice ar_c9 rs0.length cr_c9) vs_c9 k) := by intro k hk hy; have h1 := OwnC.lt O_bw0 k hk; have h2 := OwnG.lt O_c9 k hy; omega
  have D_x0_c9 : ∀ k, gB (.slice ap_x0 ps0.length cp_x0) (.slice ar_x0 rs0.length cr_x0) vs_x0 k → ¬ (gB (.slice ap_c9 ps0.length cp_c9) (.slice ar_c9 rs0.length cr_c9) vs_c9 k) := by intro k hk hy; have h1 := OwnG.lt O_x0 k hk; have h2 := OwnG.lt O_c9 k hy; omega
  have D_bx0_c9 : ∀ k, k = W_x0.heap.size → ¬ (gB (.slice ap_c9 ps0.length cp_c9) (.slice ar_c9 rs0.length cr_c9) vs_c9 k) := by intro k hk hy; have h1 := OwnC.lt O_bx0 k hk; have h2 := OwnG.lt O_c9 k hy; omega
  have D_g0_c9 : ∀ k, gB (.slice ap_g0 ys_g0.length cp_g0) (.slice ar_g0 qs_g0.length cr_g0) vs_g0 k → ¬ (gB (.slice ap_c9 ps0.length cp_c9) (.slice ar_c9 rs0.length cr_c9) vs_c9 k) := by intro k hk hy; have h1 := OwnG.lt O_g0 k hk; have h2 := OwnG.lt O_c9 k hy; omega
  have D_bg0_c9 : ∀ k, k = W_g0.heap.size → ¬ (gB (.slice ap_c9 ps0.length cp_c9) (.slice ar_c9 rs0.length cr_c9) vs_c9 k) := by intro k hk hy; have h1 := OwnC.lt O_bg0 k hk; have h2 := OwnG.lt O_c9 k hy; omega
  replace O_w0 := OwnG.ext (by exact O_w0) E
  replace O_bw0 := OwnC.ext (by exact O_bw0) E
  replace O_x0 := OwnG.ext (by exact O_x0) E
  replace O_bx0 := OwnC.ext (by exact O_bx0) E
  replace O_g0 := OwnG.ext (by exact O_g0) E
  replace O_bg0 := OwnC.ext (by exact O_bg0) E
  replace O_c9 := OwnG.mono O_c9 T.size
  replace T := Ext.trans (by repeat (first | exact T | apply Ext.drewN)) E
  clear E
  have hbox0 : Cells _ (w.heap.size) #[.int .i64 a0, .slice pa0 ps0.length pc0, .slice ra0 rs0.length rc0] 55 := Cells.ext (Cells.new w _ _) T
  go_wp2_with (first | (refine wpList_load_row rfl _ _ rfl _ rfl _ _ _ _ hbox0 Try.underlying55 rfl infoLG ?_) | (refine wl_load_row rfl _ _ rfl _ rfl _ _ _ (OwnC.cells O_bw0) Try.underlying25 rfl infoG ?_) | (refine wl_load_row rfl _ _ rfl _ rfl _ _ _ (OwnC.cells O_bx0) Try.underlying25 rfl infoG ?_) | (refine wl_load_row rfl _ _ rfl _ rfl _ _ _ (OwnC.cells O_bg0) Try.underlying25 rfl infoG ?_))
  clear hbox0
  refine (implSrt_any _ _ _ _ _ _ _ _ (by exact OwnG.fp O_c9) (by exact OwnG.fs O_c9) hl0).mono ?_
  rintro _ W_h0 ⟨t_h0, pv, rv, vs_h0, ys_h0, qs_h0, rfl, E, O_h0, HT, HP, HR⟩
  obtain ⟨⟨ap_h0, cp_h0, rfl, _⟩, ⟨ar_h0, cr_h0, rfl, _⟩⟩ := OwnG.fr O_h0
  subst HT
  have HP_h0 := Lib.hid HP
  have HR_h0 := Lib.hid HR
  clear HP HR
  have D_w0_h0 : ∀ k, gB (.slice ap_w0 ys_w0.length cp_w0) (.slice ar_w0 qs_w0.length cr_w0) vs_w0 k → ¬ (gB (.slice ap_h0 ys_h0.length cp_h0) (.slice ar_h0 qs_h0.length cr_h0) vs_h0 k) := by intro k hk hy; have h1 := OwnG.lt O_w0 k hk; have h2 := OwnG.lt O_h0 k hy; omega
  have D_bw0_h0 : ∀ k, k = W_w0.heap.size → ¬ (gB (.slice ap_h0 ys_h0.length cp_h0) (.slice ar_h0 qs_h0.length cr_h0) vs_h0 k) := by intro k hk hy; have h1 := OwnC.lt O_bw0 k hk; have h2 := OwnG.lt O_h0 k hy; omega
  have D_x0_h0 : ∀ k, gB (.slice ap_x0 ps0.length cp_x0) (.slice ar_x0 rs0.length cr_x0) vs_x0 k → ¬ (gB (.slice ap_h0 ys_h0.length cp_h0) (.slice ar_h0 qs_h0.length cr_h0) vs_h0 k) := by intro k hk hy; have h1 := OwnG.lt O_x0 k hk; have h2 := OwnG.lt O_h0 k hy; omega
  have D_bx0_h0 : ∀ k, k = W_x0.heap.size → ¬ (gB (.slice ap_h0 ys_h0.length cp_h0) (.slice ar_h0 qs_h0.length cr_h0) vs_h0 k) := by intro k hk hy; have h1 := OwnC.lt O_bx0 k hk; have h2 := OwnG.lt O_h0 k hy; omega
  have D_g0_h0 : ∀ k, gB (.slice ap_g0 ys_g0.length cp_g0) (.slice ar_g0 qs_g0.length cr_g0) vs_g0 k → ¬ (gB (.slice ap_h0 ys_h0.length cp_h0) (.slice ar_h0 qs_h0.length cr_h0) vs_h0 k) := by intro k hk hy; have h1 := OwnG.lt O_g0 k hk; have h2 := OwnG.lt O_h0 k hy; omega
  have D_bg0_h0 : ∀ k, k = W_g0.heap.size → ¬ (gB (.slice ap_h0 ys_h0.length cp_h0) (.slice ar_h0 qs_h0.length cr_h0) vs_h0 k) := by intro k hk hy; have h1 := OwnC.lt O_bg0 k hk; have h2 := OwnG.lt O_h0 k hy; omega
  have D_c9_h0 : ∀ k, gB (.slice ap_c9 ps0.length cp_c9) (.slice ar_c9 rs0.length cr_c9) vs_c9 k → ¬ (gB (.slice ap_h0 ys_h0.length cp_h0) (.slice ar_h0 qs_h0.length cr_h0) vs_h0 k) := by intro k hk hy; have h1 := OwnG.lt O_c9 k hk; have h2 := OwnG.lt O_h0 k hy; omega
  replace O_w0 := OwnG.ext (by exact O_w0) E
  replace O_bw0 := OwnC.ext (by exact O_bw0) E
  replace O_x0 := OwnG.ext (by exact O_x0) E
  replace O_bx0 := OwnC.ext (by exact O_bx0) E
  replace O_g0 := OwnG.ext (by exact O_g0) E
  replace O_bg0 := OwnC.ext (by exact O_bg0) E
  replace O_c9 := OwnG.ext (by exact O_c9) E
  replace O_h0 := OwnG.mono O_h0 T.size
  replace T := Ext.trans (by repeat (first | exact T | apply Ext.drewN)) E
  clear E
  have E := (Ext.refl W_h0).alloc (.cells #[.int .i64 (((sortO a0 (cl ps0) (cls rs0)).map (·.1)).getD 0), .slice ap_h0 ys_h0.length cp_h0, .slice ar_h0 qs_h0.length cr_h0] 25)
  have O_bh0 := OwnC.new W_h0 #[.int .i64 (((sortO a0 (cl ps0) (cls rs0)).map (·.1)).getD 0), .slice ap_h0 ys_h0.length cp_h0, .slice ar_h0 qs_h0.length cr_h0] 25
  have D_w0_bh0 : ∀ k, gB (.slice ap_w0 ys_w0.length cp_w0) (.slice ar_w0 qs_w0.length cr_w0) vs_w0 k → ¬ (k = W_h0.heap.size) := by intro k hk hy; have h1 := OwnG.lt O_w0 k hk; have h2 := OwnC.lt O_bh0 k hy; omega
  have D_bw0_bh0 : ∀ k, k = W_w0.heap.size → ¬ (k = W_h0.heap.size) := by intro k hk hy; have h1 := OwnC.lt O_bw0 k hk; have h2 := OwnC.lt O_bh0 k hy; omega
  have D_x0_bh0 : ∀ k, gB (.slice ap_x0 ps0.length cp_x0) (.slice ar_x0 rs0.length cr_x0) vs_x0 k → ¬ (k = W_h0.heap.size) := by intro k hk hy; have h1 := OwnG.lt O_x0 k hk; have h2 := OwnC.lt O_bh0 k hy; omega
  have D_bx0_bh0 : ∀ k, k = W_x0.heap.size → ¬ (k = W_h0.heap.size) := by intro k hk hy; have h1 := OwnC.lt O_bx0 k hk; have h2 := OwnC.lt O_bh0 k hy; omega
  have D_g0_bh0 : ∀ k, gB (.slice ap_g0 ys_g0.length cp_g0) (.slice ar_g0 qs_g0.length cr_g0) vs_g0 k → ¬ (k = W_h0.heap.size) := by intro k hk hy; have h1 := OwnG.lt O_g0 k hk; have h2 := OwnC.lt O_bh0 k hy; omega
  have D_bg0_bh0 : ∀ k, k = W_g0.heap.size → ¬ (k = W_h0.heap.size) := by intro k hk hy; have h1 := OwnC.lt O_bg0 k hk; have h2 := OwnC.lt O_bh0 k hy; omega
  have D_c9_bh0 : ∀ k, gB (.slice ap_c9 ps0.length cp_c9) (.slice ar_c9 rs0.length cr_c9) vs_c9 k → ¬ (k = W_h0.heap.size) := by intro k hk hy; have h1 := OwnG.lt O_c9 k hk; have h2 := OwnC.lt O_bh0 k hy; omega
  have D_h0_bh0 : ∀ k, gB (.slice ap_h0 ys_h0.length cp_h0) (.slice ar_h0 qs_h0.length cr_h0) vs_h0 k → ¬ (k = W_h0.heap.size) := by intro k hk hy; have h1 := OwnG.lt O_h0 k hk; have h2 := OwnC.lt O_bh0 k hy; omega
  replace O_w0 := OwnG.ext (by exact O_w0) E
  replace O_bw0 := OwnC.ext (by exact O_bw0) E
  replace O_x0 := OwnG.ext (by exact O_x0) E
  replace O_bx0 := OwnC.ext (by exact O_bx0) E
  replace O_g0 := OwnG.ext (by exact O_g0) E
  replace O_bg0 := OwnC.ext (by exact O_bg0) E
  replace O_c9 := OwnG.ext (by exact O_c9) E
  replace O_h0 := OwnG.ext (by exact O_h0) E
  replace O_bh0 := OwnC.mono O_bh0 T.size
  replace T := Ext.trans (by repeat (first | exact T | apply Ext.drewN)) E
  clear E
  clear O_c9
  have hbox0 : Cells _ (w.heap.size) #[.int .i64 a0, .slice pa0 ps0.length pc0, .slice ra0 rs0.length rc0] 55 := Cells.ext (Cells.new w _ _) T
  go_wp2_with (first | (refine wpList_load_row rfl _ _ rfl _ rfl _ _ _ _ hbox0 Try.underlying55 rfl infoLG ?_) | (refine wl_load_row rfl _ _ rfl _ rfl _ _ _ (OwnC.cells O_bw0) Try.underlying25 rfl infoG ?_) | (refine wl_load_row rfl _ _ rfl _ rfl _ _ _ (OwnC.cells O_bx0) Try.underlying25 rfl infoG ?_) | (refine wl_load_row rfl _ _ rfl _ rfl _ _ _ (OwnC.cells O_bg0) Try.underlying25 rfl infoG ?_) | (refine wl_load_row rfl _ _ rfl _ rfl _ _ _ (OwnC.cells O_bh0) Try.underlying25 rfl infoG ?_))
  clear hbox0
  go_at_call 23; refine (eqGather_yes _ _ _ _ _ _ _ _ _ _ _ _ _ _ (by exact OwnG.fp O_h0) (by exact OwnG.fs O_h0) (by exact OwnG.fp O_w0) (by exact OwnG.fs O_w0) (HP_h0.out.trans HP_w0.out.symm) (HR_h0.out.trans HR_w0.out.symm) (small_of HP_h0.out HR_h0.out hsl.out)).mono ?_
  rintro _ V10 ⟨rfl, E⟩
  replace O_w0 := OwnG.ext (by exact O_w0) E
  replace O_bw0 := OwnC.ext (by exact O_bw0) E
  replace O_x0 := OwnG.ext (by exact O_x0) E
  replace O_bx0 := OwnC.ext (by exact O_bx0) E
  replace O_g0 := OwnG.ext (by exact O_g0) E
  replace O_bg0 := OwnC.ext (by exact O_bg0) E
  replace O_h0 := OwnG.ext (by exact O_h0) E
  replace O_bh0 := OwnC.ext (by exact O_bh0) E
  replace T := Ext.trans (by repeat (first | exact T | apply Ext.drewN)) E
  clear E
  have hbox0 : Cells _ (w.heap.size) #[.int .i64 a0, .slice pa0 ps0.length pc0, .slice ra0 rs0.length rc0] 55 := Cells.ext (Cells.new w _ _) T
  go_wp2_with (first | (refine wpList_load_row rfl _ _ rfl _ rfl _ _ _ _ hbox0 Try.underlying55 rfl infoLG ?_) | (refine wl_load_row rfl _ _ rfl _ rfl _ _ _ (OwnC.cells O_bw0) Try.underlying25 rfl infoG ?_) | (refine wl_load_row rfl _ _ rfl _ rfl _ _ _ (OwnC.cells O_bx0) Try.underlying25 rfl infoG ?_) | (refine wl_load_row rfl _ _ rfl _ rfl _ _ _ (OwnC.cells O_bg0) Try.underlying25 rfl infoG ?_) | (refine wl_load_row rfl _ _ rfl _ rfl _ _ _ (OwnC.cells O_bh0) Try.underlying25 rfl infoG ?_))
  clear hbox0
  go_at_call 27; refine (heldGather_any _ _ _ _ _ _ _ _ _ _ _ (by exact O_g0) (small_of HP_g0.out HR_g0.out hsl.out) (by omega) (by omega)).mono ?_
  rintro _ V11 ⟨rfl, E⟩
  replace O_w0 := OwnG.ext (by exact O_w0) E
  replace O_bw0 := OwnC.ext (by exact O_bw0) E
  replace O_x0 := OwnG.ext (by exact O_x0) E
  replace O_bx0 := OwnC.ext (by exact O_bx0) E
  replace O_g0 := OwnG.ext (by exact O_g0) E
  replace O_bg0 := OwnC.ext (by exact O_bg0) E
  replace O_h0 := OwnG.ext (by exact O_h0) E
  replace O_bh0 := OwnC.ext (by exact O_bh0) E
  replace T := Ext.trans (by repeat (first | exact T | apply Ext.drewN)) E
  clear E
  have hbox0 : Cells _ (w.heap.size) #[.int .i64 a0, .slice pa0 ps0.length pc0, .slice ra0 rs0.length rc0] 55 := Cells.ext (Cells.new w _ _) T
  go_wp2_with (first | (refine wpList_load_row rfl _ _ rfl _ rfl _ _ _ _ hbox0 Try.underlying55 rfl infoLG ?_) | (refine wl_load_row rfl _ _ rfl _ rfl _ _ _ (OwnC.cells O_bw0) Try.underlying25 rfl infoG ?_) | (refine wl_load_row rfl _ _ rfl _ rfl _ _ _ (OwnC.cells O_bx0) Try.underlying25 rfl infoG ?_) | (refine wl_load_row rfl _ _ rfl _ rfl _ _ _ (OwnC.cells O_bg0) Try.underlying25 rfl infoG ?_) | (refine wl_load_row rfl _ _ rfl _ rfl _ _ _ (OwnC.cells O_bh0) Try.underlying25 rfl infoG ?_))
  clear hbox0
  go_ret
  exact ⟨rfl, Ext.trans EW T⟩

set_option maxRecDepth 100000 in
theorem lifted (os : Os) (started : os.Started) (H : Type) (enc : TypeId × Value → H) :
    ReturnsInHanded {} Try.checked os 12 .any (Rows.fnExactSortGatherSpec.pre6 enc Try.prog Try.f12 Rows.fnExactSortGatherRow.domain false) (Rows.fnExactSortGatherSpec.post enc Try.prog Try.f12 false true false false) := by
  refine returnsInHanded_of_change (C := Try.checked) own started (by kernel_rfl) Try.func12
    (ChangeSpec.witness6 (enc := enc) (C := Try.checked) false ⟨#[], #[.agg #[.int .i64 0, .slice none 0 0, .slice none 0 0]], []⟩ 8 (by kernel_rfl) (by kernel_rfl) (by kernel_rfl) (by kernel_rfl)) ?_
  intro W base args ds gs before hval0 hW hcnd _
  have hval : ∀ (j : Nat) t v, Try.f12.params[j]? = some t → args[j]? = some v → Value.okWide Try.prog W .any base t v := hval0
  have hW' := hW
  obtain ⟨p, q, hA0, hV, rfl, hfz, hnd⟩ := hW
  have hA : DataW.TrodAll enc Try.prog W 0 (fun _ => true) true Try.f12.params.toList args.toList ds p := hA0
  rw [Try.params12] at hA hval
  obtain ⟨v0, vs0, d0, ds0, p0, q0, hargs, rfl, rfl, h0, r0⟩ := trodAll_cons hA
  obtain ⟨rfl, rfl, rfl⟩ := trodAll_nil r0
  obtain rfl : args = #[v0] := by cases args; simp_all
  obtain ⟨rfl, rfl⟩ := trodVars_none hV
  have k0 := h0
  have lt0 : ∀ x ∈ p0, x.block < W.heap.size := by obtain ⟨m, hm⟩ := k0; exact DataW.trod_lt m _ _ _ hm
  obtain ⟨a0, pa0, pc0, ps0, ra0, rc0, rs0, rfl, hi0, hc0, hr0, hb0⟩ := open_gather h0
  clear hA0 hval0
  refine (walk a0 pa0 pc0 ps0 ra0 rc0 rs0 W hi0 hc0 hr0 hb0).mono fun e W' ⟨he, bel⟩ => ?_
  subst he
  exact ⟨_, rfl, _, _, _, [], _, [], hW', trodAll_mk1 (shut_bool Try.underlying4 _), (trodAll_cons_mk (Below.trod laidOut (by kernel_rfl) (of_decide_eq_true (by kernel_rfl)) k0 bel lt0) trodAll_mk0), rfl, Below.frame (show Below W.heap.size W W' from bel) _, fun h => by cases h⟩
theorem closed : joinedFacts Try.prog 12 Try.f12 Rows.fnExactSortGatherSpec Rows.fnExactSortGatherRow = true := by
  unfold joinedFacts
  rw [Go.Proofs.Ytnjgcacnfobmiaa.mayEnter, Go.Proofs.Ytnjgcacnfobmiaa.liftsFinal, Go.Proofs.Ytnjgcacnfobmiaa.make]
  kernel_rfl
theorem proved : Rows.FnExactSortGatherSaid :=
  OpenClaim.holds_of_wide 12 Try.f12 rfl rfl rfl rfl rfl rfl rfl ⟨rfl, rfl, rfl, rfl, rfl⟩ rfl rfl rfl rfl rfl (by kernel_rfl) Try.func12 closed
    (of_decide_eq_true (by kernel_rfl)) (by unfold Func.isWrapper; first | (rw [if_pos (by decide +kernel)]; kernel_rfl) | (rw [if_neg (by decide +kernel)]; exact ⟨rfl, rfl⟩))
    (fun os started H enc _ => lifted os started H enc)
end Go.Proofs.Ytnjgcacnfobmiaa.xSortGather
