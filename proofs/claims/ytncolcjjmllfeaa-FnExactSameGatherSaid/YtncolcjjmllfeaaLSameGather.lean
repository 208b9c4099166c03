/- The statement FnExactSameGather: for every input the law's function returns true, and each argument reads behind the call as it read before. No condition. -/
import Derived.Test.YtncolcjjmllfeaaRows
import Derived.Test.YtncolcjjmllfeaaWords
import Derived.Test.YtncolcjjmllfeaaGat
import Derived.Test.YtncolcjjmllfeaaOpen
import Derived.Test.YtncolcjjmllfeaaOpenB
import Derived.ProofKit
import Derived.OpenShut
import Derived.ChangeOld
import Derived.Deep.RegionHeld3
namespace Go.Proofs.Ytncolcjjmllfeaa.xSameGather
open Go.RowKit Go.ChangeShapes Go.WideShapes Go.ChangeAt
set_option maxRecDepth 100000
open Go.Proofs.Ytncolcjjmllfeaa
set_option linter.unusedVariables false

set_option maxRecDepth 100000 in
set_option maxHeartbeats 4000000 in
theorem walk (a0 : Int) (pa0 : Option Addr) (pc0 : Nat) (ps0 : List Nat) (ra0 : Option Addr) (rc0 : Nat) (rs0 : List (List Nat)) (a1 : Int) (pa1 : Option Addr) (pc1 : Nat) (ps1 : List Nat) (ra1 : Option Addr) (rc1 : Nat) (rs1 : List (List Nat)) (w : World) (hi0 : -9223372036854775808 ≤ a0 ∧ a0 ≤ 9223372036854775807) (hc0 : FR w pa0 ps0) (hr0 : RS w ra0 rs0) (hb0 : small ps0 rs0) (hv0 : bnd ps0 ∧ bndR rs0) (hi1 : -9223372036854775808 ≤ a1 ∧ a1 ≤ 9223372036854775807) (hc1 : FR w pa1 ps1) (hr1 : RS w ra1 rs1) (hb1 : small ps1 rs1) (hv1 : bnd ps1 ∧ bndR rs1) : Calls Try.prog 9 #[.agg #[.int .i64 a0, .slice pa0 ps0.length pc0, .slice ra0 rs0.length rc0], .agg #[.int .i64 a1, .slice pa1 ps1.length pc1, .slice ra1 rs1.length rc1]] w fun e w' => e = .returned (.bool true) ∧ Ext w w' := by
  have EW : Ext w ((w.alloc (.cells #[.int .i64 a0, .slice pa0 ps0.length pc0, .slice ra0 rs0.length rc0] 44)).alloc (.cells #[.int .i64 a1, .slice pa1 ps1.length pc1, .slice ra1 rs1.length rc1] 44)) := (((Ext.refl w).alloc _).alloc _)
  replace hc0 := hc0.ext EW
  replace hr0 := hr0.ext EW
  replace hc1 := hc1.ext EW
  replace hr1 := hr1.ext EW
  by_cases hl0 : ps0.length + (rs0.length + tot rs0) ≤ 1048576
  case neg =>
    have T : Ext ((w.alloc (.cells #[.int .i64 a0, .slice pa0 ps0.length pc0, .slice ra0 rs0.length rc0] 44)).alloc (.cells #[.int .i64 a1, .slice pa1 ps1.length pc1, .slice ra1 rs1.length rc1] 44)) ((w.alloc (.cells #[.int .i64 a0, .slice pa0 ps0.length pc0, .slice ra0 rs0.length rc0] 44)).alloc (.cells #[.int .i64 a1, .slice pa1 ps1.length pc1, .slice ra1 rs1.length rc1] 44)) := Ext.refl _
    go_enter Try.func9, Try.ntmps9
    have hbox0 : Cells _ (w.heap.size) #[.int .i64 a0, .slice pa0 ps0.length pc0, .slice ra0 rs0.length rc0] 44 := Cells.ext ((Cells.new w _ _).alloc _) T
    have hbox1 : Cells _ (w.heap.size + 1) #[.int .i64 a1, .slice pa1 ps1.length pc1, .slice ra1 rs1.length rc1] 44 := Cells.ext (Cells.new1 w _ _ _) T
    go_wp2_with (first | (refine wpList_load_row rfl _ _ rfl _ rfl _ _ _ _ hbox0 Try.underlying44 rfl infoLG ?_) | (refine wpList_load_row rfl _ _ rfl _ rfl _ _ _ _ hbox1 Try.underlying44 rfl infoLG ?_))
    clear hbox0
    clear hbox1
    go_at_call 41; have hq := szGather_no a0 pa0 pc0 ps0 ra0 rc0 rs0 (1048576) _ (hr0.ext T) hb0 (by omega) (by omega); refine hq.mono ?_; clear hq
    rintro _ _ ⟨rfl, E⟩
    replace T := Ext.trans T E
    clear E
    go_wp2_with fail
    go_ret
    exact ⟨rfl, Ext.trans EW T⟩
  by_cases hl1 : ps1.length + (rs1.length + tot rs1) ≤ 1048576 - (ps0.length + (rs0.length + tot rs0))
  case neg =>
    have T : Ext ((w.alloc (.cells #[.int .i64 a0, .slice pa0 ps0.length pc0, .slice ra0 rs0.length rc0] 44)).alloc (.cells #[.int .i64 a1, .slice pa1 ps1.length pc1, .slice ra1 rs1.length rc1] 44)) ((w.alloc (.cells #[.int .i64 a0, .slice pa0 ps0.length pc0, .slice ra0 rs0.length rc0] 44)).alloc (.cells #[.int .i64 a1, .slice pa1 ps1.length pc1, .slice ra1 rs1.length rc1] 44)) := Ext.refl _
    go_enter Try.func9, Try.ntmps9
    have hz0 : (0 : Int) ≤ 1048576 - (ps0.length : Int) - ((rs0.length : Int) + (tot rs0 : Int)) := by omega
    have hbox0 : Cells _ (w.heap.size) #[.int .i64 a0, .slice pa0 ps0.length pc0, .slice ra0 rs0.length rc0] 44 := Cells.ext ((Cells.new w _ _).alloc _) T
    have hbox1 : Cells _ (w.heap.size + 1) #[.int .i64 a1, .slice pa1 ps1.length pc1, .slice ra1 rs1.length rc1] 44 := Cells.ext (Cells.new1 w _ _ _) T
    go_wp2_with (first | (refine wpList_load_row rfl _ _ rfl _ rfl _ _ _ _ hbox0 Try.underlying44 rfl infoLG ?_) | (refine wpList_load_row rfl _ _ rfl _ rfl _ _ _ _ hbox1 Try.underlying44 rfl infoLG ?_))
    clear hbox0
    clear hbox1
    go_at_call 41; have hq := szGather_ok a0 pa0 pc0 ps0 ra0 rc0 rs0 (1048576) _ (hr0.ext T) hb0 (by omega) (by omega); refine hq.mono ?_; clear hq
    rintro _ Vz0 ⟨rfl, E⟩
    replace T := Ext.trans T E
    clear E
    have hbox0 : Cells _ (w.heap.size) #[.int .i64 a0, .slice pa0 ps0.length pc0, .slice ra0 rs0.length rc0] 44 := Cells.ext ((Cells.new w _ _).alloc _) T
    have hbox1 : Cells _ (w.heap.size + 1) #[.int .i64 a1, .slice pa1 ps1.length pc1, .slice ra1 rs1.length rc1] 44 := Cells.ext (Cells.new1 w _ _ _) T
    go_wp2_with (first | (refine wpList_load_row rfl _ _ rfl _ rfl _ _ _ _ hbox0 Try.underlying44 rfl infoLG ?_) | (refine wpList_load_row rfl _ _ rfl _ rfl _ _ _ _ hbox1 Try.underlying44 rfl infoLG ?_))
    clear hbox0
    clear hbox1
    go_at_call 41; have hq := szGather_no a1 pa1 pc1 ps1 ra1 rc1 rs1 (1048576 - (ps0.length : Int) - ((rs0.length : Int) + (tot rs0 : Int))) _ (hr1.ext T) hb1 (by omega) (by omega); refine hq.mono ?_; clear hq
    rintro _ _ ⟨rfl, E⟩
    replace T := Ext.trans T E
    clear E
    go_wp2_with fail
    go_ret
    exact ⟨rfl, Ext.trans EW T⟩
  have T : Ext ((w.alloc (.cells #[.int .i64 a0, .slice pa0 ps0.length pc0, .slice ra0 rs0.length rc0] 44)).alloc (.cells #[.int .i64 a1, .slice pa1 ps1.length pc1, .slice ra1 rs1.length rc1] 44)) ((w.alloc (.cells #[.int .i64 a0, .slice pa0 ps0.length pc0, .slice ra0 rs0.length rc0] 44)).alloc (.cells #[.int .i64 a1, .slice pa1 ps1.length pc1, .slice ra1 rs1.length rc1] 44)) := Ext.refl _
  go_enter Try.func9, Try.ntmps9
  have hz0 : (0 : Int) ≤ 1048576 - (ps0.length : Int) - ((rs0.length : Int) + (tot rs0 : Int)) := by omega
  have hbox0 : Cells _ (w.heap.size) #[.int .i64 a0, .slice pa0 ps0.length pc0, .slice ra0 rs0.length rc0] 44 := Cells.ext ((Cells.new w _ _).alloc _) T
  have hbox1 : Cells _ (w.heap.size + 1) #[.int .i64 a1, .slice pa1 ps1.length pc1, .slice ra1 rs1.length rc1] 44 := Cells.ext (Cells.new1 w _ _ _) T
  go_wp2_with (first | (refine wpList_load_row rfl _ _ rfl _ rfl _ _ _ _ hbox0 Try.underlying44 rfl infoLG ?_) | (refine wpList_load_row rfl _ _ rfl _ rfl _ _ _ _ hbox1 Try.underlying44 rfl infoLG ?_))
  clear hbox0
  clear hbox1
  go_at_call 41; have hq := szGather_ok a0 pa0 pc0 ps0 ra0 rc0 rs0 (1048576) _ (hr0.ext T) hb0 (by omega) (by omega); refine hq.mono ?_; clear hq
  rintro _ Vz0 ⟨rfl, E⟩
  replace T := Ext.trans T E
  clear E
  have hz1 : (0 : Int) ≤ 1048576 - (ps0.length : Int) - ((rs0.length : Int) + (tot rs0 : Int)) - (ps1.length : Int) - ((rs1.length : Int) + (tot rs1 : Int)) := by omega
  have hbox0 : Cells _ (w.heap.size) #[.int .i64 a0, .slice pa0 ps0.length pc0, .slice ra0 rs0.length rc0] 44 := Cells.ext ((Cells.new w _ _).alloc _) T
  have hbox1 : Cells _ (w.heap.size + 1) #[.int .i64 a1, .slice pa1 ps1.length pc1, .slice ra1 rs1.length rc1] 44 := Cells.ext (Cells.new1 w _ _ _) T
  go_wp2_with (first | (refine wpList_load_row rfl _ _ rfl _ rfl _ _ _ _ hbox0 Try.underlying44 rfl infoLG ?_) | (refine wpList_load_row rfl _ _ rfl _ rfl _ _ _ _ hbox1 Try.underlying44 rfl infoLG ?_))
  clear hbox0
  clear hbox1
  go_at_call 41; have hq := szGather_ok a1 pa1 pc1 ps1 ra1 rc1 rs1 (1048576 - (ps0.length : Int) - ((rs0.length : Int) + (tot rs0 : Int))) _ (hr1.ext T) hb1 (by omega) (by omega); refine hq.mono ?_; clear hq
  rintro _ Vz1 ⟨rfl, E⟩
  replace T := Ext.trans T E
  clear E
  replace hl1 : ps1.length + (rs1.length + tot rs1) ≤ 1048576 := by omega
  have hbox0 : Cells _ (w.heap.size) #[.int .i64 a0, .slice pa0 ps0.length pc0, .slice ra0 rs0.length rc0] 44 := Cells.ext ((Cells.new w _ _).alloc _) T
  have hbox1 : Cells _ (w.heap.size + 1) #[.int .i64 a1, .slice pa1 ps1.length pc1, .slice ra1 rs1.length rc1] 44 := Cells.ext (Cells.new1 w _ _ _) T
  have q0 := hbox0.at 0
  have q1 := hbox0.at 1
  have q2 := hbox0.at 2
  have q3 := hbox1.at 0
  have q4 := hbox1.at 1
  have q5 := hbox1.at 2
  simp only [List.getElem?_toArray, List.getElem?_cons_succ, List.getElem?_cons_zero] at q0 q1 q2 q3 q4 q5
  have S6 : ∀ w', Ext Vz1 w' → (Ext Vz1 w' ∧ w'.cell? ⟨w.heap.size, 0, none⟩ = some (.int .i64 a0) ∧ w'.cell? ⟨w.heap.size, 1, none⟩ = some (.slice pa0 ps0.length pc0) ∧ w'.cell? ⟨w.heap.size, 2, none⟩ = some (.slice ra0 rs0.length rc0) ∧ w'.cell? ⟨w.heap.size + 1, 0, none⟩ = some (.int .i64 a1) ∧ w'.cell? ⟨w.heap.size + 1, 1, none⟩ = some (.slice pa1 ps1.length pc1) ∧ w'.cell? ⟨w.heap.size + 1, 2, none⟩ = some (.slice ra1 rs1.length rc1)) := fun w' h => ⟨h, h.cell q0, h.cell q1, h.cell q2, h.cell q3, h.cell q4, h.cell q5⟩
  go_wp2_with (first | (refine wpList_load_row rfl _ _ rfl _ rfl _ _ _ _ hbox0 Try.underlying44 rfl infoLG ?_) | (refine wpList_load_row rfl _ _ rfl _ rfl _ _ _ _ hbox1 Try.underlying44 rfl infoLG ?_))
  go_region_held3 (fun w' => Ext Vz1 w' ∧ w'.cell? ⟨w.heap.size, 0, none⟩ = some (.int .i64 a0) ∧ w'.cell? ⟨w.heap.size, 1, none⟩ = some (.slice pa0 ps0.length pc0) ∧ w'.cell? ⟨w.heap.size, 2, none⟩ = some (.slice ra0 rs0.length rc0) ∧ w'.cell? ⟨w.heap.size + 1, 0, none⟩ = some (.int .i64 a1) ∧ w'.cell? ⟨w.heap.size + 1, 1, none⟩ = some (.slice pa1 ps1.length pc1) ∧ w'.cell? ⟨w.heap.size + 1, 2, none⟩ = some (.slice ra1 rs1.length rc1))
    (first | (refine S6 _ ?_; repeat (first | assumption | exact Ext.refl _ | apply Ext.drewN | (refine Ext.trans (by assumption) ?_))))
    (first
      | ((have hO := O_c2); go_at_call 43; refine (toGather_any _ _ _ _ _ _ _ _ (hc1.ext (T.trans (by repeat (first | assumption | exact Ext.refl _ | apply Ext.drewN | (refine Ext.trans (by assumption) ?_))))) (hr1.ext (T.trans (by repeat (first | assumption | exact Ext.refl _ | apply Ext.drewN | (refine Ext.trans (by assumption) ?_))))) hl1).mono ?_; rintro _ W_c3 ⟨pv, rv, vs_c3, rfl, E, O_c3⟩; (have E' : Ext Vz1 W_c3 := Ext.trans (by repeat (first | assumption | exact Ext.refl _ | apply Ext.drewN | (refine Ext.trans (by assumption) ?_))) E); obtain ⟨⟨ap_c3, cp_c3, rfl, _⟩, ⟨ar_c3, cr_c3, rfl, _⟩⟩ := OwnG.fr O_c3)
      | (go_at_call 43; refine (toGather_any _ _ _ _ _ _ _ _ (hc0.ext (T.trans (by repeat (first | assumption | exact Ext.refl _ | apply Ext.drewN | (refine Ext.trans (by assumption) ?_))))) (hr0.ext (T.trans (by repeat (first | assumption | exact Ext.refl _ | apply Ext.drewN | (refine Ext.trans (by assumption) ?_))))) hl0).mono ?_; rintro _ W_c2 ⟨pv, rv, vs_c2, rfl, E, O_c2⟩; (have E' : Ext Vz1 W_c2 := Ext.trans (by repeat (first | assumption | exact Ext.refl _ | apply Ext.drewN | (refine Ext.trans (by assumption) ?_))) E); obtain ⟨⟨ap_c2, cp_c2, rfl, _⟩, ⟨ar_c2, cr_c2, rfl, _⟩⟩ := OwnG.fr O_c2)
      | (go_at_call 42; refine (specSame_any _ _ _ _ _ _ _ _ _ _ _ _ _ _ _ ((OwnG.fp O_c2).ext (by repeat (first | assumption | exact Ext.refl _ | apply Ext.drewN | (refine Ext.trans (by assumption) ?_)))) ((OwnG.fs O_c2).ext (by repeat (first | assumption | exact Ext.refl _ | apply Ext.drewN | (refine Ext.trans (by assumption) ?_)))) hl0 ((OwnG.fp O_c3).ext (by repeat (first | assumption | exact Ext.refl _ | apply Ext.drewN | (refine Ext.trans (by assumption) ?_)))) ((OwnG.fs O_c3).ext (by repeat (first | assumption | exact Ext.refl _ | apply Ext.drewN | (refine Ext.trans (by assumption) ?_)))) hl1 hv0.1 hv0.2 hv1.1 hv1.2).mono ?_; rintro _ V1 ⟨rfl, E2⟩; (have E2' : Ext Vz1 V1 := Ext.trans (by repeat (first | assumption | exact Ext.refl _ | apply Ext.drewN | (refine Ext.trans (by assumption) ?_))) E2)))
  replace T := Ext.trans T E2'
  clear E2' S6 q0 q1 q2 q3 q4 q5 hbox0 hbox1
  have hbox0 : Cells _ (w.heap.size) #[.int .i64 a0, .slice pa0 ps0.length pc0, .slice ra0 rs0.length rc0] 44 := Cells.ext ((Cells.new w _ _).alloc _) T
  have hbox1 : Cells _ (w.heap.size + 1) #[.int .i64 a1, .slice pa1 ps1.length pc1, .slice ra1 rs1.length rc1] 44 := Cells.ext (Cells.new1 w _ _ _) T
  go_wp2_with (first | (refine wpList_load_row rfl _ _ rfl _ rfl _ _ _ _ hbox0 Try.underlying44 rfl infoLG ?_) | (refine wpList_load_row rfl _ _ rfl _ rfl _ _ _ _ hbox1 Try.underlying44 rfl infoLG ?_))
  clear hbox0
  clear hbox1
  go_at_call 43; refine (toGather_any _ _ _ _ _ _ _ _ (by exact hc0.ext T) (by exact hr0.ext T) hl0).mono ?_
  rintro _ W_x0 ⟨pv, rv, vs_x0, rfl, E, O_x0⟩
  obtain ⟨⟨ap_x0, cp_x0, rfl, _⟩, ⟨ar_x0, cr_x0, rfl, _⟩⟩ := OwnG.fr O_x0
  replace O_x0 := OwnG.mono O_x0 T.size
  replace T := Ext.trans (by repeat (first | exact T | apply Ext.drewN)) E
  clear E
  have E := (Ext.refl W_x0).alloc (.cells #[.int .i64 a0, .slice ap_x0 ps0.length cp_x0, .slice ar_x0 rs0.length cr_x0] 47)
  have O_bx0 := OwnC.new W_x0 #[.int .i64 a0, .slice ap_x0 ps0.length cp_x0, .slice ar_x0 rs0.length cr_x0] 47
  have D_x0_bx0 : ∀ k, gB (.slice ap_x0 ps0.length cp_x0) (.slice ar_x0 rs0.length cr_x0) vs_x0 k → ¬ (k = W_x0.heap.size) := by intro k hk hy; have h1 := OwnG.lt O_x0 k hk; have h2 := OwnC.lt O_bx0 k hy; omega
  replace O_x0 := OwnG.ext (by exact O_x0) E
  replace O_bx0 := OwnC.mono O_bx0 T.size
  replace T := Ext.trans (by repeat (first | exact T | apply Ext.drewN)) E
  clear E
  have hbox0 : Cells _ (w.heap.size) #[.int .i64 a0, .slice pa0 ps0.length pc0, .slice ra0 rs0.length rc0] 44 := Cells.ext ((Cells.new w _ _).alloc _) T
  have hbox1 : Cells _ (w.heap.size + 1) #[.int .i64 a1, .slice pa1 ps1.length pc1, .slice ra1 rs1.length rc1] 44 := Cells.ext (Cells.new1 w _ _ _) T
  go_wp2_with (first | (refine wpList_load_row rfl _ _ rfl _ rfl _ _ _ _ hbox0 Try.underlying44 rfl infoLG ?_) | (refine wpList_load_row rfl _ _ rfl _ rfl _ _ _ _ hbox1 Try.underlying44 rfl infoLG ?_) | (refine wpList_load_row rfl _ _ rfl _ rfl _ _ _ _ (OwnC.cells O_bx0) Try.underlying47 rfl infoG ?_))
  clear hbox0
  clear hbox1
  go_at_call 43; refine (toGather_any _ _ _ _ _ _ _ _ (by exact hc1.ext T) (by exact hr1.ext T) hl1).mono ?_
  rintro _ W_x1 ⟨pv, rv, vs_x1, rfl, E, O_x1⟩
  obtain ⟨⟨ap_x1, cp_x1, rfl, _⟩, ⟨ar_x1, cr_x1, rfl, _⟩⟩ := OwnG.fr O_x1
  have D_x0_x1 : ∀ k, gB (.slice ap_x0 ps0.length cp_x0) (.slice ar_x0 rs0.length cr_x0) vs_x0 k → ¬ (gB (.slice ap_x1 ps1.length cp_x1) (.slice ar_x1 rs1.length cr_x1) vs_x1 k) := by intro k hk hy; have h1 := OwnG.lt O_x0 k hk; have h2 := OwnG.lt O_x1 k hy; omega
  have D_bx0_x1 : ∀ k, k = W_x0.heap.size → ¬ (gB (.slice ap_x1 ps1.length cp_x1) (.slice ar_x1 rs1.length cr_x1) vs_x1 k) := by intro k hk hy; have h1 := OwnC.lt O_bx0 k hk; have h2 := OwnG.lt O_x1 k hy; omega
  replace O_x0 := OwnG.ext (by exact O_x0) E
  replace O_bx0 := OwnC.ext (by exact O_bx0) E
  replace O_x1 := OwnG.mono O_x1 T.size
  replace T := Ext.trans (by repeat (first | exact T | apply Ext.drewN)) E
  clear E
  have E := (Ext.refl W_x1).alloc (.cells #[.int .i64 a1, .slice ap_x1 ps1.length cp_x1, .slice ar_x1 rs1.length cr_x1] 47)
  have O_bx1 := OwnC.new W_x1 #[.int .i64 a1, .slice ap_x1 ps1.length cp_x1, .slice ar_x1 rs1.length cr_x1] 47
  have D_x0_bx1 : ∀ k, gB (.slice ap_x0 ps0.length cp_x0) (.slice ar_x0 rs0.length cr_x0) vs_x0 k → ¬ (k = W_x1.heap.size) := by intro k hk hy; have h1 := OwnG.lt O_x0 k hk; have h2 := OwnC.lt O_bx1 k hy; omega
  have D_bx0_bx1 : ∀ k, k = W_x0.heap.size → ¬ (k = W_x1.heap.size) := by intro k hk hy; have h1 := OwnC.lt O_bx0 k hk; have h2 := OwnC.lt O_bx1 k hy; omega
  have D_x1_bx1 : ∀ k, gB (.slice ap_x1 ps1.length cp_x1) (.slice ar_x1 rs1.length cr_x1) vs_x1 k → ¬ (k = W_x1.heap.size) := by intro k hk hy; have h1 := OwnG.lt O_x1 k hk; have h2 := OwnC.lt O_bx1 k hy; omega
  replace O_x0 := OwnG.ext (by exact O_x0) E
  replace O_bx0 := OwnC.ext (by exact O_bx0) E
  replace O_x1 := OwnG.ext (by exact O_x1) E
  replace O_bx1 := OwnC.mono O_bx1 T.size
  replace T := Ext.trans (by repeat (first | exact T | apply Ext.drewN)) E
  clear E
  have hbox0 : Cells _ (w.heap.size) #[.int .i64 a0, .slice pa0 ps0.length pc0, .slice ra0 rs0.length rc0] 44 := Cells.ext ((Cells.new w _ _).alloc _) T
  have hbox1 : Cells _ (w.heap.size + 1) #[.int .i64 a1, .slice pa1 ps1.length pc1, .slice ra1 rs1.length rc1] 44 := Cells.ext (Cells.new1 w _ _ _) T
  go_wp2_with (first | (refine wpList_load_row rfl _ _ rfl _ rfl _ _ _ _ hbox0 Try.underlying44 rfl infoLG ?_) | (refine wpList_load_row rfl _ _ rfl _ rfl _ _ _ _ hbox1 Try.underlying44 rfl infoLG ?_) | (refine wpList_load_row rfl _ _ rfl _ rfl _ _ _ _ (OwnC.cells O_bx0) Try.underlying47 rfl infoG ?_) | (refine wpList_load_row rfl _ _ rfl _ rfl _ _ _ _ (OwnC.cells O_bx1) Try.underlying47 rfl infoG ?_))
  clear hbox0
  clear hbox1
  refine (implSame_any _ _ _ _ _ _ _ _ _ _ _ _ _ _ _ (by exact OwnG.fp O_x0) (by exact OwnG.fs O_x0) hl0 (by exact OwnG.fp O_x1) (by exact OwnG.fs O_x1) hl1 hv0.1 hv0.2 hv1.1 hv1.2).mono ?_
  rintro _ V4 ⟨rfl, E⟩
  replace O_x0 := OwnG.ext (by exact O_x0) E
  replace O_bx0 := OwnC.ext (by exact O_bx0) E
  replace O_x1 := OwnG.ext (by exact O_x1) E
  replace O_bx1 := OwnC.ext (by exact O_bx1) E
  replace T := Ext.trans (by repeat (first | exact T | apply Ext.drewN)) E
  clear E
  have hbox0 : Cells _ (w.heap.size) #[.int .i64 a0, .slice pa0 ps0.length pc0, .slice ra0 rs0.length rc0] 44 := Cells.ext ((Cells.new w _ _).alloc _) T
  have hbox1 : Cells _ (w.heap.size + 1) #[.int .i64 a1, .slice pa1 ps1.length pc1, .slice ra1 rs1.length rc1] 44 := Cells.ext (Cells.new1 w _ _ _) T
  have hx := OwnC.cells O_bx0
  have q0 := hbox0.at 0
  have q1 := hbox0.at 1
  have q2 := hbox0.at 2
  have q3 := hx.at 0
  have q4 := hx.at 1
  have q5 := hx.at 2
  simp only [List.getElem?_toArray, List.getElem?_cons_succ, List.getElem?_cons_zero] at q0 q1 q2 q3 q4 q5
  have S6 : ∀ w', Ext V4 w' → (Ext V4 w' ∧ w'.cell? ⟨w.heap.size, 0, none⟩ = some (.int .i64 a0) ∧ w'.cell? ⟨w.heap.size, 1, none⟩ = some (.slice pa0 ps0.length pc0) ∧ w'.cell? ⟨w.heap.size, 2, none⟩ = some (.slice ra0 rs0.length rc0) ∧ w'.cell? ⟨W_x0.heap.size, 0, none⟩ = some (.int .i64 a0) ∧ w'.cell? ⟨W_x0.heap.size, 1, none⟩ = some (.slice ap_x0 ps0.length cp_x0) ∧ w'.cell? ⟨W_x0.heap.size, 2, none⟩ = some (.slice ar_x0 rs0.length cr_x0)) := fun w' h => ⟨h, h.cell q0, h.cell q1, h.cell q2, h.cell q3, h.cell q4, h.cell q5⟩
  go_wp2_with (first | (refine wpList_load_row rfl _ _ rfl _ rfl _ _ _ _ hbox0 Try.underlying44 rfl infoLG ?_) | (refine wpList_load_row rfl _ _ rfl _ rfl _ _ _ _ hbox1 Try.underlying44 rfl infoLG ?_) | (refine wpList_load_row rfl _ _ rfl _ rfl _ _ _ _ (OwnC.cells O_bx0) Try.underlying47 rfl infoG ?_) | (refine wpList_load_row rfl _ _ rfl _ rfl _ _ _ _ (OwnC.cells O_bx1) Try.underlying47 rfl infoG ?_))
  go_region_held3 (fun w' => Ext V4 w' ∧ w'.cell? ⟨w.heap.size, 0, none⟩ = some (.int .i64 a0) ∧ w'.cell? ⟨w.heap.size, 1, none⟩ = some (.slice pa0 ps0.length pc0) ∧ w'.cell? ⟨w.heap.size, 2, none⟩ = some (.slice ra0 rs0.length rc0) ∧ w'.cell? ⟨W_x0.heap.size, 0, none⟩ = some (.int .i64 a0) ∧ w'.cell? ⟨W_x0.heap.size, 1, none⟩ = some (.slice ap_x0 ps0.length cp_x0) ∧ w'.cell? ⟨W_x0.heap.size, 2, none⟩ = some (.slice ar_x0 rs0.length cr_x0))
    (first | (refine S6 _ ?_; repeat (first | assumption | exact Ext.refl _ | apply Ext.drewN | (refine Ext.trans (by assumption) ?_))))
    (first
      | (go_at_call 43; refine (toGather_any _ _ _ _ _ _ _ _ (hc0.ext (T.trans (by repeat (first | assumption | exact Ext.refl _ | apply Ext.drewN | (refine Ext.trans (by assumption) ?_))))) (hr0.ext (T.trans (by repeat (first | assumption | exact Ext.refl _ | apply Ext.drewN | (refine Ext.trans (by assumption) ?_))))) hl0).mono ?_; rintro _ W_c5 ⟨pv, rv, vs_c5, rfl, E, O_c5⟩; (have E' : Ext V4 W_c5 := Ext.trans (by repeat (first | assumption | exact Ext.refl _ | apply Ext.drewN | (refine Ext.trans (by assumption) ?_))) E); obtain ⟨⟨ap_c5, cp_c5, rfl, _⟩, ⟨ar_c5, cr_c5, rfl, _⟩⟩ := OwnG.fr O_c5)
      | (go_at_call 45; refine (eqGather_yes _ _ _ _ _ _ _ _ _ _ _ _ _ _ ((OwnG.fp O_x0).ext (by repeat (first | assumption | exact Ext.refl _ | apply Ext.drewN | (refine Ext.trans (by assumption) ?_)))) ((OwnG.fs O_x0).ext (by repeat (first | assumption | exact Ext.refl _ | apply Ext.drewN | (refine Ext.trans (by assumption) ?_)))) ((OwnG.fp O_c5).ext (by repeat (first | assumption | exact Ext.refl _ | apply Ext.drewN | (refine Ext.trans (by assumption) ?_)))) ((OwnG.fs O_c5).ext (by repeat (first | assumption | exact Ext.refl _ | apply Ext.drewN | (refine Ext.trans (by assumption) ?_)))) rfl rfl hl0).mono ?_; rintro _ V6 ⟨rfl, E2⟩; (have E2' : Ext V4 V6 := Ext.trans (by repeat (first | assumption | exact Ext.refl _ | apply Ext.drewN | (refine Ext.trans (by assumption) ?_))) E2)))
  replace O_x0 := OwnG.ext (by exact O_x0) E2'
  replace O_bx0 := OwnC.ext (by exact O_bx0) E2'
  replace O_x1 := OwnG.ext (by exact O_x1) E2'
  replace O_bx1 := OwnC.ext (by exact O_bx1) E2'
  replace T := Ext.trans T E2'
  clear E2' E2 E' E S6 hx q0 q1 q2 q3 q4 q5 hbox0 hbox1
  have hbox0 : Cells _ (w.heap.size) #[.int .i64 a0, .slice pa0 ps0.length pc0, .slice ra0 rs0.length rc0] 44 := Cells.ext ((Cells.new w _ _).alloc _) T
  have hbox1 : Cells _ (w.heap.size + 1) #[.int .i64 a1, .slice pa1 ps1.length pc1, .slice ra1 rs1.length rc1] 44 := Cells.ext (Cells.new1 w _ _ _) T
  have hx := OwnC.cells O_bx1
  have q0 := hbox1.at 0
  have q1 := hbox1.at 1
  have q2 := hbox1.at 2
  have q3 := hx.at 0
  have q4 := hx.at 1
  have q5 := hx.at 2
  simp only [List.getElem?_toArray, List.getElem?_cons_succ, List.getElem?_cons_zero] at q0 q1 q2 q3 q4 q5
  have S6 : ∀ w', Ext V6 w' → (Ext V6 w' ∧ w'.cell? ⟨w.heap.size + 1, 0, none⟩ = some (.int .i64 a1) ∧ w'.cell? ⟨w.heap.size + 1, 1, none⟩ = some (.slice pa1 ps1.length pc1) ∧ w'.cell? ⟨w.heap.size + 1, 2, none⟩ = some (.slice ra1 rs1.length rc1) ∧ w'.cell? ⟨W_x1.heap.size, 0, none⟩ = some (.int .i64 a1) ∧ w'.cell? ⟨W_x1.heap.size, 1, none⟩ = some (.slice ap_x1 ps1.length cp_x1) ∧ w'.cell? ⟨W_x1.heap.size, 2, none⟩ = some (.slice ar_x1 rs1.length cr_x1)) := fun w' h => ⟨h, h.cell q0, h.cell q1, h.cell q2, h.cell q3, h.cell q4, h.cell q5⟩
  go_wp2_with (first | (refine wpList_load_row rfl _ _ rfl _ rfl _ _ _ _ hbox0 Try.underlying44 rfl infoLG ?_) | (refine wpList_load_row rfl _ _ rfl _ rfl _ _ _ _ hbox1 Try.underlying44 rfl infoLG ?_) | (refine wpList_load_row rfl _ _ rfl _ rfl _ _ _ _ (OwnC.cells O_bx0) Try.underlying47 rfl infoG ?_) | (refine wpList_load_row rfl _ _ rfl _ rfl _ _ _ _ (OwnC.cells O_bx1) Try.underlying47 rfl infoG ?_))
  go_region_held3 (fun w' => Ext V6 w' ∧ w'.cell? ⟨w.heap.size + 1, 0, none⟩ = some (.int .i64 a1) ∧ w'.cell? ⟨w.heap.size + 1, 1, none⟩ = some (.slice pa1 ps1.length pc1) ∧ w'.cell? ⟨w.heap.size + 1, 2, none⟩ = some (.slice ra1 rs1.length rc1) ∧ w'.cell? ⟨W_x1.heap.size, 0, none⟩ = some (.int .i64 a1) ∧ w'.cell? ⟨W_x1.heap.size, 1, none⟩ = some (.slice ap_x1 ps1.length cp_x1) ∧ w'.cell? ⟨W_x1.heap.size, 2, none⟩ = some (.slice ar_x1 rs1.length cr_x1))
    (first | (refine S6 _ ?_; repeat (first | assumption | exact Ext.refl _ | apply Ext.drewN | (refine Ext.trans (by assumption) ?_))))
    (first
      | (go_at_call 43; refine (toGather_any _ _ _ _ _ _ _ _ (hc1.ext (T.trans (by repeat (first | assumption | exact Ext.refl _ | apply Ext.drewN | (refine Ext.trans (by assumption) ?_))))) (hr1.ext (T.trans (by repeat (first | assumption | exact Ext.refl _ | apply Ext.drewN | (refine Ext.trans (by assumption) ?_))))) hl1).mono ?_; rintro _ W_c7 ⟨pv, rv, vs_c7, rfl, E, O_c7⟩; (have E' : Ext V6 W_c7 := Ext.trans (by repeat (first | assumption | exact Ext.refl _ | apply Ext.drewN | (refine Ext.trans (by assumption) ?_))) E); obtain ⟨⟨ap_c7, cp_c7, rfl, _⟩, ⟨ar_c7, cr_c7, rfl, _⟩⟩ := OwnG.fr O_c7)
      | (go_at_call 45; refine (eqGather_yes _ _ _ _ _ _ _ _ _ _ _ _ _ _ ((OwnG.fp O_x1).ext (by repeat (first | assumption | exact Ext.refl _ | apply Ext.drewN | (refine Ext.trans (by assumption) ?_)))) ((OwnG.fs O_x1).ext (by repeat (first | assumption | exact Ext.refl _ | apply Ext.drewN | (refine Ext.trans (by assumption) ?_)))) ((OwnG.fp O_c7).ext (by repeat (first | assumption | exact Ext.refl _ | apply Ext.drewN | (refine Ext.trans (by assumption) ?_)))) ((OwnG.fs O_c7).ext (by repeat (first | assumption | exact Ext.refl _ | apply Ext.drewN | (refine Ext.trans (by assumption) ?_)))) rfl rfl hl1).mono ?_; rintro _ V8 ⟨rfl, E2⟩; (have E2' : Ext V6 V8 := Ext.trans (by repeat (first | assumption | exact Ext.refl _ | apply Ext.drewN | (refine Ext.trans (by assumption) ?_))) E2)))
  replace O_x0 := OwnG.ext (by exact O_x0) E2'
  replace O_bx0 := OwnC.ext (by exact O_bx0) E2'
  replace O_x1 := OwnG.ext (by exact O_x1) E2'
  replace O_bx1 := OwnC.ext (by exact O_bx1) E2'
  replace T := Ext.trans T E2'
  clear E2' E2 E' E S6 hx q0 q1 q2 q3 q4 q5 hbox0 hbox1
  have hbox0 : Cells _ (w.heap.size) #[.int .i64 a0, .slice pa0 ps0.length pc0, .slice ra0 rs0.length rc0] 44 := Cells.ext ((Cells.new w _ _).alloc _) T
  have hbox1 : Cells _ (w.heap.size + 1) #[.int .i64 a1, .slice pa1 ps1.length pc1, .slice ra1 rs1.length rc1] 44 := Cells.ext (Cells.new1 w _ _ _) T
  go_wp2_with (first | (refine wpList_load_row rfl _ _ rfl _ rfl _ _ _ _ hbox0 Try.underlying44 rfl infoLG ?_) | (refine wpList_load_row rfl _ _ rfl _ rfl _ _ _ _ hbox1 Try.underlying44 rfl infoLG ?_) | (refine wpList_load_row rfl _ _ rfl _ rfl _ _ _ _ (OwnC.cells O_bx0) Try.underlying47 rfl infoG ?_) | (refine wpList_load_row rfl _ _ rfl _ rfl _ _ _ _ (OwnC.cells O_bx1) Try.underlying47 rfl infoG ?_))
  clear hbox0
  clear hbox1
  go_ret
  exact ⟨rfl, Ext.trans EW T⟩

set_option maxRecDepth 100000 in
theorem lifted (os : Os) (started : os.Started) (H : Type) (enc : TypeId × Value → H) :
    ReturnsInHanded {} Try.checked os 9 .any (Rows.fnExactSameGatherSpec.pre6 enc Try.prog Try.f9 Rows.fnExactSameGatherRow.domain false) (Rows.fnExactSameGatherSpec.post enc Try.prog Try.f9 false true false false) := by
  refine returnsInHanded_of_change (C := Try.checked) own started (by kernel_rfl) Try.func9
    (ChangeSpec.witness6 (enc := enc) (C := Try.checked) false ⟨#[], #[.agg #[.int .i64 0, .slice none 0 0, .slice none 0 0], .agg #[.int .i64 0, .slice none 0 0, .slice none 0 0]], []⟩ 8 (by kernel_rfl) (by kernel_rfl) (by kernel_rfl) (by kernel_rfl)) ?_
  intro W base args ds gs before hval0 hW hcnd _
  have hval : ∀ (j : Nat) t v, Try.f9.params[j]? = some t → args[j]? = some v → Value.okWide Try.prog W .any base t v := hval0
  have hW' := hW
  obtain ⟨p, q, hA0, hV, rfl, hfz, hnd⟩ := hW
  have hA : DataW.TrodAll enc Try.prog W 0 (fun _ => true) true Try.f9.params.toList args.toList ds p := hA0
  rw [Try.params9] at hA hval
  obtain ⟨v0, vs0, d0, ds0, p0, q0, hargs, rfl, rfl, h0, r0⟩ := trodAll_cons hA
  obtain ⟨v1, vs1, d1, ds1, p1, q1, rfl, rfl, rfl, h1, r1⟩ := trodAll_cons r0
  obtain ⟨rfl, rfl, rfl⟩ := trodAll_nil r1
  obtain rfl : args = #[v0, v1] := by cases args; simp_all
  obtain ⟨rfl, rfl⟩ := trodVars_none hV
  have k0 := h0
  have lt0 : ∀ x ∈ p0, x.block < W.heap.size := by obtain ⟨m, hm⟩ := k0; exact DataW.trod_lt m _ _ _ hm
  obtain ⟨a0, pa0, pc0, ps0, ra0, rc0, rs0, rfl, hi0, hc0, hr0, hb0, hv0⟩ := open_gatherB h0
  have k1 := h1
  have lt1 : ∀ x ∈ p1, x.block < W.heap.size := by obtain ⟨m, hm⟩ := k1; exact DataW.trod_lt m _ _ _ hm
  obtain ⟨a1, pa1, pc1, ps1, ra1, rc1, rs1, rfl, hi1, hc1, hr1, hb1, hv1⟩ := open_gatherB h1
  clear hA0 hval0
  refine (walk a0 pa0 pc0 ps0 ra0 rc0 rs0 a1 pa1 pc1 ps1 ra1 rc1 rs1 W hi0 hc0 hr0 hb0 hv0 hi1 hc1 hr1 hb1 hv1).mono fun e W' ⟨he, bel⟩ => ?_
  subst he
  exact ⟨_, rfl, _, _, _, [], _, [], hW', trodAll_mk1 (shut_bool Try.underlying4 _), (trodAll_cons_mk (Below.trod laidOut (by kernel_rfl) (of_decide_eq_true (by kernel_rfl)) k0 bel lt0) (trodAll_cons_mk (Below.trod laidOut (by kernel_rfl) (of_decide_eq_true (by kernel_rfl)) k1 bel lt1) trodAll_mk0)), rfl, Below.frame (show Below W.heap.size W W' from bel) _, fun h => by cases h⟩
theorem closed : joinedFacts Try.prog 9 Try.f9 Rows.fnExactSameGatherSpec Rows.fnExactSameGatherRow = true := by
  unfold joinedFacts
  rw [Go.Proofs.Ytncolcjjmllfeaa.mayEnter, Go.Proofs.Ytncolcjjmllfeaa.liftsFinal, Go.Proofs.Ytncolcjjmllfeaa.make]
  kernel_rfl
theorem proved : Rows.FnExactSameGatherSaid :=
  OpenClaim.holds_of_wide 9 Try.f9 rfl rfl rfl rfl rfl rfl rfl ⟨rfl, rfl, rfl, rfl, rfl⟩ rfl rfl rfl rfl rfl (by kernel_rfl) Try.func9 closed
    (of_decide_eq_true (by kernel_rfl)) (by unfold Func.isWrapper; first | (rw [if_pos (by decide +kernel)]; kernel_rfl) | (rw [if_neg (by decide +kernel)]; exact ⟨rfl, rfl⟩))
    (fun os started H enc _ => lifted os started H enc)
end Go.Proofs.Ytncolcjjmllfeaa.xSameGather
