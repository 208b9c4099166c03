/- The statement FnExactLiveStack: for every input the law's function returns true, and each argument reads behind the call as it read before. No condition. -/
import Derived.Test.YtncolcjjmllfeaaRows
import Derived.Test.YtncolcjjmllfeaaWords
import Derived.Test.YtncolcjjmllfeaaGat
import Derived.Test.YtncolcjjmllfeaaOpen
import Derived.Test.YtncolcjjmllfeaaFLive
import Derived.ProofKit
import Derived.OpenShut
import Derived.ChangeOld
import Derived.Deep.RegionHeld3
namespace Go.Proofs.Ytncolcjjmllfeaa.xLiveStack
open Go.RowKit Go.ChangeShapes Go.WideShapes Go.ChangeAt
set_option maxRecDepth 100000
open Go.Proofs.Ytncolcjjmllfeaa
set_option linter.unusedVariables false

set_option maxRecDepth 100000 in
set_option maxHeartbeats 4000000 in
theorem walk (a0 : Int) (pa0 : Option Addr) (pc0 : Nat) (ps0 : List Nat) (ra0 : Option Addr) (rc0 : Nat) (rs0 : List (List Nat)) (w : World) (hi0 : -9223372036854775808 ≤ a0 ∧ a0 ≤ 9223372036854775807) (hc0 : FR w pa0 ps0) (hr0 : RS w ra0 rs0) (hb0 : small ps0 rs0) : Calls Try.prog 15 #[.agg #[.int .i64 a0, .slice pa0 ps0.length pc0, .slice ra0 rs0.length rc0]] w fun e w' => e = .returned (.bool true) ∧ Ext w w' := by
  have EW : Ext w (w.alloc (.cells #[.int .i64 a0, .slice pa0 ps0.length pc0, .slice ra0 rs0.length rc0] 44)) := (Ext.refl w).alloc _
  replace hc0 := hc0.ext EW
  replace hr0 := hr0.ext EW
  by_cases hl0 : ps0.length + (rs0.length + tot rs0) ≤ 1048576
  case neg =>
    have T : Ext (w.alloc (.cells #[.int .i64 a0, .slice pa0 ps0.length pc0, .slice ra0 rs0.length rc0] 44)) (w.alloc (.cells #[.int .i64 a0, .slice pa0 ps0.length pc0, .slice ra0 rs0.length rc0] 44)) := Ext.refl _
    go_enter Try.func15, Try.ntmps15
    have hbox0 : Cells _ (w.heap.size) #[.int .i64 a0, .slice pa0 ps0.length pc0, .slice ra0 rs0.length rc0] 44 := Cells.ext (Cells.new w _ _) T
    go_wp2_with (first | (refine wpList_load_row rfl _ _ rfl _ rfl _ _ _ _ hbox0 Try.underlying44 rfl infoLG ?_))
    clear hbox0
    go_at_call 41; have hq := szGather_no a0 pa0 pc0 ps0 ra0 rc0 rs0 (1048576) _ (hr0.ext T) hb0 (by omega) (by omega); refine hq.mono ?_; clear hq
    rintro _ _ ⟨rfl, E⟩
    replace T := Ext.trans T E
    clear E
    go_wp2_with fail
    go_ret
    exact ⟨rfl, Ext.trans EW T⟩
  have T : Ext (w.alloc (.cells #[.int .i64 a0, .slice pa0 ps0.length pc0, .slice ra0 rs0.length rc0] 44)) (w.alloc (.cells #[.int .i64 a0, .slice pa0 ps0.length pc0, .slice ra0 rs0.length rc0] 44)) := Ext.refl _
  have hsl : Hid (((liveO a0 (cl ps0) (cls rs0)).getD []).length ≤ 1048576) := liveO_len _ _ _
  go_enter Try.func15, Try.ntmps15
  have hz0 : (0 : Int) ≤ 1048576 - (ps0.length : Int) - ((rs0.length : Int) + (tot rs0 : Int)) := by omega
  have hbox0 : Cells _ (w.heap.size) #[.int .i64 a0, .slice pa0 ps0.length pc0, .slice ra0 rs0.length rc0] 44 := Cells.ext (Cells.new w _ _) T
  go_wp2_with (first | (refine wpList_load_row rfl _ _ rfl _ rfl _ _ _ _ hbox0 Try.underlying44 rfl infoLG ?_))
  clear hbox0
  go_at_call 41; have hq := szGather_ok a0 pa0 pc0 ps0 ra0 rc0 rs0 (1048576) _ (hr0.ext T) hb0 (by omega) (by omega); refine hq.mono ?_; clear hq
  rintro _ _ ⟨rfl, E⟩
  replace T := Ext.trans T E
  clear E
  have hbox0 : Cells _ (w.heap.size) #[.int .i64 a0, .slice pa0 ps0.length pc0, .slice ra0 rs0.length rc0] 44 := Cells.ext (Cells.new w _ _) T
  go_wp2_with (first | (refine wpList_load_row rfl _ _ rfl _ rfl _ _ _ _ hbox0 Try.underlying44 rfl infoLG ?_))
  clear hbox0
  go_at_call 43; refine (toGather_any _ _ _ _ _ _ _ _ (by exact hc0.ext T) (by exact hr0.ext T) hl0).mono ?_
  rintro _ W_c1 ⟨pv, rv, vs_c1, rfl, E, O_c1⟩
  obtain ⟨⟨ap_c1, cp_c1, rfl, _⟩, ⟨ar_c1, cr_c1, rfl, _⟩⟩ := OwnG.fr O_c1
  replace O_c1 := OwnG.mono O_c1 T.size
  replace T := Ext.trans (by repeat (first | exact T | apply Ext.drewN)) E
  clear E
  have hbox0 : Cells _ (w.heap.size) #[.int .i64 a0, .slice pa0 ps0.length pc0, .slice ra0 rs0.length rc0] 44 := Cells.ext (Cells.new w _ _) T
  go_wp2_with (first | (refine wpList_load_row rfl _ _ rfl _ rfl _ _ _ _ hbox0 Try.underlying44 rfl infoLG ?_))
  clear hbox0
  refine (specLive_any _ _ _ _ _ _ _ _ (by exact OwnG.fp O_c1) (by exact OwnG.fs O_c1) hl0).mono ?_
  rintro _ V2 ⟨v, ys_w0, rfl, E, O_w0, H⟩
  obtain ⟨ao_w0, cap_w0, rfl, _⟩ := OwnF.fr O_w0
  have H_w0 := Lib.hid H
  clear H
  have D_c1_w0 : ∀ k, gB (.slice ap_c1 ps0.length cp_c1) (.slice ar_c1 rs0.length cr_c1) vs_c1 k → ¬ (Value.ownBlock (.slice ao_w0 ys_w0.length cap_w0) = some k) := by intro k hk hy; have h1 := OwnG.lt O_c1 k hk; have h2 := OwnF.lt O_w0 k hy; omega
  replace O_c1 := OwnG.ext (by exact O_c1) E
  replace O_w0 := OwnF.mono O_w0 T.size
  replace T := Ext.trans (by repeat (first | exact T | apply Ext.drewN)) E
  clear E
  clear O_c1
  have hbox0 : Cells _ (w.heap.size) #[.int .i64 a0, .slice pa0 ps0.length pc0, .slice ra0 rs0.length rc0] 44 := Cells.ext (Cells.new w _ _) T
  go_wp2_with (first | (refine wpList_load_row rfl _ _ rfl _ rfl _ _ _ _ hbox0 Try.underlying44 rfl infoLG ?_))
  clear hbox0
  go_at_call 43; refine (toGather_any _ _ _ _ _ _ _ _ (by exact hc0.ext T) (by exact hr0.ext T) hl0).mono ?_
  rintro _ W_x0 ⟨pv, rv, vs_x0, rfl, E, O_x0⟩
  obtain ⟨⟨ap_x0, cp_x0, rfl, _⟩, ⟨ar_x0, cr_x0, rfl, _⟩⟩ := OwnG.fr O_x0
  have D_w0_x0 : ∀ k, Value.ownBlock (.slice ao_w0 ys_w0.length cap_w0) = some k → ¬ (gB (.slice ap_x0 ps0.length cp_x0) (.slice ar_x0 rs0.length cr_x0) vs_x0 k) := by intro k hk hy; have h1 := OwnF.lt O_w0 k hk; have h2 := OwnG.lt O_x0 k hy; omega
  replace O_w0 := OwnF.ext (by exact O_w0) E
  replace O_x0 := OwnG.mono O_x0 T.size
  replace T := Ext.trans (by repeat (first | exact T | apply Ext.drewN)) E
  clear E
  have E := (Ext.refl W_x0).alloc (.cells #[.int .i64 a0, .slice ap_x0 ps0.length cp_x0, .slice ar_x0 rs0.length cr_x0] 47)
  have O_bx0 := OwnC.new W_x0 #[.int .i64 a0, .slice ap_x0 ps0.length cp_x0, .slice ar_x0 rs0.length cr_x0] 47
  have D_w0_bx0 : ∀ k, Value.ownBlock (.slice ao_w0 ys_w0.length cap_w0) = some k → ¬ (k = W_x0.heap.size) := by intro k hk hy; have h1 := OwnF.lt O_w0 k hk; have h2 := OwnC.lt O_bx0 k hy; omega
  have D_x0_bx0 : ∀ k, gB (.slice ap_x0 ps0.length cp_x0) (.slice ar_x0 rs0.length cr_x0) vs_x0 k → ¬ (k = W_x0.heap.size) := by intro k hk hy; have h1 := OwnG.lt O_x0 k hk; have h2 := OwnC.lt O_bx0 k hy; omega
  replace O_w0 := OwnF.ext (by exact O_w0) E
  replace O_x0 := OwnG.ext (by exact O_x0) E
  replace O_bx0 := OwnC.mono O_bx0 T.size
  replace T := Ext.trans (by repeat (first | exact T | apply Ext.drewN)) E
  clear E
  have hbox0 : Cells _ (w.heap.size) #[.int .i64 a0, .slice pa0 ps0.length pc0, .slice ra0 rs0.length rc0] 44 := Cells.ext (Cells.new w _ _) T
  go_wp2_with (first | (refine wpList_load_row rfl _ _ rfl _ rfl _ _ _ _ hbox0 Try.underlying44 rfl infoLG ?_) | (refine wpList_load_row rfl _ _ rfl _ rfl _ _ _ _ (OwnC.cells O_bx0) Try.underlying47 rfl infoG ?_))
  clear hbox0
  refine (implLive_any _ _ _ _ _ _ _ _ (by exact OwnG.fp O_x0) (by exact OwnG.fs O_x0) hl0).mono ?_
  rintro _ V3 ⟨v, ys_g0, rfl, E, O_g0, H⟩
  obtain ⟨ao_g0, cap_g0, rfl, _⟩ := OwnF.fr O_g0
  have H_g0 := Lib.hid H
  clear H
  have D_w0_g0 : ∀ k, Value.ownBlock (.slice ao_w0 ys_w0.length cap_w0) = some k → ¬ (Value.ownBlock (.slice ao_g0 ys_g0.length cap_g0) = some k) := by intro k hk hy; have h1 := OwnF.lt O_w0 k hk; have h2 := OwnF.lt O_g0 k hy; omega
  have D_x0_g0 : ∀ k, gB (.slice ap_x0 ps0.length cp_x0) (.slice ar_x0 rs0.length cr_x0) vs_x0 k → ¬ (Value.ownBlock (.slice ao_g0 ys_g0.length cap_g0) = some k) := by intro k hk hy; have h1 := OwnG.lt O_x0 k hk; have h2 := OwnF.lt O_g0 k hy; omega
  have D_bx0_g0 : ∀ k, k = W_x0.heap.size → ¬ (Value.ownBlock (.slice ao_g0 ys_g0.length cap_g0) = some k) := by intro k hk hy; have h1 := OwnC.lt O_bx0 k hk; have h2 := OwnF.lt O_g0 k hy; omega
  replace O_w0 := OwnF.ext (by exact O_w0) E
  replace O_x0 := OwnG.ext (by exact O_x0) E
  replace O_bx0 := OwnC.ext (by exact O_bx0) E
  replace O_g0 := OwnF.mono O_g0 T.size
  replace T := Ext.trans (by repeat (first | exact T | apply Ext.drewN)) E
  clear E
  have hbox0 : Cells _ (w.heap.size) #[.int .i64 a0, .slice pa0 ps0.length pc0, .slice ra0 rs0.length rc0] 44 := Cells.ext (Cells.new w _ _) T
  go_wp2_with (first | (refine wpList_load_row rfl _ _ rfl _ rfl _ _ _ _ hbox0 Try.underlying44 rfl infoLG ?_) | (refine wpList_load_row rfl _ _ rfl _ rfl _ _ _ _ (OwnC.cells O_bx0) Try.underlying47 rfl infoG ?_))
  clear hbox0
  go_at_call 28; refine (eqFloat32S_yes _ _ _ _ _ _ _ (by exact OwnF.toFR O_g0) (by exact OwnF.toFR O_w0) (H_g0.out.trans H_w0.out.symm) (by have h1 := congrArg List.length H_g0.out; rw [cl_length] at h1; have h2 := hsl.out; omega)).mono ?_
  rintro _ w4 ⟨rfl, n0, hw⟩
  replace O_w0 := own_drew O_w0 (by exact hw)
  replace O_x0 := ownG_drew O_x0 (by exact hw)
  replace O_bx0 := ownC_drew O_bx0 (by exact hw)
  replace O_g0 := own_drew O_g0 (by exact hw)
  replace T : Ext (w.alloc (.cells #[.int .i64 a0, .slice pa0 ps0.length pc0, .slice ra0 rs0.length rc0] 44)) w4 := ext_drew (by repeat (first | exact T | apply Ext.drewN)) hw
  clear hw
  have hbox0 : Cells _ (w.heap.size) #[.int .i64 a0, .slice pa0 ps0.length pc0, .slice ra0 rs0.length rc0] 44 := Cells.ext (Cells.new w _ _) T
  have hx := OwnC.cells O_bx0
  have q0 := hbox0.at 0
  have q1 := hbox0.at 1
  have q2 := hbox0.at 2
  have q3 := hx.at 0
  have q4 := hx.at 1
  have q5 := hx.at 2
  simp only [List.getElem?_toArray, List.getElem?_cons_succ, List.getElem?_cons_zero] at q0 q1 q2 q3 q4 q5
  have S6 : ∀ w', Ext w4 w' → (Ext w4 w' ∧ w'.cell? ⟨w.heap.size, 0, none⟩ = some (.int .i64 a0) ∧ w'.cell? ⟨w.heap.size, 1, none⟩ = some (.slice pa0 ps0.length pc0) ∧ w'.cell? ⟨w.heap.size, 2, none⟩ = some (.slice ra0 rs0.length rc0) ∧ w'.cell? ⟨W_x0.heap.size, 0, none⟩ = some (.int .i64 a0) ∧ w'.cell? ⟨W_x0.heap.size, 1, none⟩ = some (.slice ap_x0 ps0.length cp_x0) ∧ w'.cell? ⟨W_x0.heap.size, 2, none⟩ = some (.slice ar_x0 rs0.length cr_x0)) := fun w' h => ⟨h, h.cell q0, h.cell q1, h.cell q2, h.cell q3, h.cell q4, h.cell q5⟩
  go_wp2_with (first | (refine wpList_load_row rfl _ _ rfl _ rfl _ _ _ _ hbox0 Try.underlying44 rfl infoLG ?_) | (refine wpList_load_row rfl _ _ rfl _ rfl _ _ _ _ (OwnC.cells O_bx0) Try.underlying47 rfl infoG ?_))
  go_region_held3 (fun w' => Ext w4 w' ∧ w'.cell? ⟨w.heap.size, 0, none⟩ = some (.int .i64 a0) ∧ w'.cell? ⟨w.heap.size, 1, none⟩ = some (.slice pa0 ps0.length pc0) ∧ w'.cell? ⟨w.heap.size, 2, none⟩ = some (.slice ra0 rs0.length rc0) ∧ w'.cell? ⟨W_x0.heap.size, 0, none⟩ = some (.int .i64 a0) ∧ w'.cell? ⟨W_x0.heap.size, 1, none⟩ = some (.slice ap_x0 ps0.length cp_x0) ∧ w'.cell? ⟨W_x0.heap.size, 2, none⟩ = some (.slice ar_x0 rs0.length cr_x0))
    (first | (refine S6 _ ?_; repeat (first | assumption | exact Ext.refl _ | apply Ext.drewN | (refine Ext.trans (by assumption) ?_))))
    (first
      | (go_at_call 43; refine (toGather_any _ _ _ _ _ _ _ _ (hc0.ext (T.trans (by repeat (first | assumption | exact Ext.refl _ | apply Ext.drewN | (refine Ext.trans (by assumption) ?_))))) (hr0.ext (T.trans (by repeat (first | assumption | exact Ext.refl _ | apply Ext.drewN | (refine Ext.trans (by assumption) ?_))))) hl0).mono ?_; rintro _ W_c5 ⟨pv, rv, vs_c5, rfl, E, O_c5⟩; (have E' : Ext w4 W_c5 := Ext.trans (by repeat (first | assumption | exact Ext.refl _ | apply Ext.drewN | (refine Ext.trans (by assumption) ?_))) E); obtain ⟨⟨ap_c5, cp_c5, rfl, _⟩, ⟨ar_c5, cr_c5, rfl, _⟩⟩ := OwnG.fr O_c5)
      | (go_at_call 45; refine (eqGather_yes _ _ _ _ _ _ _ _ _ _ _ _ _ _ ((OwnG.fp O_x0).ext (by repeat (first | assumption | exact Ext.refl _ | apply Ext.drewN | (refine Ext.trans (by assumption) ?_)))) ((OwnG.fs O_x0).ext (by repeat (first | assumption | exact Ext.refl _ | apply Ext.drewN | (refine Ext.trans (by assumption) ?_)))) ((OwnG.fp O_c5).ext (by repeat (first | assumption | exact Ext.refl _ | apply Ext.drewN | (refine Ext.trans (by assumption) ?_)))) ((OwnG.fs O_c5).ext (by repeat (first | assumption | exact Ext.refl _ | apply Ext.drewN | (refine Ext.trans (by assumption) ?_)))) rfl rfl hl0).mono ?_; rintro _ V6 ⟨rfl, E2⟩; (have E2' : Ext w4 V6 := Ext.trans (by repeat (first | assumption | exact Ext.refl _ | apply Ext.drewN | (refine Ext.trans (by assumption) ?_))) E2)))
  replace O_w0 := OwnF.ext (by exact O_w0) E2'
  replace O_x0 := OwnG.ext (by exact O_x0) E2'
  replace O_bx0 := OwnC.ext (by exact O_bx0) E2'
  replace O_g0 := OwnF.ext (by exact O_g0) E2'
  replace T := Ext.trans T E2'
  clear E2' E2 E' E S6 hx q0 q1 q2 q3 q4 q5 hbox0
  have hbox0 : Cells _ (w.heap.size) #[.int .i64 a0, .slice pa0 ps0.length pc0, .slice ra0 rs0.length rc0] 44 := Cells.ext (Cells.new w _ _) T
  go_wp2_with (first | (refine wpList_load_row rfl _ _ rfl _ rfl _ _ _ _ hbox0 Try.underlying44 rfl infoLG ?_) | (refine wpList_load_row rfl _ _ rfl _ rfl _ _ _ _ (OwnC.cells O_bx0) Try.underlying47 rfl infoG ?_))
  clear hbox0
  go_at_call 50; refine (markGather_any _ _ _ _ _ _ _ _ _ (by exact O_x0) hl0 (by omega) (by omega)).mono ?_
  rintro _ _ ⟨rfl, hg, O⟩
  have hch := hg
  clear hg
  replace O_w0 := OwnF.chg (by exact O_w0) hch D_w0_x0
  replace O_bx0 := OwnC.chg (by exact O_bx0) hch (fun k hk hz => D_x0_bx0 k hz hk)
  replace O_g0 := OwnF.chg (by exact O_g0) hch (fun k hk hz => D_x0_g0 k hz hk)
  replace T := Chg.ext (by repeat (first | exact T | apply Ext.drewN)) hch (fun k hk => (OwnG.lt O_x0 k hk).1)
  clear hch
  clear O_x0
  have O_x0 := O
  clear O
  have hbox0 : Cells _ (w.heap.size) #[.int .i64 a0, .slice pa0 ps0.length pc0, .slice ra0 rs0.length rc0] 44 := Cells.ext (Cells.new w _ _) T
  go_wp2_with (first | (refine wpList_load_row rfl _ _ rfl _ rfl _ _ _ _ hbox0 Try.underlying44 rfl infoLG ?_) | (refine wpList_load_row rfl _ _ rfl _ rfl _ _ _ _ (OwnC.cells O_bx0) Try.underlying47 rfl infoG ?_))
  clear hbox0
  go_at_call 28; refine (eqFloat32S_yes _ _ _ _ _ _ _ (by exact OwnF.toFR O_g0) (by exact OwnF.toFR O_w0) (H_g0.out.trans H_w0.out.symm) (by have h1 := congrArg List.length H_g0.out; rw [cl_length] at h1; have h2 := hsl.out; omega)).mono ?_
  rintro _ w7 ⟨rfl, n0, hw⟩
  replace O_w0 := own_drew O_w0 (by exact hw)
  replace O_x0 := ownG_drew O_x0 (by exact hw)
  replace O_bx0 := ownC_drew O_bx0 (by exact hw)
  replace O_g0 := own_drew O_g0 (by exact hw)
  replace T : Ext (w.alloc (.cells #[.int .i64 a0, .slice pa0 ps0.length pc0, .slice ra0 rs0.length rc0] 44)) w7 := ext_drew (by repeat (first | exact T | apply Ext.drewN)) hw
  clear hw
  have hbox0 : Cells _ (w.heap.size) #[.int .i64 a0, .slice pa0 ps0.length pc0, .slice ra0 rs0.length rc0] 44 := Cells.ext (Cells.new w _ _) T
  go_wp2_with (first | (refine wpList_load_row rfl _ _ rfl _ rfl _ _ _ _ hbox0 Try.underlying44 rfl infoLG ?_) | (refine wpList_load_row rfl _ _ rfl _ rfl _ _ _ _ (OwnC.cells O_bx0) Try.underlying47 rfl infoG ?_))
  clear hbox0
  go_at_call 31; refine (markFloat32S_any _ _ _ _ _ (by exact O_g0) (by have h1 := congrArg List.length H_g0.out; rw [cl_length] at h1; have h2 := hsl.out; omega) (by omega) (by omega)).mono ?_
  rintro _ _ ⟨rfl, hg, O⟩
  have hch := Chg.of_grown (bs := fun k => Value.ownBlock (.slice ao_g0 ys_g0.length cap_g0) = some k) hg (fun k e => e)
  clear hg
  replace O_w0 := OwnF.chg (by exact O_w0) hch D_w0_g0
  replace O_x0 := OwnG.chg (by exact O_x0) hch D_x0_g0
  replace O_bx0 := OwnC.chg (by exact O_bx0) hch D_bx0_g0
  replace T := Chg.ext (by repeat (first | exact T | apply Ext.drewN)) hch (fun k hk => (OwnF.lt O_g0 k hk).1)
  clear hch
  clear O_g0
  have O_g0 := O
  clear O
  have hbox0 : Cells _ (w.heap.size) #[.int .i64 a0, .slice pa0 ps0.length pc0, .slice ra0 rs0.length rc0] 44 := Cells.ext (Cells.new w _ _) T
  go_wp2_with (first | (refine wpList_load_row rfl _ _ rfl _ rfl _ _ _ _ hbox0 Try.underlying44 rfl infoLG ?_) | (refine wpList_load_row rfl _ _ rfl _ rfl _ _ _ _ (OwnC.cells O_bx0) Try.underlying47 rfl infoG ?_))
  clear hbox0
  go_at_call 32; refine (heldFloat32S_any _ _ _ _ _ (by exact OwnF.toFR O_g0) (by have h1 := congrArg List.length H_g0.out; rw [cl_length] at h1; have h2 := hsl.out; omega) (by omega) (by omega)).mono ?_
  rintro _ _ ⟨rfl, rfl⟩
  have hbox0 : Cells _ (w.heap.size) #[.int .i64 a0, .slice pa0 ps0.length pc0, .slice ra0 rs0.length rc0] 44 := Cells.ext (Cells.new w _ _) T
  go_wp2_with (first | (refine wpList_load_row rfl _ _ rfl _ rfl _ _ _ _ hbox0 Try.underlying44 rfl infoLG ?_) | (refine wpList_load_row rfl _ _ rfl _ rfl _ _ _ _ (OwnC.cells O_bx0) Try.underlying47 rfl infoG ?_))
  clear hbox0
  go_at_call 43; refine (toGather_any _ _ _ _ _ _ _ _ (by exact hc0.ext T) (by exact hr0.ext T) hl0).mono ?_
  rintro _ W_c8 ⟨pv, rv, vs_c8, rfl, E, O_c8⟩
  obtain ⟨⟨ap_c8, cp_c8, rfl, _⟩, ⟨ar_c8, cr_c8, rfl, _⟩⟩ := OwnG.fr O_c8
  have D_w0_c8 : ∀ k, Value.ownBlock (.slice ao_w0 ys_w0.length cap_w0) = some k → ¬ (gB (.slice ap_c8 ps0.length cp_c8) (.slice ar_c8 rs0.length cr_c8) vs_c8 k) := by intro k hk hy; have h1 := OwnF.lt O_w0 k hk; have h2 := OwnG.lt O_c8 k hy; omega
  have D_x0_c8 : ∀ k, gB (.slice ap_x0 ps0.length cp_x0) (.slice ar_x0 rs0.length cr_x0) vs_x0 k → ¬ (gB (.slice ap_c8 ps0.length cp_c8) (.slice ar_c8 rs0.length cr_c8) vs_c8 k) := by intro k hk hy; have h1 := OwnG.lt O_x0 k hk; have h2 := OwnG.lt O_c8 k hy; omega
  have D_bx0_c8 : ∀ k, k = W_x0.heap.size → ¬ (gB (.slice ap_c8 ps0.length cp_c8) (.slice ar_c8 rs0.length cr_c8) vs_c8 k) := by intro k hk hy; have h1 := OwnC.lt O_bx0 k hk; have h2 := OwnG.lt O_c8 k hy; omega
  have D_g0_c8 : ∀ k, Value.ownBlock (.slice ao_g0 ys_g0.length cap_g0) = some k → ¬ (gB (.slice ap_c8 ps0.length cp_c8) (.slice ar_c8 rs0.length cr_c8) vs_c8 k) := by intro k hk hy; have h1 := OwnF.lt O_g0 k hk; have h2 := OwnG.lt O_c8 k hy; omega
  replace O_w0 := OwnF.ext (by exact O_w0) E
  replace O_x0 := OwnG.ext (by exact O_x0) E
  replace O_bx0 := OwnC.ext (by exact O_bx0) E
  replace O_g0 := OwnF.ext (by exact O_g0) E
  replace O_c8 := OwnG.mono O_c8 T.size
  replace T := Ext.trans (by repeat (first | exact T | apply Ext.drewN)) E
  clear E
  have hbox0 : Cells _ (w.heap.size) #[.int .i64 a0, .slice pa0 ps0.length pc0, .slice ra0 rs0.length rc0] 44 := Cells.ext (Cells.new w _ _) T
  go_wp2_with (first | (refine wpList_load_row rfl _ _ rfl _ rfl _ _ _ _ hbox0 Try.underlying44 rfl infoLG ?_) | (refine wpList_load_row rfl _ _ rfl _ rfl _ _ _ _ (OwnC.cells O_bx0) Try.underlying47 rfl infoG ?_))
  clear hbox0
  refine (implLive_any _ _ _ _ _ _ _ _ (by exact OwnG.fp O_c8) (by exact OwnG.fs O_c8) hl0).mono ?_
  rintro _ V9 ⟨v, ys_h0, rfl, E, O_h0, H⟩
  obtain ⟨ao_h0, cap_h0, rfl, _⟩ := OwnF.fr O_h0
  have H_h0 := Lib.hid H
  clear H
  have D_w0_h0 : ∀ k, Value.ownBlock (.slice ao_w0 ys_w0.length cap_w0) = some k → ¬ (Value.ownBlock (.slice ao_h0 ys_h0.length cap_h0) = some k) := by intro k hk hy; have h1 := OwnF.lt O_w0 k hk; have h2 := OwnF.lt O_h0 k hy; omega
  have D_x0_h0 : ∀ k, gB (.slice ap_x0 ps0.length cp_x0) (.slice ar_x0 rs0.length cr_x0) vs_x0 k → ¬ (Value.ownBlock (.slice ao_h0 ys_h0.length cap_h0) = some k) := by intro k hk hy; have h1 := OwnG.lt O_x0 k hk; have h2 := OwnF.lt O_h0 k hy; omega
  have D_bx0_h0 : ∀ k, k = W_x0.heap.size → ¬ (Value.ownBlock (.slice ao_h0 ys_h0.length cap_h0) = some k) := by intro k hk hy; have h1 := OwnC.lt O_bx0 k hk; have h2 := OwnF.lt O_h0 k hy; omega
  have D_g0_h0 : ∀ k, Value.ownBlock (.slice ao_g0 ys_g0.length cap_g0) = some k → ¬ (Value.ownBlock (.slice ao_h0 ys_h0.length cap_h0) = some k) := by intro k hk hy; have h1 := OwnF.lt O_g0 k hk; have h2 := OwnF.lt O_h0 k hy; omega
  have D_c8_h0 : ∀ k, gB (.slice ap_c8 ps0.length cp_c8) (.slice ar_c8 rs0.length cr_c8) vs_c8 k → ¬ (Value.ownBlock (.slice ao_h0 ys_h0.length cap_h0) = some k) := by intro k hk hy; have h1 := OwnG.lt O_c8 k hk; have h2 := OwnF.lt O_h0 k hy; omega
  replace O_w0 := OwnF.ext (by exact O_w0) E
  replace O_x0 := OwnG.ext (by exact O_x0) E
  replace O_bx0 := OwnC.ext (by exact O_bx0) E
  replace O_g0 := OwnF.ext (by exact O_g0) E
  replace O_c8 := OwnG.ext (by exact O_c8) E
  replace O_h0 := OwnF.mono O_h0 T.size
  replace T := Ext.trans (by repeat (first | exact T | apply Ext.drewN)) E
  clear E
  clear O_c8
  have hbox0 : Cells _ (w.heap.size) #[.int .i64 a0, .slice pa0 ps0.length pc0, .slice ra0 rs0.length rc0] 44 := Cells.ext (Cells.new w _ _) T
  go_wp2_with (first | (refine wpList_load_row rfl _ _ rfl _ rfl _ _ _ _ hbox0 Try.underlying44 rfl infoLG ?_) | (refine wpList_load_row rfl _ _ rfl _ rfl _ _ _ _ (OwnC.cells O_bx0) Try.underlying47 rfl infoG ?_))
  clear hbox0
  go_at_call 28; refine (eqFloat32S_yes _ _ _ _ _ _ _ (by exact OwnF.toFR O_h0) (by exact OwnF.toFR O_w0) (H_h0.out.trans H_w0.out.symm) (by have h1 := congrArg List.length H_h0.out; rw [cl_length] at h1; have h2 := hsl.out; omega)).mono ?_
  rintro _ w10 ⟨rfl, n0, hw⟩
  replace O_w0 := own_drew O_w0 (by exact hw)
  replace O_x0 := ownG_drew O_x0 (by exact hw)
  replace O_bx0 := ownC_drew O_bx0 (by exact hw)
  replace O_g0 := own_drew O_g0 (by exact hw)
  replace O_h0 := own_drew O_h0 (by exact hw)
  replace T : Ext (w.alloc (.cells #[.int .i64 a0, .slice pa0 ps0.length pc0, .slice ra0 rs0.length rc0] 44)) w10 := ext_drew (by repeat (first | exact T | apply Ext.drewN)) hw
  clear hw
  have hbox0 : Cells _ (w.heap.size) #[.int .i64 a0, .slice pa0 ps0.length pc0, .slice ra0 rs0.length rc0] 44 := Cells.ext (Cells.new w _ _) T
  go_wp2_with (first | (refine wpList_load_row rfl _ _ rfl _ rfl _ _ _ _ hbox0 Try.underlying44 rfl infoLG ?_) | (refine wpList_load_row rfl _ _ rfl _ rfl _ _ _ _ (OwnC.cells O_bx0) Try.underlying47 rfl infoG ?_))
  clear hbox0
  go_at_call 32; refine (heldFloat32S_any _ _ _ _ _ (by exact OwnF.toFR O_g0) (by have h1 := congrArg List.length H_g0.out; rw [cl_length] at h1; have h2 := hsl.out; omega) (by omega) (by omega)).mono ?_
  rintro _ _ ⟨rfl, rfl⟩
  have hbox0 : Cells _ (w.heap.size) #[.int .i64 a0, .slice pa0 ps0.length pc0, .slice ra0 rs0.length rc0] 44 := Cells.ext (Cells.new w _ _) T
  go_wp2_with (first | (refine wpList_load_row rfl _ _ rfl _ rfl _ _ _ _ hbox0 Try.underlying44 rfl infoLG ?_) | (refine wpList_load_row rfl _ _ rfl _ rfl _ _ _ _ (OwnC.cells O_bx0) Try.underlying47 rfl infoG ?_))
  clear hbox0
  go_ret
  exact ⟨rfl, Ext.trans EW T⟩

set_option maxRecDepth 100000 in
theorem lifted (os : Os) (started : os.Started) (H : Type) (enc : TypeId × Value → H) :
    ReturnsInHanded {} Try.checked os 15 .any (Rows.fnExactLiveStackSpec.pre6 enc Try.prog Try.f15 Rows.fnExactLiveStackRow.domain false) (Rows.fnExactLiveStackSpec.post enc Try.prog Try.f15 false true false false) := by
  refine returnsInHanded_of_change (C := Try.checked) own started (by kernel_rfl) Try.func15
    (ChangeSpec.witness6 (enc := enc) (C := Try.checked) false ⟨#[], #[.agg #[.int .i64 0, .slice none 0 0, .slice none 0 0]], []⟩ 8 (by kernel_rfl) (by kernel_rfl) (by kernel_rfl) (by kernel_rfl)) ?_
  intro W base args ds gs before hval0 hW hcnd _
  have hval : ∀ (j : Nat) t v, Try.f15.params[j]? = some t → args[j]? = some v → Value.okWide Try.prog W .any base t v := hval0
  have hW' := hW
  obtain ⟨p, q, hA0, hV, rfl, hfz, hnd⟩ := hW
  have hA : DataW.TrodAll enc Try.prog W 0 (fun _ => true) true Try.f15.params.toList args.toList ds p := hA0
  rw [Try.params15] at hA hval
  obtain ⟨v0, vs0, d0, ds0, p0, q0, hargs, rfl, rfl, h0, r0⟩ := trodAll_cons hA
  obtain ⟨rfl, rfl, rfl⟩ := trodAll_nil r0
  obtain rfl : args = #[v0] := by cases args; simp_all
  obtain ⟨rfl, rfl⟩ := trodVars_none hV
  have k0 := h0
  have lt0 : ∀ x ∈ p0, x.block < W.heap.size := by obtain ⟨m, hm⟩ := k0; exact DataW.trod_lt m _ _ _ hm
  obtain ⟨a0, pa0, pc0, ps0, ra0, rc0, rs0, rfl, hi0, hc0, hr0, hb0⟩ := open_gather h0
  clear hA0 hval0
  refine (walk a0 pa0 pc0 ps0 ra0 rc0 rs0 W hi0 hc0 hr0 hb0).mono fun e W' ⟨he, bel⟩ => ?_
  subst he
  exact ⟨_, rfl, _, _, _, [], _, [], hW', trodAll_mk1 (shut_bool Try.underlying4 _), (trodAll_cons_mk (Below.trod laidOut (by kernel_rfl) (of_decide_eq_true (by kernel_rfl)) k0 bel lt0) trodAll_mk0), rfl, Below.frame (show Below W.heap.size W W' from bel) _, fun h => by cases h⟩
theorem closed : joinedFacts Try.prog 15 Try.f15 Rows.fnExactLiveStackSpec Rows.fnExactLiveStackRow = true := by
  unfold joinedFacts
  rw [Go.Proofs.Ytncolcjjmllfeaa.mayEnter, Go.Proofs.Ytncolcjjmllfeaa.liftsFinal, Go.Proofs.Ytncolcjjmllfeaa.make]
  kernel_rfl
theorem proved : Rows.FnExactLiveStackSaid :=
  OpenClaim.holds_of_wide 15 Try.f15 rfl rfl rfl rfl rfl rfl rfl ⟨rfl, rfl, rfl, rfl, rfl⟩ rfl rfl rfl rfl rfl (by kernel_rfl) Try.func15 closed
    (of_decide_eq_true (by kernel_rfl)) (by unfold Func.isWrapper; first | (rw [if_pos (by decide +kernel)]; kernel_rfl) | (rw [if_neg (by decide +kernel)]; exact ⟨rfl, rfl⟩))
    (fun os started H enc _ => lifted os started H enc)
end Go.Proofs.Ytncolcjjmllfeaa.xLiveStack
