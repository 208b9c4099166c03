/- The statement FnExactFlatGather: for every input the law's function returns true, and each argument reads behind the call as it read before. No condition. -/
import Derived.Test.YtncolcjjmllfeaaRows
import Derived.Test.YtncolcjjmllfeaaWords
import Derived.Test.YtncolcjjmllfeaaGat
import Derived.Test.YtncolcjjmllfeaaOpen
import Derived.Test.YtncolcjjmllfeaaLoadg
import Derived.Test.YtncolcjjmllfeaaFFlatImp
import Derived.ProofKit
import Derived.OpenShut
import Derived.ChangeOld
import Derived.Deep.RegionHeld3
namespace Go.Proofs.Ytncolcjjmllfeaa.xFlatGather
open Go.RowKit Go.ChangeShapes Go.WideShapes Go.ChangeAt
set_option maxRecDepth 100000
open Go.Proofs.Ytncolcjjmllfeaa
set_option linter.unusedVariables false

set_option maxRecDepth 100000 in
set_option maxHeartbeats 4000000 in
theorem walk (a0 : Int) (ao1 : Option Addr) (cap1 : Nat) (xs1 : List Nat) (w : World) (hi0 : -9223372036854775808 ≤ a0 ∧ a0 ≤ 9223372036854775807) (hc1 : FR w ao1 xs1) : Calls Try.prog 11 #[.int .i64 a0, .slice ao1 xs1.length cap1] w fun e w' => e = .returned (.bool true) ∧ Ext w w' := by
  by_cases hl1 : xs1.length ≤ 1048576
  case neg =>
    have hl' : 1048576 < xs1.length := by omega
    go_enter Try.func11, Try.ntmps11
    go_wp2_with fail
    all_goals go_ret
    all_goals exact ⟨rfl, Ext.refl _⟩
  have T : Ext w w := Ext.refl _
  have hsl : Hid (((((flatO a0 (cl xs1)).map (·.2.1)).getD []).length + ((((flatO a0 (cl xs1)).map (·.2.2)).getD []).length + tot (((flatO a0 (cl xs1)).map (·.2.2)).getD [])) ≤ 1048576)) := flatO_len _ _
  go_enter Try.func11, Try.ntmps11
  go_wp2_with fail
  go_at_call 25; refine (toFloat32S_any _ _ _ _ (by exact hc1.ext T) hl1).mono ?_
  rintro _ W_c1 ⟨v, rfl, E, O_c1⟩
  obtain ⟨ao_c1, cap_c1, rfl, _⟩ := OwnF.fr O_c1
  replace O_c1 := OwnF.mono O_c1 T.size
  replace T := Ext.trans (by repeat (first | exact T | apply Ext.drewN)) E
  clear E
  go_wp2_with fail
  refine (specFlat_any _ _ _ _ _ (by exact OwnF.toFR O_c1) hl1).mono ?_
  rintro _ W_w0 ⟨t_w0, pv, rv, vs_w0, ys_w0, qs_w0, rfl, E, O_w0, HT, HP, HR⟩
  obtain ⟨⟨ap_w0, cp_w0, rfl, _⟩, ⟨ar_w0, cr_w0, rfl, _⟩⟩ := OwnG.fr O_w0
  subst HT
  have HP_w0 := Lib.hid HP
  have HR_w0 := Lib.hid HR
  clear HP HR
  have D_c1_w0 : ∀ k, Value.ownBlock (.slice ao_c1 xs1.length cap_c1) = some k → ¬ (gB (.slice ap_w0 ys_w0.length cp_w0) (.slice ar_w0 qs_w0.length cr_w0) vs_w0 k) := by intro k hk hy; have h1 := OwnF.lt O_c1 k hk; have h2 := OwnG.lt O_w0 k hy; omega
  replace O_c1 := OwnF.ext (by exact O_c1) E
  replace O_w0 := OwnG.mono O_w0 T.size
  replace T := Ext.trans (by repeat (first | exact T | apply Ext.drewN)) E
  clear E
  have E := (Ext.refl W_w0).alloc (.cells #[.int .i64 (((flatO a0 (cl xs1)).map (·.1)).getD 0), .slice ap_w0 ys_w0.length cp_w0, .slice ar_w0 qs_w0.length cr_w0] 47)
  have O_bw0 := OwnC.new W_w0 #[.int .i64 (((flatO a0 (cl xs1)).map (·.1)).getD 0), .slice ap_w0 ys_w0.length cp_w0, .slice ar_w0 qs_w0.length cr_w0] 47
  have D_c1_bw0 : ∀ k, Value.ownBlock (.slice ao_c1 xs1.length cap_c1) = some k → ¬ (k = W_w0.heap.size) := by intro k hk hy; have h1 := OwnF.lt O_c1 k hk; have h2 := OwnC.lt O_bw0 k hy; omega
  have D_w0_bw0 : ∀ k, gB (.slice ap_w0 ys_w0.length cp_w0) (.slice ar_w0 qs_w0.length cr_w0) vs_w0 k → ¬ (k = W_w0.heap.size) := by intro k hk hy; have h1 := OwnG.lt O_w0 k hk; have h2 := OwnC.lt O_bw0 k hy; omega
  replace O_c1 := OwnF.ext (by exact O_c1) E
  replace O_w0 := OwnG.ext (by exact O_w0) E
  replace O_bw0 := OwnC.mono O_bw0 T.size
  replace T := Ext.trans (by repeat (first | exact T | apply Ext.drewN)) E
  clear E
  clear O_c1
  go_wp2_with (first | (refine wl_load_row rfl _ _ rfl _ rfl _ _ _ (OwnC.cells O_bw0) Try.underlying47 rfl infoG ?_))
  go_at_call 25; refine (toFloat32S_any _ _ _ _ (by exact hc1.ext T) hl1).mono ?_
  rintro _ W_x1 ⟨v, rfl, E, O_x1⟩
  obtain ⟨ao_x1, cap_x1, rfl, _⟩ := OwnF.fr O_x1
  have D_w0_x1 : ∀ k, gB (.slice ap_w0 ys_w0.length cp_w0) (.slice ar_w0 qs_w0.length cr_w0) vs_w0 k → ¬ (Value.ownBlock (.slice ao_x1 xs1.length cap_x1) = some k) := by intro k hk hy; have h1 := OwnG.lt O_w0 k hk; have h2 := OwnF.lt O_x1 k hy; omega
  have D_bw0_x1 : ∀ k, k = W_w0.heap.size → ¬ (Value.ownBlock (.slice ao_x1 xs1.length cap_x1) = some k) := by intro k hk hy; have h1 := OwnC.lt O_bw0 k hk; have h2 := OwnF.lt O_x1 k hy; omega
  replace O_w0 := OwnG.ext (by exact O_w0) E
  replace O_bw0 := OwnC.ext (by exact O_bw0) E
  replace O_x1 := OwnF.mono O_x1 T.size
  replace T := Ext.trans (by repeat (first | exact T | apply Ext.drewN)) E
  clear E
  go_wp2_with (first | (refine wl_load_row rfl _ _ rfl _ rfl _ _ _ (OwnC.cells O_bw0) Try.underlying47 rfl infoG ?_))
  refine (implFlat_any _ _ _ _ _ (by exact OwnF.toFR O_x1) hl1).mono ?_
  rintro _ W_g0 ⟨t_g0, pv, rv, vs_g0, ys_g0, qs_g0, rfl, E, O_g0, HT, HP, HR⟩
  obtain ⟨⟨ap_g0, cp_g0, rfl, _⟩, ⟨ar_g0, cr_g0, rfl, _⟩⟩ := OwnG.fr O_g0
  subst HT
  have HP_g0 := Lib.hid HP
  have HR_g0 := Lib.hid HR
  clear HP HR
  have D_w0_g0 : ∀ k, gB (.slice ap_w0 ys_w0.length cp_w0) (.slice ar_w0 qs_w0.length cr_w0) vs_w0 k → ¬ (gB (.slice ap_g0 ys_g0.length cp_g0) (.slice ar_g0 qs_g0.length cr_g0) vs_g0 k) := by intro k hk hy; have h1 := OwnG.lt O_w0 k hk; have h2 := OwnG.lt O_g0 k hy; omega
  have D_bw0_g0 : ∀ k, k = W_w0.heap.size → ¬ (gB (.slice ap_g0 ys_g0.length cp_g0) (.slice ar_g0 qs_g0.length cr_g0) vs_g0 k) := by intro k hk hy; have h1 := OwnC.lt O_bw0 k hk; have h2 := OwnG.lt O_g0 k hy; omega
  have D_x1_g0 : ∀ k, Value.ownBlock (.slice ao_x1 xs1.length cap_x1) = some k → ¬ (gB (.slice ap_g0 ys_g0.length cp_g0) (.slice ar_g0 qs_g0.length cr_g0) vs_g0 k) := by intro k hk hy; have h1 := OwnF.lt O_x1 k hk; have h2 := OwnG.lt O_g0 k hy; omega
  replace O_w0 := OwnG.ext (by exact O_w0) E
  replace O_bw0 := OwnC.ext (by exact O_bw0) E
  replace O_x1 := OwnF.ext (by exact O_x1) E
  replace O_g0 := OwnG.mono O_g0 T.size
  replace T := Ext.trans (by repeat (first | exact T | apply Ext.drewN)) E
  clear E
  have E := (Ext.refl W_g0).alloc (.cells #[.int .i64 (((flatO a0 (cl xs1)).map (·.1)).getD 0), .slice ap_g0 ys_g0.length cp_g0, .slice ar_g0 qs_g0.length cr_g0] 47)
  have O_bg0 := OwnC.new W_g0 #[.int .i64 (((flatO a0 (cl xs1)).map (·.1)).getD 0), .slice ap_g0 ys_g0.length cp_g0, .slice ar_g0 qs_g0.length cr_g0] 47
  have D_w0_bg0 : ∀ k, gB (.slice ap_w0 ys_w0.length cp_w0) (.slice ar_w0 qs_w0.length cr_w0) vs_w0 k → ¬ (k = W_g0.heap.size) := by intro k hk hy; have h1 := OwnG.lt O_w0 k hk; have h2 := OwnC.lt O_bg0 k hy; omega
  have D_bw0_bg0 : ∀ k, k = W_w0.heap.size → ¬ (k = W_g0.heap.size) := by intro k hk hy; have h1 := OwnC.lt O_bw0 k hk; have h2 := OwnC.lt O_bg0 k hy; omega
  have D_x1_bg0 : ∀ k, Value.ownBlock (.slice ao_x1 xs1.length cap_x1) = some k → ¬ (k = W_g0.heap.size) := by intro k hk hy; have h1 := OwnF.lt O_x1 k hk; have h2 := OwnC.lt O_bg0 k hy; omega
  have D_g0_bg0 : ∀ k, gB (.slice ap_g0 ys_g0.length cp_g0) (.slice ar_g0 qs_g0.length cr_g0) vs_g0 k → ¬ (k = W_g0.heap.size) := by intro k hk hy; have h1 := OwnG.lt O_g0 k hk; have h2 := OwnC.lt O_bg0 k hy; omega
  replace O_w0 := OwnG.ext (by exact O_w0) E
  replace O_bw0 := OwnC.ext (by exact O_bw0) E
  replace O_x1 := OwnF.ext (by exact O_x1) E
  replace O_g0 := OwnG.ext (by exact O_g0) E
  replace O_bg0 := OwnC.mono O_bg0 T.size
  replace T := Ext.trans (by repeat (first | exact T | apply Ext.drewN)) E
  clear E
  go_wp2_with (first | (refine wl_load_row rfl _ _ rfl _ rfl _ _ _ (OwnC.cells O_bw0) Try.underlying47 rfl infoG ?_) | (refine wl_load_row rfl _ _ rfl _ rfl _ _ _ (OwnC.cells O_bg0) Try.underlying47 rfl infoG ?_))
  go_at_call 45; refine (eqGather_yes _ _ _ _ _ _ _ _ _ _ _ _ _ _ (by exact OwnG.fp O_g0) (by exact OwnG.fs O_g0) (by exact OwnG.fp O_w0) (by exact OwnG.fs O_w0) (HP_g0.out.trans HP_w0.out.symm) (HR_g0.out.trans HR_w0.out.symm) (small_of HP_g0.out HR_g0.out hsl.out)).mono ?_
  rintro _ _ ⟨rfl, E⟩
  replace O_w0 := OwnG.ext (by exact O_w0) E
  replace O_bw0 := OwnC.ext (by exact O_bw0) E
  replace O_x1 := OwnF.ext (by exact O_x1) E
  replace O_g0 := OwnG.ext (by exact O_g0) E
  replace O_bg0 := OwnC.ext (by exact O_bg0) E
  replace T := Ext.trans (by repeat (first | exact T | apply Ext.drewN)) E
  clear E
  go_wp2_with (first | (refine wl_load_row rfl _ _ rfl _ rfl _ _ _ (OwnC.cells O_bw0) Try.underlying47 rfl infoG ?_) | (refine wl_load_row rfl _ _ rfl _ rfl _ _ _ (OwnC.cells O_bg0) Try.underlying47 rfl infoG ?_))
  go_at_call 25; refine (toFloat32S_any _ _ _ _ (by exact hc1.ext T) hl1).mono ?_
  rintro _ W_c2 ⟨v, rfl, E, O_c2⟩
  obtain ⟨ao_c2, cap_c2, rfl, _⟩ := OwnF.fr O_c2
  have D_w0_c2 : ∀ k, gB (.slice ap_w0 ys_w0.length cp_w0) (.slice ar_w0 qs_w0.length cr_w0) vs_w0 k → ¬ (Value.ownBlock (.slice ao_c2 xs1.length cap_c2) = some k) := by intro k hk hy; have h1 := OwnG.lt O_w0 k hk; have h2 := OwnF.lt O_c2 k hy; omega
  have D_bw0_c2 : ∀ k, k = W_w0.heap.size → ¬ (Value.ownBlock (.slice ao_c2 xs1.length cap_c2) = some k) := by intro k hk hy; have h1 := OwnC.lt O_bw0 k hk; have h2 := OwnF.lt O_c2 k hy; omega
  have D_x1_c2 : ∀ k, Value.ownBlock (.slice ao_x1 xs1.length cap_x1) = some k → ¬ (Value.ownBlock (.slice ao_c2 xs1.length cap_c2) = some k) := by intro k hk hy; have h1 := OwnF.lt O_x1 k hk; have h2 := OwnF.lt O_c2 k hy; omega
  have D_g0_c2 : ∀ k, gB (.slice ap_g0 ys_g0.length cp_g0) (.slice ar_g0 qs_g0.length cr_g0) vs_g0 k → ¬ (Value.ownBlock (.slice ao_c2 xs1.length cap_c2) = some k) := by intro k hk hy; have h1 := OwnG.lt O_g0 k hk; have h2 := OwnF.lt O_c2 k hy; omega
  have D_bg0_c2 : ∀ k, k = W_g0.heap.size → ¬ (Value.ownBlock (.slice ao_c2 xs1.length cap_c2) = some k) := by intro k hk hy; have h1 := OwnC.lt O_bg0 k hk; have h2 := OwnF.lt O_c2 k hy; omega
  replace O_w0 := OwnG.ext (by exact O_w0) E
  replace O_bw0 := OwnC.ext (by exact O_bw0) E
  replace O_x1 := OwnF.ext (by exact O_x1) E
  replace O_g0 := OwnG.ext (by exact O_g0) E
  replace O_bg0 := OwnC.ext (by exact O_bg0) E
  replace O_c2 := OwnF.mono O_c2 T.size
  replace T := Ext.trans (by repeat (first | exact T | apply Ext.drewN)) E
  clear E
  go_wp2_with (first | (refine wl_load_row rfl _ _ rfl _ rfl _ _ _ (OwnC.cells O_bw0) Try.underlying47 rfl infoG ?_) | (refine wl_load_row rfl _ _ rfl _ rfl _ _ _ (OwnC.cells O_bg0) Try.underlying47 rfl infoG ?_))
  go_at_call 28; refine (eqFloat32S_yes _ _ _ _ _ _ _ (by exact OwnF.toFR O_x1) (by exact OwnF.toFR O_c2) rfl hl1).mono ?_
  rintro _ w3 ⟨rfl, n0, hw⟩
  replace O_w0 := ownG_drew O_w0 (by exact hw)
  replace O_bw0 := ownC_drew O_bw0 (by exact hw)
  replace O_x1 := own_drew O_x1 (by exact hw)
  replace O_g0 := ownG_drew O_g0 (by exact hw)
  replace O_bg0 := ownC_drew O_bg0 (by exact hw)
  replace O_c2 := own_drew O_c2 (by exact hw)
  replace T : Ext w w3 := ext_drew (by repeat (first | exact T | apply Ext.drewN)) hw
  clear hw
  clear O_c2
  go_wp2_with (first | (refine wl_load_row rfl _ _ rfl _ rfl _ _ _ (OwnC.cells O_bw0) Try.underlying47 rfl infoG ?_) | (refine wl_load_row rfl _ _ rfl _ rfl _ _ _ (OwnC.cells O_bg0) Try.underlying47 rfl infoG ?_))
  go_at_call 31; refine (markFloat32S_any _ _ _ _ _ (by exact O_x1) hl1 (by omega) (by omega)).mono ?_
  rintro _ _ ⟨rfl, hg, O⟩
  have hch := Chg.of_grown (bs := fun k => Value.ownBlock (.slice ao_x1 xs1.length cap_x1) = some k) hg (fun k e => e)
  clear hg
  replace O_w0 := OwnG.chg (by exact O_w0) hch D_w0_x1
  replace O_bw0 := OwnC.chg (by exact O_bw0) hch D_bw0_x1
  replace O_g0 := OwnG.chg (by exact O_g0) hch (fun k hk hz => D_x1_g0 k hz hk)
  replace O_bg0 := OwnC.chg (by exact O_bg0) hch (fun k hk hz => D_x1_bg0 k hz hk)
  replace T := Chg.ext (by repeat (first | exact T | apply Ext.drewN)) hch (fun k hk => (OwnF.lt O_x1 k hk).1)
  clear hch
  clear O_x1
  have O_x1 := O
  clear O
  go_wp2_with (first | (refine wl_load_row rfl _ _ rfl _ rfl _ _ _ (OwnC.cells O_bw0) Try.underlying47 rfl infoG ?_) | (refine wl_load_row rfl _ _ rfl _ rfl _ _ _ (OwnC.cells O_bg0) Try.underlying47 rfl infoG ?_))
  go_at_call 45; refine (eqGather_yes _ _ _ _ _ _ _ _ _ _ _ _ _ _ (by exact OwnG.fp O_g0) (by exact OwnG.fs O_g0) (by exact OwnG.fp O_w0) (by exact OwnG.fs O_w0) (HP_g0.out.trans HP_w0.out.symm) (HR_g0.out.trans HR_w0.out.symm) (small_of HP_g0.out HR_g0.out hsl.out)).mono ?_
  rintro _ _ ⟨rfl, E⟩
  replace O_w0 := OwnG.ext (by exact O_w0) E
  replace O_bw0 := OwnC.ext (by exact O_bw0) E
  replace O_x1 := OwnF.ext (by exact O_x1) E
  replace O_g0 := OwnG.ext (by exact O_g0) E
  replace O_bg0 := OwnC.ext (by exact O_bg0) E
  replace T := Ext.trans (by repeat (first | exact T | apply Ext.drewN)) E
  clear E
  go_wp2_with (first | (refine wl_load_row rfl _ _ rfl _ rfl _ _ _ (OwnC.cells O_bw0) Try.underlying47 rfl infoG ?_) | (refine wl_load_row rfl _ _ rfl _ rfl _ _ _ (OwnC.cells O_bg0) Try.underlying47 rfl infoG ?_))
  go_at_call 50; refine (markGather_any _ _ _ _ _ _ _ _ _ (by exact O_g0) (small_of HP_g0.out HR_g0.out hsl.out) (by omega) (by omega)).mono ?_
  rintro _ _ ⟨rfl, hg, O⟩
  have hch := hg
  clear hg
  replace O_w0 := OwnG.chg (by exact O_w0) hch D_w0_g0
  replace O_bw0 := OwnC.chg (by exact O_bw0) hch D_bw0_g0
  replace O_x1 := OwnF.chg (by exact O_x1) hch D_x1_g0
  replace O_bg0 := OwnC.chg (by exact O_bg0) hch (fun k hk hz => D_g0_bg0 k hz hk)
  replace T := Chg.ext (by repeat (first | exact T | apply Ext.drewN)) hch (fun k hk => (OwnG.lt O_g0 k hk).1)
  clear hch
  clear O_g0
  have O_g0 := O
  clear O
  go_wp2_with (first | (refine wl_load_row rfl _ _ rfl _ rfl _ _ _ (OwnC.cells O_bw0) Try.underlying47 rfl infoG ?_) | (refine wl_load_row rfl _ _ rfl _ rfl _ _ _ (OwnC.cells O_bg0) Try.underlying47 rfl infoG ?_))
  go_at_call 51; refine (heldGather_any _ _ _ _ _ _ _ _ _ _ _ (by exact O_g0) (small_of HP_g0.out HR_g0.out hsl.out) (by omega) (by omega)).mono ?_
  rintro _ _ ⟨rfl, E⟩
  replace O_w0 := OwnG.ext (by exact O_w0) E
  replace O_bw0 := OwnC.ext (by exact O_bw0) E
  replace O_x1 := OwnF.ext (by exact O_x1) E
  replace O_g0 := OwnG.ext (by exact O_g0) E
  replace O_bg0 := OwnC.ext (by exact O_bg0) E
  replace T := Ext.trans (by repeat (first | exact T | apply Ext.drewN)) E
  clear E
  go_wp2_with (first | (refine wl_load_row rfl _ _ rfl _ rfl _ _ _ (OwnC.cells O_bw0) Try.underlying47 rfl infoG ?_) | (refine wl_load_row rfl _ _ rfl _ rfl _ _ _ (OwnC.cells O_bg0) Try.underlying47 rfl infoG ?_))
  go_at_call 25; refine (toFloat32S_any _ _ _ _ (by exact hc1.ext T) hl1).mono ?_
  rintro _ W_c4 ⟨v, rfl, E, O_c4⟩
  obtain ⟨ao_c4, cap_c4, rfl, _⟩ := OwnF.fr O_c4
  have D_w0_c4 : ∀ k, gB (.slice ap_w0 ys_w0.length cp_w0) (.slice ar_w0 qs_w0.length cr_w0) vs_w0 k → ¬ (Value.ownBlock (.slice ao_c4 xs1.length cap_c4) = some k) := by intro k hk hy; have h1 := OwnG.lt O_w0 k hk; have h2 := OwnF.lt O_c4 k hy; omega
  have D_bw0_c4 : ∀ k, k = W_w0.heap.size → ¬ (Value.ownBlock (.slice ao_c4 xs1.length cap_c4) = some k) := by intro k hk hy; have h1 := OwnC.lt O_bw0 k hk; have h2 := OwnF.lt O_c4 k hy; omega
  have D_x1_c4 : ∀ k, Value.ownBlock (.slice ao_x1 xs1.length cap_x1) = some k → ¬ (Value.ownBlock (.slice ao_c4 xs1.length cap_c4) = some k) := by intro k hk hy; have h1 := OwnF.lt O_x1 k hk; have h2 := OwnF.lt O_c4 k hy; omega
  have D_g0_c4 : ∀ k, gB (.slice ap_g0 ys_g0.length cp_g0) (.slice ar_g0 qs_g0.length cr_g0) vs_g0 k → ¬ (Value.ownBlock (.slice ao_c4 xs1.length cap_c4) = some k) := by intro k hk hy; have h1 := OwnG.lt O_g0 k hk; have h2 := OwnF.lt O_c4 k hy; omega
  have D_bg0_c4 : ∀ k, k = W_g0.heap.size → ¬ (Value.ownBlock (.slice ao_c4 xs1.length cap_c4) = some k) := by intro k hk hy; have h1 := OwnC.lt O_bg0 k hk; have h2 := OwnF.lt O_c4 k hy; omega
  replace O_w0 := OwnG.ext (by exact O_w0) E
  replace O_bw0 := OwnC.ext (by exact O_bw0) E
  replace O_x1 := OwnF.ext (by exact O_x1) E
  replace O_g0 := OwnG.ext (by exact O_g0) E
  replace O_bg0 := OwnC.ext (by exact O_bg0) E
  replace O_c4 := OwnF.mono O_c4 T.size
  replace T := Ext.trans (by repeat (first | exact T | apply Ext.drewN)) E
  clear E
  go_wp2_with (first | (refine wl_load_row rfl _ _ rfl _ rfl _ _ _ (OwnC.cells O_bw0) Try.underlying47 rfl infoG ?_) | (refine wl_load_row rfl _ _ rfl _ rfl _ _ _ (OwnC.cells O_bg0) Try.underlying47 rfl infoG ?_))
  refine (implFlat_any _ _ _ _ _ (by exact OwnF.toFR O_c4) hl1).mono ?_
  rintro _ W_h0 ⟨t_h0, pv, rv, vs_h0, ys_h0, qs_h0, rfl, E, O_h0, HT, HP, HR⟩
  obtain ⟨⟨ap_h0, cp_h0, rfl, _⟩, ⟨ar_h0, cr_h0, rfl, _⟩⟩ := OwnG.fr O_h0
  subst HT
  have HP_h0 := Lib.hid HP
  have HR_h0 := Lib.hid HR
  clear HP HR
  have D_w0_h0 : ∀ k, gB (.slice ap_w0 ys_w0.length cp_w0) (.slice ar_w0 qs_w0.length cr_w0) vs_w0 k → ¬ (gB (.slice ap_h0 ys_h0.length cp_h0) (.slice ar_h0 qs_h0.length cr_h0) vs_h0 k) := by intro k hk hy; have h1 := OwnG.lt O_w0 k hk; have h2 := OwnG.lt O_h0 k hy; omega
  have D_bw0_h0 : ∀ k, k = W_w0.heap.size → ¬ (gB (.slice ap_h0 ys_h0.length cp_h0) (.slice ar_h0 qs_h0.length cr_h0) vs_h0 k) := by intro k hk hy; have h1 := OwnC.lt O_bw0 k hk; have h2 := OwnG.lt O_h0 k hy; omega
  have D_x1_h0 : ∀ k, Value.ownBlock (.slice ao_x1 xs1.length cap_x1) = some k → ¬ (gB (.slice ap_h0 ys_h0.length cp_h0) (.slice ar_h0 qs_h0.length cr_h0) vs_h0 k) := by intro k hk hy; have h1 := OwnF.lt O_x1 k hk; have h2 := OwnG.lt O_h0 k hy; omega
  have D_g0_h0 : ∀ k, gB (.slice ap_g0 ys_g0.length cp_g0) (.slice ar_g0 qs_g0.length cr_g0) vs_g0 k → ¬ (gB (.slice ap_h0 ys_h0.length cp_h0) (.slice ar_h0 qs_h0.length cr_h0) vs_h0 k) := by intro k hk hy; have h1 := OwnG.lt O_g0 k hk; have h2 := OwnG.lt O_h0 k hy; omega
  have D_bg0_h0 : ∀ k, k = W_g0.heap.size → ¬ (gB (.slice ap_h0 ys_h0.length cp_h0) (.slice ar_h0 qs_h0.length cr_h0) vs_h0 k) := by intro k hk hy; have h1 := OwnC.lt O_bg0 k hk; have h2 := OwnG.lt O_h0 k hy; omega
  have D_c4_h0 : ∀ k, Value.ownBlock (.slice ao_c4 xs1.length cap_c4) = some k → ¬ (gB (.slice ap_h0 ys_h0.length cp_h0) (.slice ar_h0 qs_h0.length cr_h0) vs_h0 k) := by intro k hk hy; have h1 := OwnF.lt O_c4 k hk; have h2 := OwnG.lt O_h0 k hy; omega
  replace O_w0 := OwnG.ext (by exact O_w0) E
  replace O_bw0 := OwnC.ext (by exact O_bw0) E
  replace O_x1 := OwnF.ext (by exact O_x1) E
  replace O_g0 := OwnG.ext (by exact O_g0) E
  replace O_bg0 := OwnC.ext (by exact O_bg0) E
  replace O_c4 := OwnF.ext (by exact O_c4) E
  replace O_h0 := OwnG.mono O_h0 T.size
  replace T := Ext.trans (by repeat (first | exact T | apply Ext.drewN)) E
  clear E
  have E := (Ext.refl W_h0).alloc (.cells #[.int .i64 (((flatO a0 (cl xs1)).map (·.1)).getD 0), .slice ap_h0 ys_h0.length cp_h0, .slice ar_h0 qs_h0.length cr_h0] 47)
  have O_bh0 := OwnC.new W_h0 #[.int .i64 (((flatO a0 (cl xs1)).map (·.1)).getD 0), .slice ap_h0 ys_h0.length cp_h0, .slice ar_h0 qs_h0.length cr_h0] 47
  have D_w0_bh0 : ∀ k, gB (.slice ap_w0 ys_w0.length cp_w0) (.slice ar_w0 qs_w0.length cr_w0) vs_w0 k → ¬ (k = W_h0.heap.size) := by intro k hk hy; have h1 := OwnG.lt O_w0 k hk; have h2 := OwnC.lt O_bh0 k hy; omega
  have D_bw0_bh0 : ∀ k, k = W_w0.heap.size → ¬ (k = W_h0.heap.size) := by intro k hk hy; have h1 := OwnC.lt O_bw0 k hk; have h2 := OwnC.lt O_bh0 k hy; omega
  have D_x1_bh0 : ∀ k, Value.ownBlock (.slice ao_x1 xs1.length cap_x1) = some k → ¬ (k = W_h0.heap.size) := by intro k hk hy; have h1 := OwnF.lt O_x1 k hk; have h2 := OwnC.lt O_bh0 k hy; omega
  have D_g0_bh0 : ∀ k, gB (.slice ap_g0 ys_g0.length cp_g0) (.slice ar_g0 qs_g0.length cr_g0) vs_g0 k → ¬ (k = W_h0.heap.size) := by intro k hk hy; have h1 := OwnG.lt O_g0 k hk; have h2 := OwnC.lt O_bh0 k hy; omega
  have D_bg0_bh0 : ∀ k, k = W_g0.heap.size → ¬ (k = W_h0.heap.size) := by intro k hk hy; have h1 := OwnC.lt O_bg0 k hk; have h2 := OwnC.lt O_bh0 k hy; omega
  have D_c4_bh0 : ∀ k, Value.ownBlock (.slice ao_c4 xs1.length cap_c4) = some k → ¬ (k = W_h0.heap.size) := by intro k hk hy; have h1 := OwnF.lt O_c4 k hk; have h2 := OwnC.lt O_bh0 k hy; omega
  have D_h0_bh0 : ∀ k, gB (.slice ap_h0 ys_h0.length cp_h0) (.slice ar_h0 qs_h0.length cr_h0) vs_h0 k → ¬ (k = W_h0.heap.size) := by intro k hk hy; have h1 := OwnG.lt O_h0 k hk; have h2 := OwnC.lt O_bh0 k hy; omega
  replace O_w0 := OwnG.ext (by exact O_w0) E
  replace O_bw0 := OwnC.ext (by exact O_bw0) E
  replace O_x1 := OwnF.ext (by exact O_x1) E
  replace O_g0 := OwnG.ext (by exact O_g0) E
  replace O_bg0 := OwnC.ext (by exact O_bg0) E
  replace O_c4 := OwnF.ext (by exact O_c4) E
  replace O_h0 := OwnG.ext (by exact O_h0) E
  replace O_bh0 := OwnC.mono O_bh0 T.size
  replace T := Ext.trans (by repeat (first | exact T | apply Ext.drewN)) E
  clear E
  clear O_c4
  go_wp2_with (first | (refine wl_load_row rfl _ _ rfl _ rfl _ _ _ (OwnC.cells O_bw0) Try.underlying47 rfl infoG ?_) | (refine wl_load_row rfl _ _ rfl _ rfl _ _ _ (OwnC.cells O_bg0) Try.underlying47 rfl infoG ?_) | (refine wl_load_row rfl _ _ rfl _ rfl _ _ _ (OwnC.cells O_bh0) Try.underlying47 rfl infoG ?_))
  go_at_call 45; refine (eqGather_yes _ _ _ _ _ _ _ _ _ _ _ _ _ _ (by exact OwnG.fp O_h0) (by exact OwnG.fs O_h0) (by exact OwnG.fp O_w0) (by exact OwnG.fs O_w0) (HP_h0.out.trans HP_w0.out.symm) (HR_h0.out.trans HR_w0.out.symm) (small_of HP_h0.out HR_h0.out hsl.out)).mono ?_
  rintro _ _ ⟨rfl, E⟩
  replace O_w0 := OwnG.ext (by exact O_w0) E
  replace O_bw0 := OwnC.ext (by exact O_bw0) E
  replace O_x1 := OwnF.ext (by exact O_x1) E
  replace O_g0 := OwnG.ext (by exact O_g0) E
  replace O_bg0 := OwnC.ext (by exact O_bg0) E
  replace O_h0 := OwnG.ext (by exact O_h0) E
  replace O_bh0 := OwnC.ext (by exact O_bh0) E
  replace T := Ext.trans (by repeat (first | exact T | apply Ext.drewN)) E
  clear E
  go_wp2_with (first | (refine wl_load_row rfl _ _ rfl _ rfl _ _ _ (OwnC.cells O_bw0) Try.underlying47 rfl infoG ?_) | (refine wl_load_row rfl _ _ rfl _ rfl _ _ _ (OwnC.cells O_bg0) Try.underlying47 rfl infoG ?_) | (refine wl_load_row rfl _ _ rfl _ rfl _ _ _ (OwnC.cells O_bh0) Try.underlying47 rfl infoG ?_))
  go_at_call 51; refine (heldGather_any _ _ _ _ _ _ _ _ _ _ _ (by exact O_g0) (small_of HP_g0.out HR_g0.out hsl.out) (by omega) (by omega)).mono ?_
  rintro _ _ ⟨rfl, E⟩
  replace O_w0 := OwnG.ext (by exact O_w0) E
  replace O_bw0 := OwnC.ext (by exact O_bw0) E
  replace O_x1 := OwnF.ext (by exact O_x1) E
  replace O_g0 := OwnG.ext (by exact O_g0) E
  replace O_bg0 := OwnC.ext (by exact O_bg0) E
  replace O_h0 := OwnG.ext (by exact O_h0) E
  replace O_bh0 := OwnC.ext (by exact O_bh0) E
  replace T := Ext.trans (by repeat (first | exact T | apply Ext.drewN)) E
  clear E
  go_wp2_with (first | (refine wl_load_row rfl _ _ rfl _ rfl _ _ _ (OwnC.cells O_bw0) Try.underlying47 rfl infoG ?_) | (refine wl_load_row rfl _ _ rfl _ rfl _ _ _ (OwnC.cells O_bg0) Try.underlying47 rfl infoG ?_) | (refine wl_load_row rfl _ _ rfl _ rfl _ _ _ (OwnC.cells O_bh0) Try.underlying47 rfl infoG ?_))
  go_ret
  exact ⟨rfl, T⟩

set_option maxRecDepth 100000 in
theorem lifted (os : Os) (started : os.Started) (H : Type) (enc : TypeId × Value → H) :
    ReturnsInHanded {} Try.checked os 11 .any (Rows.fnExactFlatGatherSpec.pre6 enc Try.prog Try.f11 Rows.fnExactFlatGatherRow.domain false) (Rows.fnExactFlatGatherSpec.post enc Try.prog Try.f11 false true false false) := by
  refine returnsInHanded_of_change (C := Try.checked) own started (by kernel_rfl) Try.func11
    (ChangeSpec.witness6 (enc := enc) (C := Try.checked) false ⟨#[], #[.int .i64 0, .slice none 0 0], []⟩ 8 (by kernel_rfl) (by kernel_rfl) (by kernel_rfl) (by kernel_rfl)) ?_
  intro W base args ds gs before hval0 hW hcnd _
  have hval : ∀ (j : Nat) t v, Try.f11.params[j]? = some t → args[j]? = some v → Value.okWide Try.prog W .any base t v := hval0
  have hW' := hW
  obtain ⟨p, q, hA0, hV, rfl, hfz, hnd⟩ := hW
  have hA : DataW.TrodAll enc Try.prog W 0 (fun _ => true) true Try.f11.params.toList args.toList ds p := hA0
  rw [Try.params11] at hA hval
  obtain ⟨v0, vs0, d0, ds0, p0, q0, hargs, rfl, rfl, h0, r0⟩ := trodAll_cons hA
  obtain ⟨v1, vs1, d1, ds1, p1, q1, rfl, rfl, rfl, h1, r1⟩ := trodAll_cons r0
  obtain ⟨rfl, rfl, rfl⟩ := trodAll_nil r1
  obtain rfl : args = #[v0, v1] := by cases args; simp_all
  obtain ⟨rfl, rfl⟩ := trodVars_none hV
  obtain ⟨a0, rfl, rfl, rfl, wf0⟩ := open_int Try.underlying2 (hval 0 2 v0 rfl rfl) h0
  have hi0 : -9223372036854775808 ≤ a0 ∧ a0 ≤ 9223372036854775807 := by simpa [Lit.wf, IntKind.min, IntKind.max, IntKind.signed, IntKind.bits] using wf0
  have k1 := h1
  have lt1 : ∀ x ∈ p1, x.block < W.heap.size := by obtain ⟨m, hm⟩ := k1; exact DataW.trod_lt m _ _ _ hm
  obtain ⟨ao1, cap1, xs1, rfl, hc1, _, _⟩ := open_floats Try.underlying22 Try.underlying23 cells32 (hval 1 22 v1 rfl rfl) h1
  clear hA0 hval0
  refine (walk a0 ao1 cap1 xs1 W hi0 hc1).mono fun e W' ⟨he, bel⟩ => ?_
  subst he
  exact ⟨_, rfl, _, _, _, [], _, [], hW', trodAll_mk1 (shut_bool Try.underlying4 _), (trodAll_cons_mk (shut_int Try.underlying2 wf0) (trodAll_cons_mk (Below.trod laidOut (by kernel_rfl) (of_decide_eq_true (by kernel_rfl)) k1 bel lt1) trodAll_mk0)), rfl, Below.frame (show Below W.heap.size W W' from bel) _, fun h => by cases h⟩
theorem closed : joinedFacts Try.prog 11 Try.f11 Rows.fnExactFlatGatherSpec Rows.fnExactFlatGatherRow = true := by
  unfold joinedFacts
  rw [Go.Proofs.Ytncolcjjmllfeaa.mayEnter, Go.Proofs.Ytncolcjjmllfeaa.liftsFinal, Go.Proofs.Ytncolcjjmllfeaa.make]
  kernel_rfl
theorem proved : Rows.FnExactFlatGatherSaid :=
  OpenClaim.holds_of_wide 11 Try.f11 rfl rfl rfl rfl rfl rfl rfl ⟨rfl, rfl, rfl, rfl, rfl⟩ rfl rfl rfl rfl rfl (by kernel_rfl) Try.func11 closed
    (of_decide_eq_true (by kernel_rfl)) (by unfold Func.isWrapper; first | (rw [if_pos (by decide +kernel)]; kernel_rfl) | (rw [if_neg (by decide +kernel)]; exact ⟨rfl, rfl⟩))
    (fun os started H enc _ => lifted os started H enc)
end Go.Proofs.Ytncolcjjmllfeaa.xFlatGather
