/- The statement FnExactPassAngle: for every input the law's function returns true, and each argument reads behind the call as it read before. No condition. -/
import Derived.Test.YtnjgcacnfobmiaaRows
import Derived.Test.YtnjgcacnfobmiaaWords
import Derived.Test.YtnjgcacnfobmiaaGat
import Derived.Test.YtnjgcacnfobmiaaFAngP
import Derived.ProofKit
import Derived.OpenShut
import Derived.ChangeOld
import Derived.Deep.RegionHeld3
namespace Go.Proofs.Ytnjgcacnfobmiaa.xPassAngle
open Go.RowKit Go.ChangeShapes Go.WideShapes Go.ChangeAt
set_option maxRecDepth 100000
open Go.Proofs.Ytnjgcacnfobmiaa
set_option linter.unusedVariables false

set_option maxRecDepth 100000 in
set_option maxHeartbeats 4000000 in
theorem walk (la0 : Option Addr) (lc0 n0 : Nat) (ls0 : List Nat) (sp0 de0 : Nat) (a1 : Int) (a2 : Nat) (w : World) (hc0 : LR w la0 n0 ls0) (hb0 : n0 ≤ 9223372036854775807) (hi1 : -9223372036854775808 ≤ a1 ∧ a1 ≤ 9223372036854775807) : Calls Try.prog 19 #[.agg #[.slice la0 n0 lc0, .float .f32 sp0, .float .f32 de0], .int .i64 a1, .float .f32 a2] w fun e w' => e = .returned (.bool true) ∧ Ext w w' := by
  have EW : Ext w (w.alloc (.cells #[.slice la0 n0 lc0, .float .f32 sp0, .float .f32 de0] 73)) := ((Ext.refl w).alloc _)
  replace hc0 := hc0.ext EW
  by_cases hl0 : n0 ≤ 1048576
  case neg =>
    have T : Ext (w.alloc (.cells #[.slice la0 n0 lc0, .float .f32 sp0, .float .f32 de0] 73)) (w.alloc (.cells #[.slice la0 n0 lc0, .float .f32 sp0, .float .f32 de0] 73)) := Ext.refl _
    go_enter Try.func19, Try.ntmps19
    have hbox0 : Cells _ (w.heap.size) #[.slice la0 n0 lc0, .float .f32 sp0, .float .f32 de0] 73 := Cells.ext (Cells.new w _ _) T
    go_wp2_with (first | (refine wpList_load_row rfl _ _ rfl _ rfl _ _ _ _ hbox0 Try.underlying73 rfl infoLGr ?_))
    clear hbox0
    go_at_call 58; have hq := szGround_no la0 lc0 n0 sp0 de0 (1048576) (w.alloc (.cells #[.slice la0 n0 lc0, .float .f32 sp0, .float .f32 de0] 73)) (by omega) (by omega) hb0; refine hq.mono ?_; clear hq
    rintro _ _ ⟨rfl, E⟩
    replace T := Ext.trans T E
    clear E
    go_wp2_with fail
    go_ret
    exact ⟨rfl, Ext.trans EW T⟩
  have T : Ext (w.alloc (.cells #[.slice la0 n0 lc0, .float .f32 sp0, .float .f32 de0] 73)) (w.alloc (.cells #[.slice la0 n0 lc0, .float .f32 sp0, .float .f32 de0] 73)) := Ext.refl _
  go_enter Try.func19, Try.ntmps19
  have hz0 : (0 : Int) ≤ 1048576 - (n0 : Int) := by omega
  have hbox0 : Cells _ (w.heap.size) #[.slice la0 n0 lc0, .float .f32 sp0, .float .f32 de0] 73 := Cells.ext (Cells.new w _ _) T
  go_wp2_with (first | (refine wpList_load_row rfl _ _ rfl _ rfl _ _ _ _ hbox0 Try.underlying73 rfl infoLGr ?_))
  clear hbox0
  go_at_call 58; have hq := szGround_ok la0 lc0 n0 sp0 de0 (1048576) (w.alloc (.cells #[.slice la0 n0 lc0, .float .f32 sp0, .float .f32 de0] 73)) (by omega) (by omega); refine hq.mono ?_; clear hq
  rintro _ Vz0 ⟨rfl, E⟩
  replace T := Ext.trans T E
  clear E
  have hbox0 : Cells _ (w.heap.size) #[.slice la0 n0 lc0, .float .f32 sp0, .float .f32 de0] 73 := Cells.ext (Cells.new w _ _) T
  go_wp2_with (first | (refine wpList_load_row rfl _ _ rfl _ rfl _ _ _ _ hbox0 Try.underlying73 rfl infoLGr ?_))
  clear hbox0
  go_at_call 60; refine (toGround_any _ _ _ _ _ _ _ (by exact hc0.ext T) hl0).mono ?_
  rintro _ W_c1 ⟨v, rfl, E, O_c1⟩
  obtain ⟨ao_c1, cap_c1, rfl, _⟩ := OwnL.fr O_c1
  replace O_c1 := OwnL.mono O_c1 T.size
  replace T := Ext.trans (by repeat (first | exact T | apply Ext.drewN)) E
  clear E
  have hbox0 : Cells _ (w.heap.size) #[.slice la0 n0 lc0, .float .f32 sp0, .float .f32 de0] 73 := Cells.ext (Cells.new w _ _) T
  go_wp2_with (first | (refine wpList_load_row rfl _ _ rfl _ rfl _ _ _ _ hbox0 Try.underlying73 rfl infoLGr ?_))
  clear hbox0
  refine (specPas_any _ _ _ _ _ _ _ _ _ _ (by exact OwnL.lr O_c1) hl0 hi1.1 hi1.2 is_self).mono ?_
  rintro _ V2 ⟨r_w0, j_w0, rfl, I_w0, J_w0, E⟩
  replace O_c1 := OwnL.ext (by exact O_c1) E
  replace T := Ext.trans (by repeat (first | exact T | apply Ext.drewN)) E
  clear E
  clear O_c1
  have hbox0 : Cells _ (w.heap.size) #[.slice la0 n0 lc0, .float .f32 sp0, .float .f32 de0] 73 := Cells.ext (Cells.new w _ _) T
  go_wp2_with (first | (refine wpList_load_row rfl _ _ rfl _ rfl _ _ _ _ hbox0 Try.underlying73 rfl infoLGr ?_))
  clear hbox0
  go_at_call 60; refine (toGround_any _ _ _ _ _ _ _ (by exact hc0.ext T) hl0).mono ?_
  rintro _ W_x0 ⟨v, rfl, E, O_x0⟩
  obtain ⟨ao_x0, cap_x0, rfl, _⟩ := OwnL.fr O_x0
  replace O_x0 := OwnL.mono O_x0 T.size
  replace T := Ext.trans (by repeat (first | exact T | apply Ext.drewN)) E
  clear E
  have E := (Ext.refl W_x0).alloc (.cells #[.slice ao_x0 n0 cap_x0, .float .f32 sp0, .float .f32 de0] 79)
  have O_bx0 := OwnC.new W_x0 #[.slice ao_x0 n0 cap_x0, .float .f32 sp0, .float .f32 de0] 79
  have D_x0_bx0 : ∀ k, Value.ownBlock (.slice ao_x0 n0 cap_x0) = some k → ¬ (k = W_x0.heap.size) := by intro k hk hy; have h1 := OwnL.lt O_x0 k hk; have h2 := OwnC.lt O_bx0 k hy; omega
  replace O_x0 := OwnL.ext (by exact O_x0) E
  replace O_bx0 := OwnC.mono O_bx0 T.size
  replace T := Ext.trans (by repeat (first | exact T | apply Ext.drewN)) E
  clear E
  have hbox0 : Cells _ (w.heap.size) #[.slice la0 n0 lc0, .float .f32 sp0, .float .f32 de0] 73 := Cells.ext (Cells.new w _ _) T
  go_wp2_with (first | (refine wpList_load_row rfl _ _ rfl _ rfl _ _ _ _ hbox0 Try.underlying73 rfl infoLGr ?_) | (refine wl_load_row rfl _ _ rfl _ rfl _ _ _ (OwnC.cells O_bx0) Try.underlying79 rfl infoGr ?_))
  clear hbox0
  refine (implPas_any _ _ _ _ _ _ _ _ _ _ (by exact OwnL.lr O_x0) hl0 hi1.1 hi1.2 is_self).mono ?_
  rintro _ V3 ⟨r_g0, j_g0, rfl, I_g0, J_g0, E⟩
  replace O_x0 := OwnL.ext (by exact O_x0) E
  replace O_bx0 := OwnC.ext (by exact O_bx0) E
  replace T := Ext.trans (by repeat (first | exact T | apply Ext.drewN)) E
  clear E
  have hbox0 : Cells _ (w.heap.size) #[.slice la0 n0 lc0, .float .f32 sp0, .float .f32 de0] 73 := Cells.ext (Cells.new w _ _) T
  go_wp2_with (first | (refine wpList_load_row rfl _ _ rfl _ rfl _ _ _ _ hbox0 Try.underlying73 rfl infoLGr ?_) | (refine wl_load_row rfl _ _ rfl _ rfl _ _ _ (OwnC.cells O_bx0) Try.underlying79 rfl infoGr ?_) | (refine wl_cwiden rfl rfl rfl (by first | exact rfl | kernel_rfl) (by kernel_rfl) (by assumption) (by assumption) ?_; intro r i dn hr hi))
  clear hbox0
  go_at_call 38; refine (sameC_yes _ _ _ _ _ _ _ (by assumption) (by assumption) (by assumption) (by assumption)).mono ?_
  rintro _ w4 ⟨rfl, dn, hw⟩
  replace O_x0 := ownL_drew O_x0 (by exact hw)
  replace O_bx0 := ownC_drew O_bx0 (by exact hw)
  replace T : Ext (w.alloc (.cells #[.slice la0 n0 lc0, .float .f32 sp0, .float .f32 de0] 73)) w4 := ext_drew (by repeat (first | exact T | apply Ext.drewN)) hw
  clear hw
  have hbox0 : Cells _ (w.heap.size) #[.slice la0 n0 lc0, .float .f32 sp0, .float .f32 de0] 73 := Cells.ext (Cells.new w _ _) T
  have hx := OwnC.cells O_bx0
  have q0 := hbox0.at 0
  have q1 := hbox0.at 1
  have q2 := hbox0.at 2
  have q3 := hx.at 0
  have q4 := hx.at 1
  have q5 := hx.at 2
  simp only [List.getElem?_toArray, List.getElem?_cons_succ, List.getElem?_cons_zero] at q0 q1 q2 q3 q4 q5
  have S6 : ∀ w', Ext w4 w' → (Ext w4 w' ∧ w'.cell? ⟨w.heap.size, 0, none⟩ = some (.slice la0 n0 lc0) ∧ w'.cell? ⟨w.heap.size, 1, none⟩ = some (.float .f32 sp0) ∧ w'.cell? ⟨w.heap.size, 2, none⟩ = some (.float .f32 de0) ∧ w'.cell? ⟨W_x0.heap.size, 0, none⟩ = some (.slice ao_x0 n0 cap_x0) ∧ w'.cell? ⟨W_x0.heap.size, 1, none⟩ = some (.float .f32 sp0) ∧ w'.cell? ⟨W_x0.heap.size, 2, none⟩ = some (.float .f32 de0)) := fun w' h => ⟨h, h.cell q0, h.cell q1, h.cell q2, h.cell q3, h.cell q4, h.cell q5⟩
  go_wp2_with (first | (refine wpList_load_row rfl _ _ rfl _ rfl _ _ _ _ hbox0 Try.underlying73 rfl infoLGr ?_) | (refine wl_load_row rfl _ _ rfl _ rfl _ _ _ (OwnC.cells O_bx0) Try.underlying79 rfl infoGr ?_))
  go_region_held3 (fun w' => Ext w4 w' ∧ w'.cell? ⟨w.heap.size, 0, none⟩ = some (.slice la0 n0 lc0) ∧ w'.cell? ⟨w.heap.size, 1, none⟩ = some (.float .f32 sp0) ∧ w'.cell? ⟨w.heap.size, 2, none⟩ = some (.float .f32 de0) ∧ w'.cell? ⟨W_x0.heap.size, 0, none⟩ = some (.slice ao_x0 n0 cap_x0) ∧ w'.cell? ⟨W_x0.heap.size, 1, none⟩ = some (.float .f32 sp0) ∧ w'.cell? ⟨W_x0.heap.size, 2, none⟩ = some (.float .f32 de0))
    (first | (refine S6 _ ?_; repeat (first | assumption | exact Ext.refl _ | apply Ext.drewN | (refine Ext.trans (by assumption) ?_))))
    (first
      | (go_at_call 60; refine (toGround_any _ _ _ _ _ _ _ (hc0.ext (T.trans (by repeat (first | assumption | exact Ext.refl _ | apply Ext.drewN | (refine Ext.trans (by assumption) ?_))))) hl0).mono ?_; rintro _ W_c5 ⟨v, rfl, E, O_c5⟩; (have E' : Ext w4 W_c5 := Ext.trans (by repeat (first | assumption | exact Ext.refl _ | apply Ext.drewN | (refine Ext.trans (by assumption) ?_))) E); obtain ⟨ao_c5, cap_c5, rfl, _⟩ := OwnL.fr O_c5)
      | (go_at_call 62; refine (eqGround_yes _ _ _ _ _ _ _ _ _ ((OwnL.lr O_x0).ext (by repeat (first | assumption | exact Ext.refl _ | apply Ext.drewN | (refine Ext.trans (by assumption) ?_)))) ((OwnL.lr O_c5).ext (by repeat (first | assumption | exact Ext.refl _ | apply Ext.drewN | (refine Ext.trans (by assumption) ?_)))) hl0).mono ?_; rintro _ V6 ⟨rfl, E2⟩; (have E2' : Ext w4 V6 := Ext.trans (by repeat (first | assumption | exact Ext.refl _ | apply Ext.drewN | (refine Ext.trans (by assumption) ?_))) E2)))
  replace O_x0 := OwnL.ext (by exact O_x0) E2'
  replace O_bx0 := OwnC.ext (by exact O_bx0) E2'
  replace T := Ext.trans T E2'
  clear E2' E2 E' E S6 hx q0 q1 q2 q3 q4 q5 hbox0
  have hbox0 : Cells _ (w.heap.size) #[.slice la0 n0 lc0, .float .f32 sp0, .float .f32 de0] 73 := Cells.ext (Cells.new w _ _) T
  go_wp2_with (first | (refine wpList_load_row rfl _ _ rfl _ rfl _ _ _ _ hbox0 Try.underlying73 rfl infoLGr ?_) | (refine wl_load_row rfl _ _ rfl _ rfl _ _ _ (OwnC.cells O_bx0) Try.underlying79 rfl infoGr ?_))
  clear hbox0
  go_ret
  exact ⟨rfl, Ext.trans EW T⟩

set_option maxRecDepth 100000 in
theorem lifted (os : Os) (started : os.Started) (H : Type) (enc : TypeId × Value → H) :
    ReturnsInHanded {} Try.checked os 19 .any (Rows.fnExactPassAngleSpec.pre6 enc Try.prog Try.f19 Rows.fnExactPassAngleRow.domain false) (Rows.fnExactPassAngleSpec.post enc Try.prog Try.f19 false true false false) := by
  refine returnsInHanded_of_change (C := Try.checked) own started (by kernel_rfl) Try.func19
    (ChangeSpec.witness6 (enc := enc) (C := Try.checked) false ⟨#[], #[.agg #[.slice none 0 0, .float .f32 0, .float .f32 0], .int .i64 0, .float .f32 0], []⟩ 8 (by kernel_rfl) (by kernel_rfl) (by kernel_rfl) (by kernel_rfl)) ?_
  intro W base args ds gs before hval0 hW hcnd _
  have hval : ∀ (j : Nat) t v, Try.f19.params[j]? = some t → args[j]? = some v → Value.okWide Try.prog W .any base t v := hval0
  have hW' := hW
  obtain ⟨p, q, hA0, hV, rfl, hfz, hnd⟩ := hW
  have hA : DataW.TrodAll enc Try.prog W 0 (fun _ => true) true Try.f19.params.toList args.toList ds p := hA0
  rw [Try.params19] at hA hval
  obtain ⟨v0, vs0, d0, ds0, p0, q0, hargs, rfl, rfl, h0, r0⟩ := trodAll_cons hA
  obtain ⟨v1, vs1, d1, ds1, p1, q1, rfl, rfl, rfl, h1, r1⟩ := trodAll_cons r0
  obtain ⟨v2, vs2, d2, ds2, p2, q2, rfl, rfl, rfl, h2, r2⟩ := trodAll_cons r1
  obtain ⟨rfl, rfl, rfl⟩ := trodAll_nil r2
  obtain rfl : args = #[v0, v1, v2] := by cases args; simp_all
  obtain ⟨rfl, rfl⟩ := trodVars_none hV
  have k0 := h0
  have lt0 : ∀ x ∈ p0, x.block < W.heap.size := by obtain ⟨m, hm⟩ := k0; exact DataW.trod_lt m _ _ _ hm
  obtain ⟨la0, lc0, n0, ls0, sp0, de0, rfl, hc0, hb0⟩ := open_ground h0
  obtain ⟨a1, rfl, rfl, rfl, wf1⟩ := open_int Try.underlying2 (hval 1 2 v1 rfl rfl) h1
  have hi1 : -9223372036854775808 ≤ a1 ∧ a1 ≤ 9223372036854775807 := by simpa [Lit.wf, IntKind.min, IntKind.max, IntKind.signed, IntKind.bits] using wf1
  obtain ⟨a2, rfl, rfl, rfl, wf2⟩ := open_float Try.underlying34 (hval 2 34 v2 rfl rfl) h2
  clear hA0 hval0
  refine (walk la0 lc0 n0 ls0 sp0 de0 a1 a2 W hc0 hb0 hi1).mono fun e W' ⟨he, bel⟩ => ?_
  subst he
  exact ⟨_, rfl, _, _, _, [], _, [], hW', trodAll_mk1 (shut_bool Try.underlying4 _), (trodAll_cons_mk (Below.trod laidOut (by kernel_rfl) (of_decide_eq_true (by kernel_rfl)) k0 bel lt0) (trodAll_cons_mk (shut_int Try.underlying2 wf1) (trodAll_cons_mk (shut_float Try.underlying34 wf2) trodAll_mk0))), rfl, Below.frame (show Below W.heap.size W W' from bel) _, fun h => by cases h⟩
theorem closed : joinedFacts Try.prog 19 Try.f19 Rows.fnExactPassAngleSpec Rows.fnExactPassAngleRow = true := by
  unfold joinedFacts
  rw [Go.Proofs.Ytnjgcacnfobmiaa.mayEnter, Go.Proofs.Ytnjgcacnfobmiaa.liftsFinal, Go.Proofs.Ytnjgcacnfobmiaa.make]
  kernel_rfl
theorem proved : Rows.FnExactPassAngleSaid :=
  OpenClaim.holds_of_wide 19 Try.f19 rfl rfl rfl rfl rfl rfl rfl ⟨rfl, rfl, rfl, rfl, rfl⟩ rfl rfl rfl rfl rfl (by kernel_rfl) Try.func19 closed
    (of_decide_eq_true (by kernel_rfl)) (by unfold Func.isWrapper; first | (rw [if_pos (by decide +kernel)]; kernel_rfl) | (rw [if_neg (by decide +kernel)]; exact ⟨rfl, rfl⟩))
    (fun os started H enc _ => lifted os started H enc)
end Go.Proofs.Ytnjgcacnfobmiaa.xPassAngle
