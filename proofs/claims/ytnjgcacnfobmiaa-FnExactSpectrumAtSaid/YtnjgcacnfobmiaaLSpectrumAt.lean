/- The statement FnExactSpectrumAt: for every input the law's function returns true, and each argument reads behind the call as it read before. No condition. -/
import Derived.Test.YtnjgcacnfobmiaaRows
import Derived.Test.YtnjgcacnfobmiaaWords
import Derived.Test.YtnjgcacnfobmiaaGat
import Derived.Test.YtnjgcacnfobmiaaFSpc
import Derived.ProofKit
import Derived.OpenShut
import Derived.ChangeOld
namespace Go.Proofs.Ytnjgcacnfobmiaa.xSpectrumAt
open Go.RowKit Go.ChangeShapes Go.WideShapes Go.ChangeAt
set_option maxRecDepth 100000
open Go.Proofs.Ytnjgcacnfobmiaa
set_option linter.unusedVariables false

set_option maxRecDepth 100000 in
set_option maxHeartbeats 4000000 in
theorem walk (ao0 : Option Addr) (cap0 : Nat) (xs0 : List Nat) (a1 : Nat) (w : World) (hc0 : FR w ao0 xs0) : Calls Try.prog 7 #[.slice ao0 xs0.length cap0, .float .f32 a1] w fun e w' => e = .returned (.bool true) ∧ Ext w w' := by
  by_cases hl0 : xs0.length ≤ 1048576
  case neg =>
    have hl' : 1048576 < xs0.length := by omega
    go_enter Try.func7, Try.ntmps7
    go_wp2_with fail
    all_goals go_ret
    all_goals exact ⟨rfl, Ext.refl _⟩
  have T : Ext w w := Ext.refl _
  go_enter Try.func7, Try.ntmps7
  go_wp2_with fail
  go_at_call 21; refine (toFloat32S_any _ _ _ _ (by exact hc0.ext T) hl0).mono ?_
  rintro _ W_c1 ⟨v, rfl, E, O_c1⟩
  obtain ⟨ao_c1, cap_c1, rfl, _⟩ := OwnF.fr O_c1
  replace O_c1 := OwnF.mono O_c1 T.size
  replace T := Ext.trans (by repeat (first | exact T | apply Ext.drewN)) E
  clear E
  go_wp2_with fail
  refine (tr.specSpc_any _ _ _ _ _ _ (by exact OwnF.toFR O_c1) hl0 is_self).mono ?_
  rintro _ V2 ⟨r_w0, j_w0, rfl, I_w0, J_w0, E⟩
  replace O_c1 := OwnF.ext (by exact O_c1) E
  replace T := Ext.trans (by repeat (first | exact T | apply Ext.drewN)) E
  clear E
  clear O_c1
  go_wp2_with fail
  go_at_call 21; refine (toFloat32S_any _ _ _ _ (by exact hc0.ext T) hl0).mono ?_
  rintro _ W_x0 ⟨v, rfl, E, O_x0⟩
  obtain ⟨ao_x0, cap_x0, rfl, _⟩ := OwnF.fr O_x0
  replace O_x0 := OwnF.mono O_x0 T.size
  replace T := Ext.trans (by repeat (first | exact T | apply Ext.drewN)) E
  clear E
  go_wp2_with fail
  refine (tr.implSpc_any _ _ _ _ _ _ (by exact OwnF.toFR O_x0) hl0 is_self).mono ?_
  rintro _ V3 ⟨r_g0, j_g0, rfl, I_g0, J_g0, E⟩
  replace O_x0 := OwnF.ext (by exact O_x0) E
  replace T := Ext.trans (by repeat (first | exact T | apply Ext.drewN)) E
  clear E
  go_wp2_with (first | (refine wl_cwiden rfl rfl rfl (by first | exact rfl | kernel_rfl) (by kernel_rfl) (by assumption) (by assumption) ?_; intro r i dn hr hi))
  go_at_call 38; refine (sameC_yes _ _ _ _ _ _ _ (by assumption) (by assumption) (by assumption) (by assumption)).mono ?_
  rintro _ w4 ⟨rfl, dn, hw⟩
  replace O_x0 := own_drew O_x0 (by exact hw)
  replace T : Ext w w4 := ext_drew (by repeat (first | exact T | apply Ext.drewN)) hw
  clear hw
  go_wp2_with fail
  go_at_call 21; refine (toFloat32S_any _ _ _ _ (by exact hc0.ext T) hl0).mono ?_
  rintro _ W_c5 ⟨v, rfl, E, O_c5⟩
  obtain ⟨ao_c5, cap_c5, rfl, _⟩ := OwnF.fr O_c5
  have D_x0_c5 : ∀ k, Value.ownBlock (.slice ao_x0 xs0.length cap_x0) = some k → ¬ (Value.ownBlock (.slice ao_c5 xs0.length cap_c5) = some k) := by intro k hk hy; have h1 := OwnF.lt O_x0 k hk; have h2 := OwnF.lt O_c5 k hy; omega
  replace O_x0 := OwnF.ext (by exact O_x0) E
  replace O_c5 := OwnF.mono O_c5 T.size
  replace T := Ext.trans (by repeat (first | exact T | apply Ext.drewN)) E
  clear E
  go_wp2_with fail
  go_at_call 24; refine (eqFloat32S_yes _ _ _ _ _ _ _ (by exact OwnF.toFR O_x0) (by exact OwnF.toFR O_c5) rfl hl0).mono ?_
  rintro _ w6 ⟨rfl, dn, hw⟩
  replace O_x0 := own_drew O_x0 (by exact hw)
  replace O_c5 := own_drew O_c5 (by exact hw)
  replace T : Ext w w6 := ext_drew (by repeat (first | exact T | apply Ext.drewN)) hw
  clear hw
  clear O_c5
  go_wp2_with fail
  go_ret
  exact ⟨rfl, T⟩

set_option maxRecDepth 100000 in
theorem lifted (os : Os) (started : os.Started) (H : Type) (enc : TypeId × Value → H) :
    ReturnsInHanded {} Try.checked os 7 .any (Rows.fnExactSpectrumAtSpec.pre6 enc Try.prog Try.f7 Rows.fnExactSpectrumAtRow.domain false) (Rows.fnExactSpectrumAtSpec.post enc Try.prog Try.f7 false true false false) := by
  refine returnsInHanded_of_change (C := Try.checked) own started (by kernel_rfl) Try.func7
    (ChangeSpec.witness6 (enc := enc) (C := Try.checked) false ⟨#[], #[.slice none 0 0, .float .f32 0], []⟩ 8 (by kernel_rfl) (by kernel_rfl) (by kernel_rfl) (by kernel_rfl)) ?_
  intro W base args ds gs before hval0 hW hcnd _
  have hval : ∀ (j : Nat) t v, Try.f7.params[j]? = some t → args[j]? = some v → Value.okWide Try.prog W .any base t v := hval0
  have hW' := hW
  obtain ⟨p, q, hA0, hV, rfl, hfz, hnd⟩ := hW
  have hA : DataW.TrodAll enc Try.prog W 0 (fun _ => true) true Try.f7.params.toList args.toList ds p := hA0
  rw [Try.params7] at hA hval
  obtain ⟨v0, vs0, d0, ds0, p0, q0, hargs, rfl, rfl, h0, r0⟩ := trodAll_cons hA
  obtain ⟨v1, vs1, d1, ds1, p1, q1, rfl, rfl, rfl, h1, r1⟩ := trodAll_cons r0
  obtain ⟨rfl, rfl, rfl⟩ := trodAll_nil r1
  obtain rfl : args = #[v0, v1] := by cases args; simp_all
  obtain ⟨rfl, rfl⟩ := trodVars_none hV
  have k0 := h0
  have lt0 : ∀ x ∈ p0, x.block < W.heap.size := by obtain ⟨m, hm⟩ := k0; exact DataW.trod_lt m _ _ _ hm
  obtain ⟨ao0, cap0, xs0, rfl, hc0, _, _⟩ := open_floats Try.underlying22 Try.underlying34 cells32 (hval 0 22 v0 rfl rfl) h0
  obtain ⟨a1, rfl, rfl, rfl, wf1⟩ := open_float Try.underlying34 (hval 1 34 v1 rfl rfl) h1
  clear hA0 hval0
  refine (walk ao0 cap0 xs0 a1 W hc0).mono fun e W' ⟨he, bel⟩ => ?_
  subst he
  exact ⟨_, rfl, _, _, _, [], _, [], hW', trodAll_mk1 (shut_bool Try.underlying4 _), (trodAll_cons_mk (Below.trod laidOut (by kernel_rfl) (of_decide_eq_true (by kernel_rfl)) k0 bel lt0) (trodAll_cons_mk (shut_float Try.underlying34 wf1) trodAll_mk0)), rfl, Below.frame (show Below W.heap.size W W' from bel) _, fun h => by cases h⟩
theorem closed : joinedFacts Try.prog 7 Try.f7 Rows.fnExactSpectrumAtSpec Rows.fnExactSpectrumAtRow = true := by
  unfold joinedFacts
  rw [Go.Proofs.Ytnjgcacnfobmiaa.mayEnter, Go.Proofs.Ytnjgcacnfobmiaa.liftsFinal, Go.Proofs.Ytnjgcacnfobmiaa.make]
  kernel_rfl
theorem proved : Rows.FnExactSpectrumAtSaid :=
  OpenClaim.holds_of_wide 7 Try.f7 rfl rfl rfl rfl rfl rfl rfl ⟨rfl, rfl, rfl, rfl, rfl⟩ rfl rfl rfl rfl rfl (by kernel_rfl) Try.func7 closed
    (of_decide_eq_true (by kernel_rfl)) (by unfold Func.isWrapper; first | (rw [if_pos (by decide +kernel)]; kernel_rfl) | (rw [if_neg (by decide +kernel)]; exact ⟨rfl, rfl⟩))
    (fun os started H enc _ => lifted os started H enc)
end Go.Proofs.Ytnjgcacnfobmiaa.xSpectrumAt
