/- The statement FnExactWaveletOf: for every input the law's function returns true, and each argument reads behind the call as it read before. No condition. -/
import Derived.Test.YtgilngdbhkefcaaRows
import Derived.Test.YtgilngdbhkefcaaFWavelet
import Derived.ProofKit
import Derived.OpenShut
import Derived.ChangeOld
namespace Go.Proofs.Ytgilngdbhkefcaa.xWaveletOf
open Go.RowKit Go.ChangeShapes Go.WideShapes Go.ChangeAt
open Go.Proofs.Ytgilngdbhkefcaa
set_option linter.unusedVariables false

set_option maxHeartbeats 1000000 in
theorem walk (a0 : Int) (a1 : Nat) (w : World) (hi0 : -9223372036854775808 ≤ a0 ∧ a0 ≤ 9223372036854775807) : Calls Try.prog 8 #[.int .i64 a0, .float .f32 a1] w fun e w' => e = .returned (.bool true) ∧ Ext w w' := by
  have T : Ext w w := Ext.refl w
  have hsl : Hid (((waveO a0 (canon .f32 a1)).getD []).length ≤ 1048576) := waveO_len _ _
  go_enter Try.func8, Try.ntmps8
  go_wp2_with fail
  refine (specWave_any _ _ _ _ hi0.1 hi0.2 is_self).mono ?_
  rintro _ _ ⟨v, ys_w0, rfl, E, O_w0, H⟩
  obtain ⟨ao_w0, cap_w0, rfl, _⟩ := OwnF.fr O_w0
  have H_w0 := Lib.hid H
  clear H
  replace O_w0 := OwnF.mono O_w0 T.size
  replace T := Ext.trans (by repeat (first | exact T | apply Ext.drewN)) E
  clear E
  go_wp2_with fail
  refine (wave_any _ _ _ _ hi0.1 hi0.2 is_self).mono ?_
  rintro _ _ ⟨v, ys_g0, rfl, E, O_g0, H⟩
  obtain ⟨ao_g0, cap_g0, rfl, _⟩ := OwnF.fr O_g0
  have H_g0 := Lib.hid H
  clear H
  have D_w0_g0 : ∀ k, Value.ownBlock (.slice ao_g0 ys_g0.length cap_g0) = some k → Value.ownBlock (.slice ao_w0 ys_w0.length cap_w0) ≠ some k := fun k hk => OwnF.at_ne O_w0 (.inr (OwnF.lt O_g0 k hk).1)
  replace O_w0 := OwnF.ext (by exact O_w0) E
  replace O_g0 := OwnF.mono O_g0 T.size
  replace T := Ext.trans (by repeat (first | exact T | apply Ext.drewN)) E
  clear E
  go_wp2_with fail
  go_at_call 18; refine (eqFloat32S_yes _ _ _ _ _ _ _ (by exact OwnF.toFR O_g0) (by exact OwnF.toFR O_w0) (H_g0.out.trans H_w0.out.symm) (by have h1 := congrArg List.length H_g0.out; rw [cl_length] at h1; have h2 := hsl.out; omega)).mono ?_
  rintro _ w1 ⟨rfl, n0, hw⟩
  replace O_w0 := own_drew O_w0 (by exact hw)
  replace O_g0 := own_drew O_g0 (by exact hw)
  replace T : Ext w w1 := ext_drew (by repeat (first | exact T | apply Ext.drewN)) hw
  clear hw
  go_wp2_with fail
  go_at_call 21; refine (markFloat32S_any _ _ _ 1 _ (by exact O_g0) (by have h1 := congrArg List.length H_g0.out; rw [cl_length] at h1; have h2 := hsl.out; omega) (by omega) (by omega)).mono ?_
  rintro _ _ ⟨rfl, hg, O⟩
  replace O_w0 := OwnF.kept (by exact O_w0) hg D_w0_g0
  replace T := Ext.grown (by repeat (first | exact T | apply Ext.drewN)) hg (fun k hk => (OwnF.lt O_g0 k hk).1)
  clear hg
  clear O_g0
  have O_g0 := O
  clear O
  go_wp2_with fail
  go_at_call 22; refine (heldFloat32S_any _ _ _ 1 _ (by exact OwnF.toFR O_g0) (by have h1 := congrArg List.length H_g0.out; rw [cl_length] at h1; have h2 := hsl.out; omega) (by omega) (by omega)).mono ?_
  rintro _ _ ⟨rfl, rfl⟩
  go_wp2_with fail
  refine (wave_any _ _ _ _ hi0.1 hi0.2 is_self).mono ?_
  rintro _ _ ⟨v, ys_h0, rfl, E, O_h0, H⟩
  obtain ⟨ao_h0, cap_h0, rfl, _⟩ := OwnF.fr O_h0
  have H_h0 := Lib.hid H
  clear H
  have D_w0_h0 : ∀ k, Value.ownBlock (.slice ao_h0 ys_h0.length cap_h0) = some k → Value.ownBlock (.slice ao_w0 ys_w0.length cap_w0) ≠ some k := fun k hk => OwnF.at_ne O_w0 (.inr (OwnF.lt O_h0 k hk).1)
  have D_g0_h0 : ∀ k, Value.ownBlock (.slice ao_h0 ys_h0.length cap_h0) = some k → Value.ownBlock (.slice ao_g0 ys_g0.length cap_g0) ≠ some k := fun k hk => OwnF.at_ne O_g0 (.inr (OwnF.lt O_h0 k hk).1)
  replace O_w0 := OwnF.ext (by exact O_w0) E
  replace O_g0 := OwnF.ext (by exact O_g0) E
  replace O_h0 := OwnF.mono O_h0 T.size
  replace T := Ext.trans (by repeat (first | exact T | apply Ext.drewN)) E
  clear E
  go_wp2_with fail
  go_at_call 18; refine (eqFloat32S_yes _ _ _ _ _ _ _ (by exact OwnF.toFR O_h0) (by exact OwnF.toFR O_w0) (H_h0.out.trans H_w0.out.symm) (by have h1 := congrArg List.length H_h0.out; rw [cl_length] at h1; have h2 := hsl.out; omega)).mono ?_
  rintro _ w2 ⟨rfl, n0, hw⟩
  replace O_w0 := own_drew O_w0 (by exact hw)
  replace O_g0 := own_drew O_g0 (by exact hw)
  replace O_h0 := own_drew O_h0 (by exact hw)
  replace T : Ext w w2 := ext_drew (by repeat (first | exact T | apply Ext.drewN)) hw
  clear hw
  go_wp2_with fail
  go_at_call 22; refine (heldFloat32S_any _ _ _ 1 _ (by exact OwnF.toFR O_g0) (by have h1 := congrArg List.length H_g0.out; rw [cl_length] at h1; have h2 := hsl.out; omega) (by omega) (by omega)).mono ?_
  rintro _ _ ⟨rfl, rfl⟩
  go_wp2_with fail
  go_ret
  exact ⟨rfl, T⟩

set_option maxRecDepth 100000 in
theorem lifted (os : Os) (started : os.Started) (H : Type) (enc : TypeId × Value → H) :
    ReturnsInHanded {} Try.checked os 8 .any (Rows.fnExactWaveletOfSpec.pre6 enc Try.prog Try.f8 Rows.fnExactWaveletOfRow.domain false) (Rows.fnExactWaveletOfSpec.post enc Try.prog Try.f8 false true false false) := by
  refine returnsInHanded_of_change (C := Try.checked) own started (by kernel_rfl) Try.func8
    (ChangeSpec.witness6 (enc := enc) (C := Try.checked) false ⟨#[], #[.int .i64 0, .float .f32 0], []⟩ 8 (by kernel_rfl) (by kernel_rfl) (by kernel_rfl) (by kernel_rfl)) ?_
  intro W base args ds gs before hval0 hW hcnd _
  have hval : ∀ (j : Nat) t v, Try.f8.params[j]? = some t → args[j]? = some v → Value.okWide Try.prog W .any base t v := hval0
  have hW' := hW
  obtain ⟨p, q, hA0, hV, rfl, hfz, hnd⟩ := hW
  have hA : DataW.TrodAll enc Try.prog W 0 (fun _ => true) true Try.f8.params.toList args.toList ds p := hA0
  rw [Try.params8] at hA hval
  obtain ⟨v0, vs0, d0, ds0, p0, q0, hargs, rfl, rfl, h0, r0⟩ := trodAll_cons hA
  obtain ⟨v1, vs1, d1, ds1, p1, q1, rfl, rfl, rfl, h1, r1⟩ := trodAll_cons r0
  obtain ⟨rfl, rfl, rfl⟩ := trodAll_nil r1
  obtain rfl : args = #[v0, v1] := by cases args; simp_all
  obtain ⟨rfl, rfl⟩ := trodVars_none hV
  obtain ⟨a0, rfl, rfl, rfl, wf0⟩ := open_int Try.underlying2 (hval 0 2 v0 rfl rfl) h0
  have hi0 : -9223372036854775808 ≤ a0 ∧ a0 ≤ 9223372036854775807 := by simpa [Lit.wf, IntKind.min, IntKind.max, IntKind.signed, IntKind.bits] using wf0
  obtain ⟨a1, rfl, rfl, rfl, wf1⟩ := open_float Try.underlying26 (hval 1 26 v1 rfl rfl) h1
  clear hA0 hval0
  refine (walk a0 a1 W hi0).mono fun e W' ⟨he, bel⟩ => ?_
  subst he
  exact ⟨_, rfl, _, _, _, [], _, [], hW', trodAll_mk1 (shut_bool Try.underlying4 _), (trodAll_cons_mk (shut_int Try.underlying2 wf0) (trodAll_cons_mk (shut_float Try.underlying26 wf1) trodAll_mk0)), rfl, Below.frame (show Below W.heap.size W W' from bel) _, fun h => by cases h⟩
theorem proved : Rows.FnExactWaveletOfSaid :=
  OpenClaim.holds_of_wide 8 Try.f8 rfl rfl rfl rfl rfl rfl rfl ⟨rfl, rfl, rfl, rfl, rfl⟩ rfl rfl rfl rfl rfl (by kernel_rfl) Try.func8 (by kernel_rfl)
    (of_decide_eq_true (by kernel_rfl)) (by unfold Func.isWrapper; first | (rw [if_pos (by decide +kernel)]; kernel_rfl) | (rw [if_neg (by decide +kernel)]; exact ⟨rfl, rfl⟩))
    (fun os started H enc _ => lifted os started H enc)
end Go.Proofs.Ytgilngdbhkefcaa.xWaveletOf
