/- The statement FnExactSpectrumOfTrace: for every input the law's function returns true, and each argument reads behind the call as it read before. No condition. -/
import Derived.Test.YtnjgcacnfobmiaaRows
import Derived.Test.YtnjgcacnfobmiaaWords
import Derived.Test.YtnjgcacnfobmiaaGat
import Derived.Test.YtnjgcacnfobmiaaFSpT
import Derived.ProofKit
import Derived.OpenShut
import Derived.ChangeOld
namespace Go.Proofs.Ytnjgcacnfobmiaa.xSpectrumOfTrace
open Go.RowKit Go.ChangeShapes Go.WideShapes Go.ChangeAt
set_option maxRecDepth 100000
open Go.Proofs.Ytnjgcacnfobmiaa
set_option linter.unusedVariables false

set_option maxRecDepth 100000 in
set_option maxHeartbeats 4000000 in
theorem walk (ao0 : Option Addr) (cap0 : Nat) (xs0 : List Nat) (a1 : Int) (w : World) (hc0 : FR w ao0 xs0) (hi1 : -9223372036854775808 ≤ a1 ∧ a1 ≤ 9223372036854775807) : Calls Try.prog 8 #[.slice ao0 xs0.length cap0, .int .i64 a1] w fun e w' => e = .returned (.bool true) ∧ Ext w w' := by
  by_cases hl0 : xs0.length ≤ 1048576
  case neg =>
    have hl' : 1048576 < xs0.length := by omega
    go_enter Try.func8, Try.ntmps8
    go_wp2_with fail
    all_goals go_ret
    all_goals exact ⟨rfl, Ext.refl _⟩
  have T : Ext w w := Ext.refl _
  have hsl : Hid (((tr.sptO (cl xs0) a1).getD []).length ≤ 1048576) := tr.sptO_len _ _
  go_enter Try.func8, Try.ntmps8
  go_wp2_with fail
  go_at_call 21; refine (toFloat32S_any _ _ _ _ (by exact hc0.ext T) hl0).mono ?_
  rintro _ W_c1 ⟨v, rfl, E, O_c1⟩
  obtain ⟨ao_c1, cap_c1, rfl, _⟩ := OwnF.fr O_c1
  replace O_c1 := OwnF.mono O_c1 T.size
  replace T := Ext.trans (by repeat (first | exact T | apply Ext.drewN)) E
  clear E
  go_wp2_with fail
  refine (tr.specSpt_any _ _ _ _ _ (by exact OwnF.toFR O_c1) hl0 hi1.1 hi1.2).mono ?_
  rintro _ V2 ⟨v, zs_w0, rfl, E, O_w0, H⟩
  obtain ⟨ao_w0, cap_w0, rfl, _⟩ := OwnV.fr O_w0
  have H_w0 := Lib.hid H
  clear H
  have D_c1_w0 : ∀ k, Value.ownBlock (.slice ao_c1 xs0.length cap_c1) = some k → ¬ (Value.ownBlock (.slice ao_w0 zs_w0.length cap_w0) = some k) := by intro k hk hy; have h1 := OwnF.lt O_c1 k hk; have h2 := OwnK.lt O_w0 k hy; omega
  replace O_c1 := OwnF.ext (by exact O_c1) E
  replace O_w0 := OwnK.mono O_w0 T.size
  replace T := Ext.trans (by repeat (first | exact T | apply Ext.drewN)) E
  clear E
  clear O_c1
  go_wp2_with fail
  go_at_call 21; refine (toFloat32S_any _ _ _ _ (by exact hc0.ext T) hl0).mono ?_
  rintro _ W_x0 ⟨v, rfl, E, O_x0⟩
  obtain ⟨ao_x0, cap_x0, rfl, _⟩ := OwnF.fr O_x0
  have D_w0_x0 : ∀ k, Value.ownBlock (.slice ao_w0 zs_w0.length cap_w0) = some k → ¬ (Value.ownBlock (.slice ao_x0 xs0.length cap_x0) = some k) := by intro k hk hy; have h1 := OwnK.lt O_w0 k hk; have h2 := OwnF.lt O_x0 k hy; omega
  replace O_w0 := OwnK.ext (by exact O_w0) E
  replace O_x0 := OwnF.mono O_x0 T.size
  replace T := Ext.trans (by repeat (first | exact T | apply Ext.drewN)) E
  clear E
  go_wp2_with fail
  refine (tr.implSpt_any _ _ _ _ _ (by exact OwnF.toFR O_x0) hl0 hi1.1 hi1.2).mono ?_
  rintro _ V3 ⟨v, zs_g0, rfl, E, O_g0, H⟩
  obtain ⟨ao_g0, cap_g0, rfl, _⟩ := OwnV.fr O_g0
  have H_g0 := Lib.hid H
  clear H
  have D_w0_g0 : ∀ k, Value.ownBlock (.slice ao_w0 zs_w0.length cap_w0) = some k → ¬ (Value.ownBlock (.slice ao_g0 zs_g0.length cap_g0) = some k) := by intro k hk hy; have h1 := OwnK.lt O_w0 k hk; have h2 := OwnK.lt O_g0 k hy; omega
  have D_x0_g0 : ∀ k, Value.ownBlock (.slice ao_x0 xs0.length cap_x0) = some k → ¬ (Value.ownBlock (.slice ao_g0 zs_g0.length cap_g0) = some k) := by intro k hk hy; have h1 := OwnF.lt O_x0 k hk; have h2 := OwnK.lt O_g0 k hy; omega
  replace O_w0 := OwnK.ext (by exact O_w0) E
  replace O_x0 := OwnF.ext (by exact O_x0) E
  replace O_g0 := OwnK.mono O_g0 T.size
  replace T := Ext.trans (by repeat (first | exact T | apply Ext.drewN)) E
  clear E
  go_wp2_with fail
  go_at_call 41; refine (eqComplex64S_yes _ _ _ _ _ _ _ (by exact OwnK.toFR O_g0) (by exact OwnK.toFR O_w0) (H_g0.out.trans H_w0.out.symm) (by have h1 := congrArg List.length H_g0.out; rw [clz_length] at h1; have h2 := hsl.out; omega)).mono ?_
  rintro _ w4 ⟨rfl, dn, hw⟩
  replace O_w0 := ownK_drew O_w0 (by exact hw)
  replace O_x0 := own_drew O_x0 (by exact hw)
  replace O_g0 := ownK_drew O_g0 (by exact hw)
  replace T : Ext w w4 := ext_drew (by repeat (first | exact T | apply Ext.drewN)) hw
  clear hw
  go_wp2_with fail
  go_at_call 21; refine (toFloat32S_any _ _ _ _ (by exact hc0.ext T) hl0).mono ?_
  rintro _ W_c5 ⟨v, rfl, E, O_c5⟩
  obtain ⟨ao_c5, cap_c5, rfl, _⟩ := OwnF.fr O_c5
  have D_w0_c5 : ∀ k, Value.ownBlock (.slice ao_w0 zs_w0.length cap_w0) = some k → ¬ (Value.ownBlock (.slice ao_c5 xs0.length cap_c5) = some k) := by intro k hk hy; have h1 := OwnK.lt O_w0 k hk; have h2 := OwnF.lt O_c5 k hy; omega
  have D_x0_c5 : ∀ k, Value.ownBlock (.slice ao_x0 xs0.length cap_x0) = some k → ¬ (Value.ownBlock (.slice ao_c5 xs0.length cap_c5) = some k) := by intro k hk hy; have h1 := OwnF.lt O_x0 k hk; have h2 := OwnF.lt O_c5 k hy; omega
  have D_g0_c5 : ∀ k, Value.ownBlock (.slice ao_g0 zs_g0.length cap_g0) = some k → ¬ (Value.ownBlock (.slice ao_c5 xs0.length cap_c5) = some k) := by intro k hk hy; have h1 := OwnK.lt O_g0 k hk; have h2 := OwnF.lt O_c5 k hy; omega
  replace O_w0 := OwnK.ext (by exact O_w0) E
  replace O_x0 := OwnF.ext (by exact O_x0) E
  replace O_g0 := OwnK.ext (by exact O_g0) E
  replace O_c5 := OwnF.mono O_c5 T.size
  replace T := Ext.trans (by repeat (first | exact T | apply Ext.drewN)) E
  clear E
  go_wp2_with fail
  go_at_call 24; refine (eqFloat32S_yes _ _ _ _ _ _ _ (by exact OwnF.toFR O_x0) (by exact OwnF.toFR O_c5) rfl hl0).mono ?_
  rintro _ w6 ⟨rfl, dn, hw⟩
  replace O_w0 := ownK_drew O_w0 (by exact hw)
  replace O_x0 := own_drew O_x0 (by exact hw)
  replace O_g0 := ownK_drew O_g0 (by exact hw)
  replace O_c5 := own_drew O_c5 (by exact hw)
  replace T : Ext w w6 := ext_drew (by repeat (first | exact T | apply Ext.drewN)) hw
  clear hw
  clear O_c5
  go_wp2_with fail
  go_at_call 25; refine (markFloat32S_any _ _ _ _ _ (by exact O_x0) hl0 (by omega) (by omega)).mono ?_
  rintro _ V7 ⟨rfl, hg, O⟩
  have hch := Chg.of_grown (bs := fun k => Value.ownBlock (.slice ao_x0 xs0.length cap_x0) = some k) hg (fun k e => e)
  clear hg
  replace O_w0 := OwnK.chg (by exact O_w0) hch D_w0_x0
  replace O_g0 := OwnK.chg (by exact O_g0) hch (fun k hk hz => D_x0_g0 k hz hk)
  replace T := Chg.ext (by repeat (first | exact T | apply Ext.drewN)) hch (fun k hk => (OwnF.lt O_x0 k hk).1)
  clear hch
  clear O_x0
  have O_x0 := O
  clear O
  go_wp2_with fail
  go_at_call 41; refine (eqComplex64S_yes _ _ _ _ _ _ _ (by exact OwnK.toFR O_g0) (by exact OwnK.toFR O_w0) (H_g0.out.trans H_w0.out.symm) (by have h1 := congrArg List.length H_g0.out; rw [clz_length] at h1; have h2 := hsl.out; omega)).mono ?_
  rintro _ w8 ⟨rfl, dn, hw⟩
  replace O_w0 := ownK_drew O_w0 (by exact hw)
  replace O_x0 := own_drew O_x0 (by exact hw)
  replace O_g0 := ownK_drew O_g0 (by exact hw)
  replace T : Ext w w8 := ext_drew (by repeat (first | exact T | apply Ext.drewN)) hw
  clear hw
  go_wp2_with fail
  go_at_call 42; refine (markComplex64S_any _ _ _ _ _ (by exact O_g0) (by have h1 := congrArg List.length H_g0.out; rw [clz_length] at h1; have h2 := hsl.out; omega) (by omega) (by omega)).mono ?_
  rintro _ V9 ⟨rfl, hg, O⟩
  have hch := Chg.of_grown (bs := fun k => Value.ownBlock (.slice ao_g0 zs_g0.length cap_g0) = some k) hg (fun k e => e)
  clear hg
  replace O_w0 := OwnK.chg (by exact O_w0) hch D_w0_g0
  replace O_x0 := OwnF.chg (by exact O_x0) hch D_x0_g0
  replace T := Chg.ext (by repeat (first | exact T | apply Ext.drewN)) hch (fun k hk => (OwnK.lt O_g0 k hk).1)
  clear hch
  clear O_g0
  have O_g0 := O
  clear O
  go_wp2_with fail
  go_at_call 43; refine (heldComplex64S_any _ _ _ _ _ (by exact OwnK.toFR O_g0) (by have h1 := congrArg List.length H_g0.out; rw [clz_length] at h1; have h2 := hsl.out; omega) (by omega) (by omega)).mono ?_
  rintro _ _ ⟨rfl, rfl⟩
  go_wp2_with fail
  go_at_call 21; refine (toFloat32S_any _ _ _ _ (by exact hc0.ext T) hl0).mono ?_
  rintro _ W_c10 ⟨v, rfl, E, O_c10⟩
  obtain ⟨ao_c10, cap_c10, rfl, _⟩ := OwnF.fr O_c10
  have D_w0_c10 : ∀ k, Value.ownBlock (.slice ao_w0 zs_w0.length cap_w0) = some k → ¬ (Value.ownBlock (.slice ao_c10 xs0.length cap_c10) = some k) := by intro k hk hy; have h1 := OwnK.lt O_w0 k hk; have h2 := OwnF.lt O_c10 k hy; omega
  have D_x0_c10 : ∀ k, Value.ownBlock (.slice ao_x0 xs0.length cap_x0) = some k → ¬ (Value.ownBlock (.slice ao_c10 xs0.length cap_c10) = some k) := by intro k hk hy; have h1 := OwnF.lt O_x0 k hk; have h2 := OwnF.lt O_c10 k hy; omega
  have D_g0_c10 : ∀ k, Value.ownBlock (.slice ao_g0 zs_g0.length cap_g0) = some k → ¬ (Value.ownBlock (.slice ao_c10 xs0.length cap_c10) = some k) := by intro k hk hy; have h1 := OwnK.lt O_g0 k hk; have h2 := OwnF.lt O_c10 k hy; omega
  replace O_w0 := OwnK.ext (by exact O_w0) E
  replace O_x0 := OwnF.ext (by exact O_x0) E
  replace O_g0 := OwnK.ext (by exact O_g0) E
  replace O_c10 := OwnF.mono O_c10 T.size
  replace T := Ext.trans (by repeat (first | exact T | apply Ext.drewN)) E
  clear E
  go_wp2_with fail
  refine (tr.implSpt_any _ _ _ _ _ (by exact OwnF.toFR O_c10) hl0 hi1.1 hi1.2).mono ?_
  rintro _ V11 ⟨v, zs_h0, rfl, E, O_h0, H⟩
  obtain ⟨ao_h0, cap_h0, rfl, _⟩ := OwnV.fr O_h0
  have H_h0 := Lib.hid H
  clear H
  have D_w0_h0 : ∀ k, Value.ownBlock (.slice ao_w0 zs_w0.length cap_w0) = some k → ¬ (Value.ownBlock (.slice ao_h0 zs_h0.length cap_h0) = some k) := by intro k hk hy; have h1 := OwnK.lt O_w0 k hk; have h2 := OwnK.lt O_h0 k hy; omega
  have D_x0_h0 : ∀ k, Value.ownBlock (.slice ao_x0 xs0.length cap_x0) = some k → ¬ (Value.ownBlock (.slice ao_h0 zs_h0.length cap_h0) = some k) := by intro k hk hy; have h1 := OwnF.lt O_x0 k hk; have h2 := OwnK.lt O_h0 k hy; omega
  have D_g0_h0 : ∀ k, Value.ownBlock (.slice ao_g0 zs_g0.length cap_g0) = some k → ¬ (Value.ownBlock (.slice ao_h0 zs_h0.length cap_h0) = some k) := by intro k hk hy; have h1 := OwnK.lt O_g0 k hk; have h2 := OwnK.lt O_h0 k hy; omega
  have D_c10_h0 : ∀ k, Value.ownBlock (.slice ao_c10 xs0.length cap_c10) = some k → ¬ (Value.ownBlock (.slice ao_h0 zs_h0.length cap_h0) = some k) := by intro k hk hy; have h1 := OwnF.lt O_c10 k hk; have h2 := OwnK.lt O_h0 k hy; omega
  replace O_w0 := OwnK.ext (by exact O_w0) E
  replace O_x0 := OwnF.ext (by exact O_x0) E
  replace O_g0 := OwnK.ext (by exact O_g0) E
  replace O_c10 := OwnF.ext (by exact O_c10) E
  replace O_h0 := OwnK.mono O_h0 T.size
  replace T := Ext.trans (by repeat (first | exact T | apply Ext.drewN)) E
  clear E
  clear O_c10
  go_wp2_with fail
  go_at_call 41; refine (eqComplex64S_yes _ _ _ _ _ _ _ (by exact OwnK.toFR O_h0) (by exact OwnK.toFR O_w0) (H_h0.out.trans H_w0.out.symm) (by have h1 := congrArg List.length H_h0.out; rw [clz_length] at h1; have h2 := hsl.out; omega)).mono ?_
  rintro _ w12 ⟨rfl, dn, hw⟩
  replace O_w0 := ownK_drew O_w0 (by exact hw)
  replace O_x0 := own_drew O_x0 (by exact hw)
  replace O_g0 := ownK_drew O_g0 (by exact hw)
  replace O_h0 := ownK_drew O_h0 (by exact hw)
  replace T : Ext w w12 := ext_drew (by repeat (first | exact T | apply Ext.drewN)) hw
  clear hw
  go_wp2_with fail
  go_at_call 43; refine (heldComplex64S_any _ _ _ _ _ (by exact OwnK.toFR O_g0) (by have h1 := congrArg List.length H_g0.out; rw [clz_length] at h1; have h2 := hsl.out; omega) (by omega) (by omega)).mono ?_
  rintro _ _ ⟨rfl, rfl⟩
  go_wp2_with fail
  go_ret
  exact ⟨rfl, T⟩

set_option maxRecDepth 100000 in
theorem lifted (os : Os) (started : os.Started) (H : Type) (enc : TypeId × Value → H) :
    ReturnsInHanded {} Try.checked os 8 .any (Rows.fnExactSpectrumOfTraceSpec.pre6 enc Try.prog Try.f8 Rows.fnExactSpectrumOfTraceRow.domain false) (Rows.fnExactSpectrumOfTraceSpec.post enc Try.prog Try.f8 false true false false) := by
  refine returnsInHanded_of_change (C := Try.checked) own started (by kernel_rfl) Try.func8
    (ChangeSpec.witness6 (enc := enc) (C := Try.checked) false ⟨#[], #[.slice none 0 0, .int .i64 0], []⟩ 8 (by kernel_rfl) (by kernel_rfl) (by kernel_rfl) (by kernel_rfl)) ?_
  intro W base args ds gs before hval0 hW hcnd _
  have hval : ∀ (j : Nat) t v, Try.f8.params[j]? = some t → args[j]? = some v → Value.okWide Try.prog W .any base t v := hval0
  have hW' := hW
  obtain ⟨p, q, hA0, hV, rfl, hfz, hnd⟩ := hW
  have hA : DataW.TrodAll enc Try.prog W 0 (fun _ => true) true Try.f8.params.toList args.toList ds p := hA0
  rw [Try.params8] at hA hval
  obtain ⟨v0, vs0, d0, ds0, p0, q0, hargs, rfl, rfl, h0, r0⟩ := trodAll_cons hA
  obtain ⟨v1, vs1, d1, ds1, p1, q1, rfl, rfl, rfl, h1, r1⟩ := trodAll_cons r0
  obtain ⟨rfl, rfl, rfl⟩ := trodAll_nil r1
  obtain rfl : args = #[v0, v1] := by cases args; simp_all
  obtain ⟨rfl, rfl⟩ := trodVars_none hV
  have k0 := h0
  have lt0 : ∀ x ∈ p0, x.block < W.heap.size := by obtain ⟨m, hm⟩ := k0; exact DataW.trod_lt m _ _ _ hm
  obtain ⟨ao0, cap0, xs0, rfl, hc0, _, _⟩ := open_floats Try.underlying22 Try.underlying34 cells32 (hval 0 22 v0 rfl rfl) h0
  obtain ⟨a1, rfl, rfl, rfl, wf1⟩ := open_int Try.underlying2 (hval 1 2 v1 rfl rfl) h1
  have hi1 : -9223372036854775808 ≤ a1 ∧ a1 ≤ 9223372036854775807 := by simpa [Lit.wf, IntKind.min, IntKind.max, IntKind.signed, IntKind.bits] using wf1
  clear hA0 hval0
  refine (walk ao0 cap0 xs0 a1 W hc0 hi1).mono fun e W' ⟨he, bel⟩ => ?_
  subst he
  exact ⟨_, rfl, _, _, _, [], _, [], hW', trodAll_mk1 (shut_bool Try.underlying4 _), (trodAll_cons_mk (Below.trod laidOut (by kernel_rfl) (of_decide_eq_true (by kernel_rfl)) k0 bel lt0) (trodAll_cons_mk (shut_int Try.underlying2 wf1) trodAll_mk0)), rfl, Below.frame (show Below W.heap.size W W' from bel) _, fun h => by cases h⟩
theorem closed : joinedFacts Try.prog 8 Try.f8 Rows.fnExactSpectrumOfTraceSpec Rows.fnExactSpectrumOfTraceRow = true := by
  unfold joinedFacts
  rw [Go.Proofs.Ytnjgcacnfobmiaa.mayEnter, Go.Proofs.Ytnjgcacnfobmiaa.liftsFinal, Go.Proofs.Ytnjgcacnfobmiaa.make]
  kernel_rfl
theorem proved : Rows.FnExactSpectrumOfTraceSaid :=
  OpenClaim.holds_of_wide 8 Try.f8 rfl rfl rfl rfl rfl rfl rfl ⟨rfl, rfl, rfl, rfl, rfl⟩ rfl rfl rfl rfl rfl (by kernel_rfl) Try.func8 closed
    (of_decide_eq_true (by kernel_rfl)) (by unfold Func.isWrapper; first | (rw [if_pos (by decide +kernel)]; kernel_rfl) | (rw [if_neg (by decide +kernel)]; exact ⟨rfl, rfl⟩))
    (fun os started H enc _ => lifted os started H enc)
end Go.Proofs.Ytnjgcacnfobmiaa.xSpectrumOfTrace
