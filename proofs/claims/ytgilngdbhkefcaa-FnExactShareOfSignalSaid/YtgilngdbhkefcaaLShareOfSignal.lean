/- The statement FnExactShareOfSignal: for every input the law's function returns true, and each argument reads behind the call as it read before. No condition. -/
import Derived.Test.YtgilngdbhkefcaaRows
import Derived.Test.YtgilngdbhkefcaaFEnergy
import Derived.ProofKit
import Derived.OpenShut
import Derived.ChangeOld
namespace Go.Proofs.Ytgilngdbhkefcaa.xShareOfSignal
open Go.RowKit Go.ChangeShapes Go.WideShapes Go.ChangeAt
open Go.Proofs.Ytgilngdbhkefcaa
set_option linter.unusedVariables false

set_option maxHeartbeats 1000000 in
theorem walk (ao0 : Option Addr) (cap0 : Nat) (xs0 : List Nat) (ao1 : Option Addr) (cap1 : Nat) (xs1 : List Nat) (w : World) (hc0 : FR w ao0 xs0) (hc1 : FR w ao1 xs1) : Calls Try.prog 9 #[.slice ao0 xs0.length cap0, .slice ao1 xs1.length cap1] w fun e w' => e = .returned (.bool true) ∧ Ext w w' := by
  by_cases hl0 : xs0.length ≤ 1048576
  case neg =>
    have hl' : 1048576 < xs0.length := by omega
    go_enter Try.func9, Try.ntmps9
    go_wp2_with fail
    all_goals go_ret
    all_goals exact ⟨rfl, Ext.refl _⟩
  by_cases hl1 : xs1.length ≤ 1048576
  case neg =>
    have hl' : 1048576 < xs1.length := by omega
    go_enter Try.func9, Try.ntmps9
    go_wp2_with fail
    all_goals go_ret
    all_goals exact ⟨rfl, Ext.refl _⟩
  have T : Ext w w := Ext.refl w
  go_enter Try.func9, Try.ntmps9
  go_wp2_with fail
  go_at_call 16; refine (toFloat32S_any _ _ _ _ (by exact hc0.ext T) hl0).mono ?_
  rintro _ _ ⟨v, rfl, E, O_c1⟩
  obtain ⟨ao_c1, cap_c1, rfl, _⟩ := OwnF.fr O_c1
  replace O_c1 := OwnF.mono O_c1 T.size
  replace T := Ext.trans (by repeat (first | exact T | apply Ext.drewN)) E
  clear E
  go_wp2_with fail
  go_at_call 16; refine (toFloat32S_any _ _ _ _ (by exact hc1.ext T) hl1).mono ?_
  rintro _ _ ⟨v, rfl, E, O_c2⟩
  obtain ⟨ao_c2, cap_c2, rfl, _⟩ := OwnF.fr O_c2
  have D_c1_c2 : ∀ k, Value.ownBlock (.slice ao_c2 xs1.length cap_c2) = some k → Value.ownBlock (.slice ao_c1 xs0.length cap_c1) ≠ some k := fun k hk => OwnF.at_ne O_c1 (.inr (OwnF.lt O_c2 k hk).1)
  replace O_c1 := OwnF.ext (by exact O_c1) E
  replace O_c2 := OwnF.mono O_c2 T.size
  replace T := Ext.trans (by repeat (first | exact T | apply Ext.drewN)) E
  clear E
  go_wp2_with fail
  refine (specShare_any _ _ _ _ _ _ _ (by exact OwnF.toFR O_c1) hl0 (by exact OwnF.toFR O_c2) hl1).mono ?_
  rintro _ w3 ⟨r_w0, n0, rfl, I_w0, hw⟩
  replace O_c1 := own_drew O_c1 (by exact hw)
  replace O_c2 := own_drew O_c2 (by exact hw)
  replace T : Ext w w3 := ext_drew (by repeat (first | exact T | apply Ext.drewN)) hw
  clear hw
  clear O_c1
  clear O_c2
  go_wp2_with fail
  go_at_call 16; refine (toFloat32S_any _ _ _ _ (by exact hc0.ext T) hl0).mono ?_
  rintro _ _ ⟨v, rfl, E, O_x0⟩
  obtain ⟨ao_x0, cap_x0, rfl, _⟩ := OwnF.fr O_x0
  replace O_x0 := OwnF.mono O_x0 T.size
  replace T := Ext.trans (by repeat (first | exact T | apply Ext.drewN)) E
  clear E
  go_wp2_with fail
  go_at_call 16; refine (toFloat32S_any _ _ _ _ (by exact hc1.ext T) hl1).mono ?_
  rintro _ _ ⟨v, rfl, E, O_x1⟩
  obtain ⟨ao_x1, cap_x1, rfl, _⟩ := OwnF.fr O_x1
  have D_x0_x1 : ∀ k, Value.ownBlock (.slice ao_x1 xs1.length cap_x1) = some k → Value.ownBlock (.slice ao_x0 xs0.length cap_x0) ≠ some k := fun k hk => OwnF.at_ne O_x0 (.inr (OwnF.lt O_x1 k hk).1)
  replace O_x0 := OwnF.ext (by exact O_x0) E
  replace O_x1 := OwnF.mono O_x1 T.size
  replace T := Ext.trans (by repeat (first | exact T | apply Ext.drewN)) E
  clear E
  go_wp2_with fail
  refine (share_any _ _ _ _ _ _ _ (by exact OwnF.toFR O_x0) hl0 (by exact OwnF.toFR O_x1) hl1).mono ?_
  rintro _ w4 ⟨r_g0, n0, rfl, I_g0, hw⟩
  replace O_x0 := own_drew O_x0 (by exact hw)
  replace O_x1 := own_drew O_x1 (by exact hw)
  replace T : Ext w w4 := ext_drew (by repeat (first | exact T | apply Ext.drewN)) hw
  clear hw
  go_wp2_with (first | (refine wl_widen rfl rfl rfl (by first | exact rfl | kernel_rfl) (by kernel_rfl) (by first | assumption | exact is_ofInt _ _ | exact is_self) ?_; intro r n hr))
  go_at_call 25; refine (sameFloat_yes _ _ _ (by assumption) (by assumption) _).mono ?_
  rintro _ w5 ⟨rfl, n0, hw⟩
  replace O_x0 := own_drew O_x0 (by exact hw)
  replace O_x1 := own_drew O_x1 (by exact hw)
  replace T : Ext w w5 := ext_drew (by repeat (first | exact T | apply Ext.drewN)) hw
  clear hw
  go_wp2_with fail
  go_at_call 16; refine (toFloat32S_any _ _ _ _ (by exact hc0.ext T) hl0).mono ?_
  rintro _ _ ⟨v, rfl, E, O_c6⟩
  obtain ⟨ao_c6, cap_c6, rfl, _⟩ := OwnF.fr O_c6
  have D_x0_c6 : ∀ k, Value.ownBlock (.slice ao_c6 xs0.length cap_c6) = some k → Value.ownBlock (.slice ao_x0 xs0.length cap_x0) ≠ some k := fun k hk => OwnF.at_ne O_x0 (.inr (OwnF.lt O_c6 k hk).1)
  have D_x1_c6 : ∀ k, Value.ownBlock (.slice ao_c6 xs0.length cap_c6) = some k → Value.ownBlock (.slice ao_x1 xs1.length cap_x1) ≠ some k := fun k hk => OwnF.at_ne O_x1 (.inr (OwnF.lt O_c6 k hk).1)
  replace O_x0 := OwnF.ext (by exact O_x0) E
  replace O_x1 := OwnF.ext (by exact O_x1) E
  replace O_c6 := OwnF.mono O_c6 T.size
  replace T := Ext.trans (by repeat (first | exact T | apply Ext.drewN)) E
  clear E
  go_wp2_with fail
  go_at_call 18; refine (eqFloat32S_yes _ _ _ _ _ _ _ (by exact OwnF.toFR O_x0) (by exact OwnF.toFR O_c6) rfl hl0).mono ?_
  rintro _ w7 ⟨rfl, n0, hw⟩
  replace O_x0 := own_drew O_x0 (by exact hw)
  replace O_x1 := own_drew O_x1 (by exact hw)
  replace O_c6 := own_drew O_c6 (by exact hw)
  replace T : Ext w w7 := ext_drew (by repeat (first | exact T | apply Ext.drewN)) hw
  clear hw
  clear O_c6
  go_wp2_with fail
  go_at_call 16; refine (toFloat32S_any _ _ _ _ (by exact hc1.ext T) hl1).mono ?_
  rintro _ _ ⟨v, rfl, E, O_c8⟩
  obtain ⟨ao_c8, cap_c8, rfl, _⟩ := OwnF.fr O_c8
  have D_x0_c8 : ∀ k, Value.ownBlock (.slice ao_c8 xs1.length cap_c8) = some k → Value.ownBlock (.slice ao_x0 xs0.length cap_x0) ≠ some k := fun k hk => OwnF.at_ne O_x0 (.inr (OwnF.lt O_c8 k hk).1)
  have D_x1_c8 : ∀ k, Value.ownBlock (.slice ao_c8 xs1.length cap_c8) = some k → Value.ownBlock (.slice ao_x1 xs1.length cap_x1) ≠ some k := fun k hk => OwnF.at_ne O_x1 (.inr (OwnF.lt O_c8 k hk).1)
  replace O_x0 := OwnF.ext (by exact O_x0) E
  replace O_x1 := OwnF.ext (by exact O_x1) E
  replace O_c8 := OwnF.mono O_c8 T.size
  replace T := Ext.trans (by repeat (first | exact T | apply Ext.drewN)) E
  clear E
  go_wp2_with fail
  go_at_call 18; refine (eqFloat32S_yes _ _ _ _ _ _ _ (by exact OwnF.toFR O_x1) (by exact OwnF.toFR O_c8) rfl hl1).mono ?_
  rintro _ w9 ⟨rfl, n0, hw⟩
  replace O_x0 := own_drew O_x0 (by exact hw)
  replace O_x1 := own_drew O_x1 (by exact hw)
  replace O_c8 := own_drew O_c8 (by exact hw)
  replace T : Ext w w9 := ext_drew (by repeat (first | exact T | apply Ext.drewN)) hw
  clear hw
  clear O_c8
  go_wp2_with fail
  go_ret
  exact ⟨rfl, T⟩

set_option maxRecDepth 100000 in
theorem lifted (os : Os) (started : os.Started) (H : Type) (enc : TypeId × Value → H) :
    ReturnsInHanded {} Try.checked os 9 .any (Rows.fnExactShareOfSignalSpec.pre6 enc Try.prog Try.f9 Rows.fnExactShareOfSignalRow.domain false) (Rows.fnExactShareOfSignalSpec.post enc Try.prog Try.f9 false true false false) := by
  refine returnsInHanded_of_change (C := Try.checked) own started (by kernel_rfl) Try.func9
    (ChangeSpec.witness6 (enc := enc) (C := Try.checked) false ⟨#[], #[.slice none 0 0, .slice none 0 0], []⟩ 8 (by kernel_rfl) (by kernel_rfl) (by kernel_rfl) (by kernel_rfl)) ?_
  intro W base args ds gs before hval0 hW hcnd _
  have hval : ∀ (j : Nat) t v, Try.f9.params[j]? = some t → args[j]? = some v → Value.okWide Try.prog W .any base t v := hval0
  have hW' := hW
  obtain ⟨p, q, hA0, hV, rfl, hfz, hnd⟩ := hW
  have hA : DataW.TrodAll enc Try.prog W 0 (fun _ => true) true Try.f9.params.toList args.toList ds p := hA0
  rw [Try.params9] at hA hval
  obtain ⟨v0, vs0, d0, ds0, p0, q0, hargs, rfl, rfl, h0, r0⟩ := trodAll_cons hA
  obtain ⟨v1, vs1, d1, ds1, p1, q1, rfl, rfl, rfl, h1, r1⟩ := trodAll_cons r0
  obtain ⟨rfl, rfl, rfl⟩ := trodAll_nil r1
  obtain rfl : args = #[v0, v1] := by cases args; simp_all
  obtain ⟨rfl, rfl⟩ := trodVars_none hV
  have k0 := h0
  have lt0 : ∀ x ∈ p0, x.block < W.heap.size := by obtain ⟨m, hm⟩ := k0; exact DataW.trod_lt m _ _ _ hm
  obtain ⟨ao0, cap0, xs0, rfl, hc0, _, _⟩ := open_floats Try.underlying22 Try.underlying26 cells32 (hval 0 22 v0 rfl rfl) h0
  have k1 := h1
  have lt1 : ∀ x ∈ p1, x.block < W.heap.size := by obtain ⟨m, hm⟩ := k1; exact DataW.trod_lt m _ _ _ hm
  obtain ⟨ao1, cap1, xs1, rfl, hc1, _, _⟩ := open_floats Try.underlying22 Try.underlying26 cells32 (hval 1 22 v1 rfl rfl) h1
  clear hA0 hval0
  refine (walk ao0 cap0 xs0 ao1 cap1 xs1 W hc0 hc1).mono fun e W' ⟨he, bel⟩ => ?_
  subst he
  exact ⟨_, rfl, _, _, _, [], _, [], hW', trodAll_mk1 (shut_bool Try.underlying4 _), (trodAll_cons_mk (Below.trod laidOut (by kernel_rfl) (of_decide_eq_true (by kernel_rfl)) k0 bel lt0) (trodAll_cons_mk (Below.trod laidOut (by kernel_rfl) (of_decide_eq_true (by kernel_rfl)) k1 bel lt1) trodAll_mk0)), rfl, Below.frame (show Below W.heap.size W W' from bel) _, fun h => by cases h⟩
theorem proved : Rows.FnExactShareOfSignalSaid :=
  OpenClaim.holds_of_wide 9 Try.f9 rfl rfl rfl rfl rfl rfl rfl ⟨rfl, rfl, rfl, rfl, rfl⟩ rfl rfl rfl rfl rfl (by kernel_rfl) Try.func9 (by kernel_rfl)
    (of_decide_eq_true (by kernel_rfl)) (by unfold Func.isWrapper; first | (rw [if_pos (by decide +kernel)]; kernel_rfl) | (rw [if_neg (by decide +kernel)]; exact ⟨rfl, rfl⟩))
    (fun os started H enc _ => lifted os started H enc)
end Go.Proofs.Ytgilngdbhkefcaa.xShareOfSignal
