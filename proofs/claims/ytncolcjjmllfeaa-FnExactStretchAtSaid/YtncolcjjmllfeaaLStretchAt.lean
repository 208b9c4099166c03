/- The statement FnExactStretchAt: for every input the law's function returns true, and each argument reads behind the call as it read before. No condition. -/
import Derived.Test.YtncolcjjmllfeaaRows
import Derived.Test.YtncolcjjmllfeaaWords
import Derived.Test.YtncolcjjmllfeaaGat
import Derived.Test.YtncolcjjmllfeaaFStretch
import Derived.ProofKit
import Derived.OpenShut
import Derived.ChangeOld
namespace Go.Proofs.Ytncolcjjmllfeaa.xStretchAt
open Go.RowKit Go.ChangeShapes Go.WideShapes Go.ChangeAt
set_option maxRecDepth 100000
open Go.Proofs.Ytncolcjjmllfeaa
set_option linter.unusedVariables false

set_option maxRecDepth 100000 in
set_option maxHeartbeats 4000000 in
theorem walk (a0 : Nat) (a1 : Nat) (a2 : Nat) (w : World)  : Calls Try.prog 8 #[.float .f32 a0, .float .f32 a1, .float .f32 a2] w fun e w' => e = .returned (.bool true) ∧ Ext w w' := by
  have T : Ext w w := Ext.refl w
  go_enter Try.func8, Try.ntmps8
  go_wp2_with fail
  refine (specStr_any _ _ _ _ _ _ _ is_self is_self is_self).mono ?_
  rintro _ _ ⟨r_w0, rfl, I_w0, E⟩
  replace T := Ext.trans (by repeat (first | exact T | apply Ext.drewN)) E
  clear E
  go_wp2_with fail
  refine (implStr_any _ _ _ _ _ _ _ is_self is_self is_self).mono ?_
  rintro _ _ ⟨r_g0, rfl, I_g0, E⟩
  replace T := Ext.trans (by repeat (first | exact T | apply Ext.drewN)) E
  clear E
  go_wp2_with (first | (refine wl_widen rfl rfl rfl (by first | exact rfl | kernel_rfl) (by kernel_rfl) (by first | assumption | exact is_ofInt _ _ | exact is_self) ?_; intro r n hr))
  go_at_call 27; refine (sameFloat_yes _ _ _ (by assumption) (by assumption) _).mono ?_
  rintro _ w1 ⟨rfl, n0, hw⟩
  replace T : Ext w w1 := ext_drew (by repeat (first | exact T | apply Ext.drewN)) hw
  clear hw
  go_wp2_with fail
  go_ret
  exact ⟨rfl, T⟩

set_option maxRecDepth 100000 in
theorem lifted (os : Os) (started : os.Started) (H : Type) (enc : TypeId × Value → H) :
    ReturnsInHanded {} Try.checked os 8 .any (Rows.fnExactStretchAtSpec.pre6 enc Try.prog Try.f8 Rows.fnExactStretchAtRow.domain false) (Rows.fnExactStretchAtSpec.post enc Try.prog Try.f8 false true false false) := by
  refine returnsInHanded_of_change (C := Try.checked) own started (by kernel_rfl) Try.func8
    (ChangeSpec.witness6 (enc := enc) (C := Try.checked) false ⟨#[], #[.float .f32 0, .float .f32 0, .float .f32 0], []⟩ 8 (by kernel_rfl) (by kernel_rfl) (by kernel_rfl) (by kernel_rfl)) ?_
  intro W base args ds gs before hval0 hW hcnd _
  have hval : ∀ (j : Nat) t v, Try.f8.params[j]? = some t → args[j]? = some v → Value.okWide Try.prog W .any base t v := hval0
  have hW' := hW
  obtain ⟨p, q, hA0, hV, rfl, hfz, hnd⟩ := hW
  have hA : DataW.TrodAll enc Try.prog W 0 (fun _ => true) true Try.f8.params.toList args.toList ds p := hA0
  rw [Try.params8] at hA hval
  obtain ⟨v0, vs0, d0, ds0, p0, q0, hargs, rfl, rfl, h0, r0⟩ := trodAll_cons hA
  obtain ⟨v1, vs1, d1, ds1, p1, q1, rfl, rfl, rfl, h1, r1⟩ := trodAll_cons r0
  obtain ⟨v2, vs2, d2, ds2, p2, q2, rfl, rfl, rfl, h2, r2⟩ := trodAll_cons r1
  obtain ⟨rfl, rfl, rfl⟩ := trodAll_nil r2
  obtain rfl : args = #[v0, v1, v2] := by cases args; simp_all
  obtain ⟨rfl, rfl⟩ := trodVars_none hV
  obtain ⟨a0, rfl, rfl, rfl, wf0⟩ := open_float Try.underlying23 (hval 0 23 v0 rfl rfl) h0
  obtain ⟨a1, rfl, rfl, rfl, wf1⟩ := open_float Try.underlying23 (hval 1 23 v1 rfl rfl) h1
  obtain ⟨a2, rfl, rfl, rfl, wf2⟩ := open_float Try.underlying23 (hval 2 23 v2 rfl rfl) h2
  clear hA0 hval0
  refine (walk a0 a1 a2 W ).mono fun e W' ⟨he, bel⟩ => ?_
  subst he
  exact ⟨_, rfl, _, _, _, [], _, [], hW', trodAll_mk1 (shut_bool Try.underlying4 _), (trodAll_cons_mk (shut_float Try.underlying23 wf0) (trodAll_cons_mk (shut_float Try.underlying23 wf1) (trodAll_cons_mk (shut_float Try.underlying23 wf2) trodAll_mk0))), rfl, Below.frame (show Below W.heap.size W W' from bel) _, fun h => by cases h⟩
theorem closed : joinedFacts Try.prog 8 Try.f8 Rows.fnExactStretchAtSpec Rows.fnExactStretchAtRow = true := by
  unfold joinedFacts
  rw [Go.Proofs.Ytncolcjjmllfeaa.mayEnter, Go.Proofs.Ytncolcjjmllfeaa.liftsFinal, Go.Proofs.Ytncolcjjmllfeaa.make]
  kernel_rfl
theorem proved : Rows.FnExactStretchAtSaid :=
  OpenClaim.holds_of_wide 8 Try.f8 rfl rfl rfl rfl rfl rfl rfl ⟨rfl, rfl, rfl, rfl, rfl⟩ rfl rfl rfl rfl rfl (by kernel_rfl) Try.func8 closed
    (of_decide_eq_true (by kernel_rfl)) (by unfold Func.isWrapper; first | (rw [if_pos (by decide +kernel)]; kernel_rfl) | (rw [if_neg (by decide +kernel)]; exact ⟨rfl, rfl⟩))
    (fun os started H enc _ => lifted os started H enc)
end Go.Proofs.Ytncolcjjmllfeaa.xStretchAt
