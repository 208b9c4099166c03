/- StretchAt: the reference's and the program's. -/
import Derived.Test.YtncolcjjmllfeaaFMove
namespace Go.Proofs.Ytncolcjjmllfeaa
open Go.RowKit
set_option maxRecDepth 100000
set_option linter.unusedVariables false

theorem all_two (a b s t : Nat) (ha : Is .f32 a s) (hb : Is .f32 b t) : allP hardB (cl [a, b]) [a, b].length = (hardB s && hardB t) := by
  unfold allP
  have h0 : el (cl [a, b]) 0 = s := ha
  have h1 : el (cl [a, b]) 1 = t := hb
  simp [List.range_succ, h0, h1]
set_option maxHeartbeats 2000000 in
theorem implStr_any (a s b t c u : Nat) (w : World) (ha : Is .f32 a s) (hb : Is .f32 b t) (hc : Is .f32 c u) : Calls Try.prog 40 #[.float .f32 a, .float .f32 b, .float .f32 c] w (GivesFE (strO s t u) w) := by
  have h2 := all_two a c s u ha hc
  cases hq : (hardB s && hardB u) with
  | false =>
    rw [hq] at h2
    have h : Hid (strO s t u = none) := by
      unfold Hid strO
      cases hs : hardB s <;> cases hu : hardB u <;> cases hf : finK .f32 t <;> simp_all
    go_enter Try.func40, Try.ntmps40
    go_wp2_with (first | (go_at_call 110; refine (curve_any _ _ _ _ _ _ (by assumption) (by assumption) (by assumption) _).mono ?_; rintro _ _ ⟨q, n1, rfl, hq1, rfl⟩) | (go_at_call 99; refine (arePositive_any _ _ [a, c] _ _ (by exact OwnF.toFR (ownF_two _ _ (Ext.refl _) _ _)) (by simp) h2).mono ?_; rintro _ _ ⟨rfl, n2, rfl⟩) | (go_at_call 109; refine (finite_any _ _ _ (by assumption) _).mono ?_; rintro _ _ ⟨r, n3, rfl, hr, rfl⟩; (have HR := Lib.hid hr); clear hr) | (refine wl_bin rfl rfl rfl rfl rfl (by first | assumption | exact is_ofInt _ _ | exact is_self) (by first | assumption | exact is_ofInt _ _ | exact is_self) ?_; intro r n hr) | (refine wl_cmp rfl rfl rfl rfl rfl (by first | assumption | exact is_ofInt _ _ | exact is_self) (by first | assumption | exact is_ofInt _ _ | exact is_self) (by first | assumption | rfl) ?_) | (refine wl_widen rfl rfl rfl (by first | exact rfl | kernel_rfl) (by kernel_rfl) (by first | assumption | exact is_ofInt _ _ | exact is_self) ?_; intro r n hr) | (refine wl_neg rfl rfl rfl (by first | assumption | exact is_ofInt _ _ | exact is_self) ?_; intro r hr))
    go_ret2
    exact ⟨r, by rw [h.out]; rfl, by rw [h.out]; exact HR.out, (by repeat (first | assumption | exact Ext.refl _ | apply Ext.drewN | apply Ext.alloc | (refine Ext.setCell ?_ (by first | assumption | exact Nat.le_refl _) _)))⟩
  | true =>
    rw [hq] at h2
    cases hf : finK .f32 t with
    | false =>
      have h : Hid (strO s t u = none) := by unfold Hid strO; rw [hf, Bool.and_false]; rfl
      go_enter Try.func40, Try.ntmps40
      go_wp2_with (first | (go_at_call 110; refine (curve_any _ _ _ _ _ _ (by assumption) (by assumption) (by assumption) _).mono ?_; rintro _ _ ⟨q, n1, rfl, hq1, rfl⟩) | (go_at_call 99; refine (arePositive_any _ _ [a, c] _ _ (by exact OwnF.toFR (ownF_two _ _ (Ext.refl _) _ _)) (by simp) h2).mono ?_; rintro _ _ ⟨rfl, n2, rfl⟩) | (go_at_call 111; refine (isFinite_any _ _ _ hb hf _).mono ?_; rintro _ _ ⟨rfl, n4, rfl⟩) | (go_at_call 109; refine (finite_any _ _ _ (by assumption) _).mono ?_; rintro _ _ ⟨r, n3, rfl, hr, rfl⟩; (have HR := Lib.hid hr); clear hr) | (refine wl_bin rfl rfl rfl rfl rfl (by first | assumption | exact is_ofInt _ _ | exact is_self) (by first | assumption | exact is_ofInt _ _ | exact is_self) ?_; intro r n hr) | (refine wl_cmp rfl rfl rfl rfl rfl (by first | assumption | exact is_ofInt _ _ | exact is_self) (by first | assumption | exact is_ofInt _ _ | exact is_self) (by first | assumption | rfl) ?_) | (refine wl_widen rfl rfl rfl (by first | exact rfl | kernel_rfl) (by kernel_rfl) (by first | assumption | exact is_ofInt _ _ | exact is_self) ?_; intro r n hr) | (refine wl_neg rfl rfl rfl (by first | assumption | exact is_ofInt _ _ | exact is_self) ?_; intro r hr))
      go_ret2
      exact ⟨r, by rw [h.out]; rfl, by rw [h.out]; exact HR.out, (by repeat (first | assumption | exact Ext.refl _ | apply Ext.drewN | apply Ext.alloc | (refine Ext.setCell ?_ (by first | assumption | exact Nat.le_refl _) _)))⟩
    | true =>
      have h : Hid (strO s t u = finBO true (strF s t u)) := by
        unfold Hid strO finBO
        simp only [Bool.and_eq_true] at hq
        rw [hf, hq.1, hq.2]; rfl
      go_enter Try.func40, Try.ntmps40
      go_wp2_with (first | (go_at_call 110; refine (curve_any _ _ _ _ _ _ (by assumption) (by assumption) (by assumption) _).mono ?_; rintro _ _ ⟨q, n1, rfl, hq1, rfl⟩) | (go_at_call 99; refine (arePositive_any _ _ [a, c] _ _ (by exact OwnF.toFR (ownF_two _ _ (Ext.refl _) _ _)) (by simp) h2).mono ?_; rintro _ _ ⟨rfl, n2, rfl⟩) | (go_at_call 111; refine (isFinite_any _ _ _ hb hf _).mono ?_; rintro _ _ ⟨rfl, n4, rfl⟩) | (go_at_call 109; refine (finite_any _ _ _ (by assumption) _).mono ?_; rintro _ _ ⟨r, n3, rfl, hr, rfl⟩; (have HR := Lib.hid hr); clear hr) | (refine wl_bin rfl rfl rfl rfl rfl (by first | assumption | exact is_ofInt _ _ | exact is_self) (by first | assumption | exact is_ofInt _ _ | exact is_self) ?_; intro r n hr) | (refine wl_cmp rfl rfl rfl rfl rfl (by first | assumption | exact is_ofInt _ _ | exact is_self) (by first | assumption | exact is_ofInt _ _ | exact is_self) (by first | assumption | rfl) ?_) | (refine wl_widen rfl rfl rfl (by first | exact rfl | kernel_rfl) (by kernel_rfl) (by first | assumption | exact is_ofInt _ _ | exact is_self) ?_; intro r n hr) | (refine wl_neg rfl rfl rfl (by first | assumption | exact is_ofInt _ _ | exact is_self) ?_; intro r hr))
      go_ret2
      exact ⟨r, by rw [h.out]; rfl, by rw [h.out]; exact HR.out, (by repeat (first | assumption | exact Ext.refl _ | apply Ext.drewN | apply Ext.alloc | (refine Ext.setCell ?_ (by first | assumption | exact Nat.le_refl _) _)))⟩
theorem specStr0_any (a b c s t u : Nat) (w : World) (ha : Is .f32 a s) (hb : Is .f32 b t) (hc : Is .f32 c u) : Calls Try.prog 108 #[.float .f32 a, .float .f32 b, .float .f32 c] w (GivesFO (finO (strF s t u)) w) := by
  go_enter Try.func108, Try.ntmps108
  go_wp2_with (first | (go_at_call 158; refine (l04Curve_any _ _ _ _ _ _ (by assumption) (by assumption) (by assumption) _).mono ?_; rintro _ _ ⟨q, n1, rfl, hq1, rfl⟩) | (go_at_call 157; refine (l02Number_any _ _ (by assumption) _).mono ?_; rintro _ _ ⟨r, n3, rfl, hr, rfl⟩; (have HR := Lib.hid hr); clear hr) | (refine wl_bin rfl rfl rfl rfl rfl (by first | assumption | exact is_ofInt _ _ | exact is_self) (by first | assumption | exact is_ofInt _ _ | exact is_self) ?_; intro r n hr) | (refine wl_cmp rfl rfl rfl rfl rfl (by first | assumption | exact is_ofInt _ _ | exact is_self) (by first | assumption | exact is_ofInt _ _ | exact is_self) (by first | assumption | rfl) ?_) | (refine wl_widen rfl rfl rfl (by first | exact rfl | kernel_rfl) (by kernel_rfl) (by first | assumption | exact is_ofInt _ _ | exact is_self) ?_; intro r n hr) | (refine wl_neg rfl rfl rfl (by first | assumption | exact is_ofInt _ _ | exact is_self) ?_; intro r hr))
  go_ret2
  exact ⟨_, _, rfl, HR.out, rfl⟩
theorem specStr1_any (a b c s t u : Nat) (w : World) (ha : Is .f32 a s) (hb : Is .f32 b t) (hc : Is .f32 c u) : Calls Try.prog 39 #[.float .f32 a, .float .f32 b, .float .f32 c] w (GivesFO (strO s t u) w) := by
  cases hs : hardB s <;> cases hf : finK .f32 t <;> cases hu : hardB u
  case true.true.true =>
    have h : Hid (strO s t u = finO (strF s t u)) := by unfold Hid strO; rw [hs, hf, hu]; rfl
    go_enter Try.func39, Try.ntmps39
    go_wp2_with (first | (go_at_call 106; refine (l02Above_any _ _ _ (by assumption) (by assumption) _).mono ?_; rintro _ _ ⟨rfl, n2, rfl⟩) | (go_at_call 107; refine (l01Finite_any _ _ _ hb hf _).mono ?_; rintro _ _ ⟨rfl, n1, rfl⟩) | (go_at_call 108; refine (specStr0_any _ _ _ _ _ _ _ (by assumption) (by assumption) (by assumption)).mono ?_; rintro _ _ ⟨r, n3, rfl, hr, rfl⟩; (have HR := Lib.hid hr); clear hr))
    go_ret2
    exact ⟨_, _, by rw [h.out]; rfl, by rw [h.out]; exact HR.out, rfl⟩
  all_goals
    have h : Hid (strO s t u = none) := by unfold Hid strO; rw [hs, hf, hu]; rfl
    go_enter Try.func39, Try.ntmps39
    go_wp2_with (first | (go_at_call 106; refine (l02Above_any _ _ _ (by assumption) (by assumption) _).mono ?_; rintro _ _ ⟨rfl, n2, rfl⟩) | (go_at_call 107; refine (l01Finite_any _ _ _ hb hf _).mono ?_; rintro _ _ ⟨rfl, n1, rfl⟩))
    go_ret2
    exact givesFO_none h.out
theorem specStr_any (a s b t c u : Nat) (w : World) (ha : Is .f32 a s) (hb : Is .f32 b t) (hc : Is .f32 c u) : Calls Try.prog 39 #[.float .f32 a, .float .f32 b, .float .f32 c] w (GivesFE (strO s t u) w) :=
  (specStr1_any a b c s t u w ha hb hc).mono fun _ _ h => h.toFE
end Go.Proofs.Ytncolcjjmllfeaa
