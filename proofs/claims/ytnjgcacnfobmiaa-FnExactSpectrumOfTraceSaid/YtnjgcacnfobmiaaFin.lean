/- Is a float finite? The reference's and the program's tests. -/
import Derived.Test.YtnjgcacnfobmiaaIs
namespace Go.Proofs.Ytnjgcacnfobmiaa
open Go.RowKit
set_option maxRecDepth 100000

/-- A number, neither infinite nor a NaN. -/
def finK (k : FloatKind) (s : Nat) : Bool := match k.format.read s with
  | .number .. => true
  | _ => false
theorem finK_nan {k : FloatKind} {s : Nat} (h : isNan k s = true) : finK k s = false := by
  obtain ⟨a, t, e⟩ := read_nan h
  unfold finK; rw [e]
theorem finK_canon (k : FloatKind) (s : Nat) : finK k (canon k s) = finK k s := by
  cases h : isNan k s with
  | true => rw [finK_nan h, finK_nan (by rw [isNan_canon]; exact h)]
  | false => rw [canon_of_not h]
/-- What is taken from itself is zero just where it is finite. -/
theorem sub_self_eq (k : FloatKind) (s : Nat) : fcmp .eql k (fop .sub k s s) 0 = finK k s := by
  cases h : isNan k s with
  | true =>
    rw [finK_nan h]
    have : fop .sub k s s = nanOf k := by unfold fop; rw [floatBits_nan (.inl h)]; rfl
    rw [this, fcmp_nan (.inl (isNan_nanOf k))]
    rfl
  | false =>
    unfold finK
    rcases read_not h with ⟨a, m, e, he⟩ | ⟨a, he⟩
    · rw [he]
      have h0 : floatBits .sub k s s = some 0 := by
        show k.format.sub s s = some 0
        unfold Ieee.Format.sub
        rw [he]
        have ht : Ieee.signed a m 0 + Ieee.signed (!a) m 0 = 0 := by cases a <;> simp [Ieee.signed] <;> omega
        simp only [Ieee.Datum.opposite, Ieee.Datum.sum, Int.min_self, Int.sub_self, Int.toNat_zero, ht]
        cases a <;> cases k <;> rfl
      unfold fop
      rw [h0]
      show fcmp .eql k 0 0 = true
      cases k <;> decide +kernel
    · rw [he]
      have h0 : floatBits .sub k s s = none := by
        show k.format.sub s s = none
        unfold Ieee.Format.sub
        rw [he]
        cases a <;> simp [Ieee.Datum.opposite, Ieee.Datum.sum]
      unfold fop
      rw [h0]
      show fcmp .eql k (nanOf k) 0 = false
      rw [fcmp_nan (.inl (isNan_nanOf k))]
      rfl
theorem finK_widen (s : Nat) : finK .f64 (fwiden s) = finK .f32 s := by
  unfold fwiden
  cases h : isNan .f32 s with
  | true => rw [finK_nan h]; simp only [if_true]; exact finK_nan (isNan_nanOf _)
  | false =>
    simp only [Bool.false_eq_true, if_false]
    rcases read_not h with ⟨a, m, e, he⟩ | ⟨a, he⟩
    · have hd : FloatKind.f32.decode s = .number a m e := he
      rw [hd]
      have h1 : finK .f32 s = true := by unfold finK; rw [he]
      have hi : (Ieee.double.read (Ieee.double.write (.number a m e))).isInfinity = false := widen_finite s he
      have hn : (Ieee.double.read (Ieee.double.write (.number a m e))).isNaN = false := write_not Ieee.double rfl
      rw [h1]
      unfold finK
      show (match Ieee.double.read (Ieee.double.write (.number a m e)) with | .number .. => true | _ => false) = true
      generalize Ieee.double.read (Ieee.double.write (.number a m e)) = d at hi hn
      cases d <;> simp_all [Ieee.Datum.isInfinity, Ieee.Datum.isNaN]
    · have hd : FloatKind.f32.decode s = .infinity a := he
      rw [hd]
      have h1 : finK .f32 s = false := by unfold finK; rw [he]
      rw [h1]
      cases a <;> decide +kernel

theorem isFinite64_any (b s : Nat) (v : Bool) (hb : Is .f64 b s) (hv : finK .f64 s = v) (w : World) : Calls Try.prog 148 #[.float .f64 b] w (Gives (.bool v) w) := by
  have hq : fcmp .eql .f64 (fop .sub .f64 s s) (canon .f64 0) = v := by rw [show canon .f64 0 = 0 from rfl, sub_self_eq, hv]
  go_enter Try.func148, Try.ntmps148
  go_wp2_with (first | (refine wl_bin rfl rfl rfl rfl rfl (by first | assumption | exact is_ofInt _ _ | exact is_self) (by first | assumption | exact is_ofInt _ _ | exact is_self) ?_; intro r n hr) | (refine wl_cmp rfl rfl rfl rfl rfl (by first | assumption | exact is_ofInt _ _ | exact is_self) (by first | assumption | exact is_ofInt _ _ | exact is_self) (by first | assumption | rfl) ?_) | (refine wl_widen rfl rfl rfl (by first | exact rfl | kernel_rfl) (by kernel_rfl) (by first | assumption | exact is_ofInt _ _ | exact is_self) ?_; intro r n hr) | (refine wl_neg rfl rfl rfl (by first | assumption | exact is_ofInt _ _ | exact is_self) ?_; intro r hr))
  go_ret
  exact ⟨rfl, _, rfl⟩
theorem isFinite_any (b s : Nat) (v : Bool) (hb : Is .f32 b s) (hv : finK .f32 s = v) (w : World) : Calls Try.prog 99 #[.float .f32 b] w (Gives (.bool v) w) := by
  have hq : finK .f64 (fwiden s) = v := by rw [finK_widen, hv]
  go_enter Try.func99, Try.ntmps99
  go_wp2_with (first | (go_at_call 77; refine (within_any _ _ _ _ (by first | assumption | rfl) _).mono ?_; rintro _ _ ⟨rfl, rfl⟩) | (go_at_call 90; refine (l00In_any _ _ _ _ (by first | assumption | rfl) _).mono ?_; rintro _ _ ⟨rfl, rfl⟩) | (go_at_call 96; refine (isCount_any _ _ (by first | assumption | rfl) _).mono ?_; rintro _ _ ⟨rfl, rfl⟩) | (go_at_call 88; refine (isTrace_any _ _ _ _ (by first | assumption | rfl) _).mono ?_; rintro _ _ ⟨rfl, rfl⟩) | (go_at_call 85; refine (l03Is_any _ _ _ _ (by first | assumption | rfl) (by omega) _).mono ?_; rintro _ _ ⟨rfl, rfl⟩) | (go_at_call 78; refine (length32_any _ _ _ _).mono ?_; rintro _ _ ⟨rfl, rfl⟩) | (go_at_call 148; refine (isFinite64_any _ _ _ (by assumption) (by first | assumption | rfl) _).mono ?_; rintro _ _ ⟨rfl, n, rfl⟩) | (go_at_call 99; refine (isFinite_any _ _ _ (by first | assumption | exact is_ofInt _ _ | exact is_self) (by first | assumption | rfl) _).mono ?_; rintro _ _ ⟨rfl, n, rfl⟩) | (go_at_call 97; refine (l01Finite_any _ _ _ (by first | assumption | exact is_ofInt _ _ | exact is_self) (by first | assumption | rfl) _).mono ?_; rintro _ _ ⟨rfl, n, rfl⟩) | (refine wl_bin rfl rfl rfl rfl rfl (by first | assumption | exact is_ofInt _ _ | exact is_self) (by first | assumption | exact is_ofInt _ _ | exact is_self) ?_; intro r n hr) | (refine wl_cmp rfl rfl rfl rfl rfl (by first | assumption | exact is_ofInt _ _ | exact is_self) (by first | assumption | exact is_ofInt _ _ | exact is_self) (by first | assumption | rfl) ?_) | (refine wl_widen rfl rfl rfl (by first | exact rfl | kernel_rfl) (by kernel_rfl) (by first | assumption | exact is_ofInt _ _ | exact is_self) ?_; intro r n hr) | (refine wl_neg rfl rfl rfl (by first | assumption | exact is_ofInt _ _ | exact is_self) ?_; intro r hr))
  go_ret
  exact ⟨rfl, _, rfl⟩
theorem l01Finite_any (b s : Nat) (v : Bool) (hb : Is .f32 b s) (hv : finK .f32 s = v) (w : World) : Calls Try.prog 97 #[.float .f32 b] w (Gives (.bool v) w) := by
  have hq : fcmp .eql .f32 (fop .sub .f32 s s) (canon .f32 0) = v := by rw [show canon .f32 0 = 0 from rfl, sub_self_eq, hv]
  go_enter Try.func97, Try.ntmps97
  go_wp2_with (first | (refine wl_bin rfl rfl rfl rfl rfl (by first | assumption | exact is_ofInt _ _ | exact is_self) (by first | assumption | exact is_ofInt _ _ | exact is_self) ?_; intro r n hr) | (refine wl_cmp rfl rfl rfl rfl rfl (by first | assumption | exact is_ofInt _ _ | exact is_self) (by first | assumption | exact is_ofInt _ _ | exact is_self) (by first | assumption | rfl) ?_) | (refine wl_widen rfl rfl rfl (by first | exact rfl | kernel_rfl) (by kernel_rfl) (by first | assumption | exact is_ofInt _ _ | exact is_self) ?_; intro r n hr) | (refine wl_neg rfl rfl rfl (by first | assumption | exact is_ofInt _ _ | exact is_self) ?_; intro r hr))
  go_ret
  exact ⟨rfl, _, rfl⟩
end Go.Proofs.Ytnjgcacnfobmiaa
