/- SampleBetween: the reference's and the program's. -/
import Derived.Test.YtncolcjjmllfeaaFlr
import Derived.Test.YtncolcjjmllfeaaTab
namespace Go.Proofs.Ytncolcjjmllfeaa
open Go.RowKit
set_option maxRecDepth 100000
set_option linter.unusedVariables false

set_option maxHeartbeats 2000000 in
theorem l04At_any (ao : Option Addr) (cap : Nat) (xs : List Nat) (b s : Nat) (w : World) (hc : FR w ao xs) (hb : Is .f32 b s) (h64 : inB (xs.length : Int) 1 64 = true) :
    Calls Try.prog 103 #[.slice ao xs.length cap, .float .f32 b] w (GivesF .f32 (sampF (cl xs) s) w) := by
  have hI := inB_yes h64
  clear h64
  cases h1 : fcmp .geq .f32 s (canon .f32 0) with
  | false =>
    have hv : Hid (sampF (cl xs) s = canon .f32 0) := by unfold Hid sampF; rw [h1, Bool.false_and, if_neg (by decide)]; decide +kernel
    cases h2 : fcmp .leq .f32 s (floatOfInt .f32 ((xs.length : Int) - 1)) <;>
    (go_enter Try.func103, Try.ntmps103
     go_wp2_with (first | (refine wl_bin rfl rfl rfl rfl rfl (by first | assumption | exact is_ofInt _ _ | exact is_self) (by first | assumption | exact is_ofInt _ _ | exact is_self) ?_; intro r n hr) | (refine wl_cmp rfl rfl rfl rfl rfl (by first | assumption | exact is_ofInt _ _ | exact is_self) (by first | assumption | exact is_ofInt _ _ | exact is_self) (by first | assumption | rfl) ?_) | (refine wl_widen rfl rfl rfl (by first | exact rfl | kernel_rfl) (by kernel_rfl) (by first | assumption | exact is_ofInt _ _ | exact is_self) ?_; intro r n hr) | (refine wl_neg rfl rfl rfl (by first | assumption | exact is_ofInt _ _ | exact is_self) ?_; intro r hr))
     go_ret
     exact ⟨_, 0, rfl, by rw [hv.out]; exact is_self, rfl⟩)
  | true =>
  cases h2 : fcmp .leq .f32 s (floatOfInt .f32 ((xs.length : Int) - 1)) with
  | false =>
    have hv : Hid (sampF (cl xs) s = canon .f32 0) := by unfold Hid sampF; rw [cl_length, h2, Bool.and_false, if_neg (by decide)]; decide +kernel
    go_enter Try.func103, Try.ntmps103
    go_wp2_with (first | (refine wl_bin rfl rfl rfl rfl rfl (by first | assumption | exact is_ofInt _ _ | exact is_self) (by first | assumption | exact is_ofInt _ _ | exact is_self) ?_; intro r n hr) | (refine wl_cmp rfl rfl rfl rfl rfl (by first | assumption | exact is_ofInt _ _ | exact is_self) (by first | assumption | exact is_ofInt _ _ | exact is_self) (by first | assumption | rfl) ?_) | (refine wl_widen rfl rfl rfl (by first | exact rfl | kernel_rfl) (by kernel_rfl) (by first | assumption | exact is_ofInt _ _ | exact is_self) ?_; intro r n hr) | (refine wl_neg rfl rfl rfl (by first | assumption | exact is_ofInt _ _ | exact is_self) ?_; intro r hr))
    go_ret
    exact ⟨_, 0, rfl, by rw [hv.out]; exact is_self, rfl⟩
  | true =>
  have h2' : fcmp .leq .f32 s (floatOfInt .f32 ((xs.length - 1 : Nat) : Int)) = true := by rw [← h2, show ((xs.length - 1 : Nat) : Int) = (xs.length : Int) - 1 by omega]
  obtain ⟨hn, hk, hto, hne⟩ := samp_facts (by omega) h1 h2'
  clear h2'
  have hnf := isNan_floorF hn
  have hif : Is .f64 (floorF (fwiden s)) (floorF (fwiden s)) := canon_of_not hnf
  have hS : Hid (sampF (cl xs) s = if fcmp .eql .f32 (fop .sub .f32 s (floatOfInt .f32 ((flr s : Nat) : Int))) (canon .f32 0) then el (cl xs) (flr s)
    else fop .add .f32 (el (cl xs) (flr s)) (fop .mul .f32 (fop .sub .f32 s (floatOfInt .f32 ((flr s : Nat) : Int))) (fop .sub .f32 (el (cl xs) (flr s + 1)) (el (cl xs) (flr s))))) := by
    unfold Hid sampF; rw [cl_length, h1, h2]; rfl
  generalize flr s = k at hk hto hne hS
  have hkl : k < xs.length := by omega
  obtain ⟨b0, off, rfl, hcell⟩ := hc k hkl
  have hel := is_el hkl
  have hkb : -9223372036854775808 ≤ (k : Int) ∧ (k : Int) ≤ 9223372036854775807 := by omega
  cases h3 : fcmp .eql .f32 (fop .sub .f32 s (floatOfInt .f32 (k : Int))) (canon .f32 0) with
  | true =>
    have hv : Hid (sampF (cl xs) s = el (cl xs) k) := by unfold Hid; rw [hS.out, h3]; rfl
    go_enter Try.func103, Try.ntmps103
    go_wp2_with (first | (go_at_call 156; refine (mathFloor_any _ _ (by assumption) hn _).mono ?_; rintro _ _ ⟨rfl, rfl⟩) | (refine wl_toInt rfl rfl rfl (by first | exact rfl | kernel_rfl) (by kernel_rfl) hif hnf hto hkb ?_) | (refine wl_bin rfl rfl rfl rfl rfl (by first | assumption | exact is_ofInt _ _ | exact is_self) (by first | assumption | exact is_ofInt _ _ | exact is_self) ?_; intro r n hr) | (refine wl_cmp rfl rfl rfl rfl rfl (by first | assumption | exact is_ofInt _ _ | exact is_self) (by first | assumption | exact is_ofInt _ _ | exact is_self) (by first | assumption | rfl) ?_) | (refine wl_widen rfl rfl rfl (by first | exact rfl | kernel_rfl) (by kernel_rfl) (by first | assumption | exact is_ofInt _ _ | exact is_self) ?_; intro r n hr) | (refine wl_neg rfl rfl rfl (by first | assumption | exact is_ofInt _ _ | exact is_self) ?_; intro r hr))
    go_ret
    exact ⟨_, _, rfl, by rw [hv.out]; exact hel, rfl⟩
  | false =>
    have hk1 : k + 1 < xs.length := by have := hne h3; omega
    have hv : Hid (sampF (cl xs) s = fop .add .f32 (el (cl xs) k) (fop .mul .f32 (fop .sub .f32 s (floatOfInt .f32 (k : Int))) (fop .sub .f32 (el (cl xs) (k + 1)) (el (cl xs) k)))) := by unfold Hid; rw [hS.out, h3]; rfl
    have hel1 := is_el hk1
    obtain ⟨b1, off1, e1, hcell1⟩ := hc (k + 1) hk1
    injection e1 with e1
    injection e1 with e1 e2
    subst e1 e2
    clear hne hS
    go_enter Try.func103, Try.ntmps103
    go_wp2_with (first | (go_at_call 156; refine (mathFloor_any _ _ (by assumption) hn _).mono ?_; rintro _ _ ⟨rfl, rfl⟩) | (refine wl_toInt rfl rfl rfl (by first | exact rfl | kernel_rfl) (by kernel_rfl) hif hnf hto hkb ?_) | (refine wl_bin rfl rfl rfl rfl rfl (by first | assumption | exact is_ofInt _ _ | exact is_self) (by first | assumption | exact is_ofInt _ _ | exact is_self) ?_; intro r n hr) | (refine wl_cmp rfl rfl rfl rfl rfl (by first | assumption | exact is_ofInt _ _ | exact is_self) (by first | assumption | exact is_ofInt _ _ | exact is_self) (by first | assumption | rfl) ?_) | (refine wl_widen rfl rfl rfl (by first | exact rfl | kernel_rfl) (by kernel_rfl) (by first | assumption | exact is_ofInt _ _ | exact is_self) ?_; intro r n hr) | (refine wl_neg rfl rfl rfl (by first | assumption | exact is_ofInt _ _ | exact is_self) ?_; intro r hr))
    have e4 : IntKind.i64.wrap ((k : Int) + 1) = (k : Int) + 1 := IntWalk.i64_in _ (by omega)
    have e5 : (0 : Int) ≤ (k : Int) + 1 := by omega
    have e6 : ((k : Int) + 1).toNat = k + 1 := by omega
    have e7 : (k : Int) + 1 < (xs.length : Int) := by omega
    refine wp_region_mix (fun _ => Drawn w) (fun _ => false) (fun _ _ => True) (by kernel_rfl) (by kernel_rfl) (by kernel_rfl) (fun _ => drawn_more _) (fun _ => ⟨_, rfl⟩) (fun n0 => ?_)
    repeat (first
          | (refine lx_nil ?_; intro nq)
          | (refine lx_skip rfl ?_; go_simp)
          | (refine lx_move rfl rfl rfl rfl ?_; go_simp)
          | (refine lx_assign rfl rfl rfl rfl ?_; go_simp)
          | (refine lx_bin rfl rfl rfl rfl rfl rfl (by first | assumption | exact is_ofInt _ _ | exact is_self) (by first | assumption | exact is_ofInt _ _ | exact is_self) ?_; intro r hr; go_simp)
          | (refine lx_cmp rfl rfl rfl rfl rfl rfl (by first | assumption | exact is_ofInt _ _ | exact is_self) (by first | assumption | exact is_ofInt _ _ | exact is_self) (by first | assumption | rfl) ?_; go_simp)
          | (refine lx_widen rfl rfl rfl rfl (by first | exact rfl | kernel_rfl) (by kernel_rfl) (by first | assumption | exact is_ofInt _ _ | exact is_self) ?_; intro r hr; go_simp)
          | (refine lx_valD rfl rfl (fun nn => by go_simp; rfl) ?_; go_simp))
    have HR := Lib.hid hr
    clear hr
    go_wp2
    go_ret
    exact ⟨_, _, rfl, by rw [hv.out]; exact HR.out, drewN_drewN' _ _ _⟩
set_option maxHeartbeats 2000000 in
theorem sample_any (ao : Option Addr) (cap : Nat) (xs : List Nat) (b s : Nat) (w : World) (hc : FR w ao xs) (hb : Is .f32 b s) (h64 : inB (xs.length : Int) 1 64 = true) :
    Calls Try.prog 105 #[.slice ao xs.length cap, .float .f32 b] w (GivesF .f32 (sampF (cl xs) s) w) := by
  have hI := inB_yes h64
  clear h64
  cases h1 : fcmp .geq .f32 s (canon .f32 0) with
  | false =>
    have hv : Hid (sampF (cl xs) s = canon .f32 0) := by unfold Hid sampF; rw [h1, Bool.false_and, if_neg (by decide)]; decide +kernel
    cases h2 : fcmp .leq .f32 s (floatOfInt .f32 ((xs.length : Int) - 1)) <;>
    (go_enter Try.func105, Try.ntmps105
     go_wp2_with (first | (refine wl_bin rfl rfl rfl rfl rfl (by first | assumption | exact is_ofInt _ _ | exact is_self) (by first | assumption | exact is_ofInt _ _ | exact is_self) ?_; intro r n hr) | (refine wl_cmp rfl rfl rfl rfl rfl (by first | assumption | exact is_ofInt _ _ | exact is_self) (by first | assumption | exact is_ofInt _ _ | exact is_self) (by first | assumption | rfl) ?_) | (refine wl_widen rfl rfl rfl (by first | exact rfl | kernel_rfl) (by kernel_rfl) (by first | assumption | exact is_ofInt _ _ | exact is_self) ?_; intro r n hr) | (refine wl_neg rfl rfl rfl (by first | assumption | exact is_ofInt _ _ | exact is_self) ?_; intro r hr))
     go_ret
     exact ⟨_, 0, rfl, by rw [hv.out]; exact is_self, rfl⟩)
  | true =>
  cases h2 : fcmp .leq .f32 s (floatOfInt .f32 ((xs.length : Int) - 1)) with
  | false =>
    have hv : Hid (sampF (cl xs) s = canon .f32 0) := by unfold Hid sampF; rw [cl_length, h2, Bool.and_false, if_neg (by decide)]; decide +kernel
    go_enter Try.func105, Try.ntmps105
    go_wp2_with (first | (refine wl_bin rfl rfl rfl rfl rfl (by first | assumption | exact is_ofInt _ _ | exact is_self) (by first | assumption | exact is_ofInt _ _ | exact is_self) ?_; intro r n hr) | (refine wl_cmp rfl rfl rfl rfl rfl (by first | assumption | exact is_ofInt _ _ | exact is_self) (by first | assumption | exact is_ofInt _ _ | exact is_self) (by first | assumption | rfl) ?_) | (refine wl_widen rfl rfl rfl (by first | exact rfl | kernel_rfl) (by kernel_rfl) (by first | assumption | exact is_ofInt _ _ | exact is_self) ?_; intro r n hr) | (refine wl_neg rfl rfl rfl (by first | assumption | exact is_ofInt _ _ | exact is_self) ?_; intro r hr))
    go_ret
    exact ⟨_, 0, rfl, by rw [hv.out]; exact is_self, rfl⟩
  | true =>
  have h2' : fcmp .leq .f32 s (floatOfInt .f32 ((xs.length - 1 : Nat) : Int)) = true := by rw [← h2, show ((xs.length - 1 : Nat) : Int) = (xs.length : Int) - 1 by omega]
  obtain ⟨hn, hk, hto, hne⟩ := samp_facts (by omega) h1 h2'
  clear h2'
  have hnf := isNan_floorF hn
  have hif : Is .f64 (floorF (fwiden s)) (floorF (fwiden s)) := canon_of_not hnf
  have hS : Hid (sampF (cl xs) s = if fcmp .eql .f32 (fop .sub .f32 s (floatOfInt .f32 ((flr s : Nat) : Int))) (canon .f32 0) then el (cl xs) (flr s)
    else fop .add .f32 (el (cl xs) (flr s)) (fop .mul .f32 (fop .sub .f32 s (floatOfInt .f32 ((flr s : Nat) : Int))) (fop .sub .f32 (el (cl xs) (flr s + 1)) (el (cl xs) (flr s))))) := by
    unfold Hid sampF; rw [cl_length, h1, h2]; rfl
  generalize flr s = k at hk hto hne hS
  have hkl : k < xs.length := by omega
  obtain ⟨b0, off, rfl, hcell⟩ := hc k hkl
  have hel := is_el hkl
  have hkb : -9223372036854775808 ≤ (k : Int) ∧ (k : Int) ≤ 9223372036854775807 := by omega
  cases h3 : fcmp .eql .f32 (fop .sub .f32 s (floatOfInt .f32 (k : Int))) (canon .f32 0) with
  | true =>
    have hv : Hid (sampF (cl xs) s = el (cl xs) k) := by unfold Hid; rw [hS.out, h3]; rfl
    go_enter Try.func105, Try.ntmps105
    go_wp2_with (first | (go_at_call 156; refine (mathFloor_any _ _ (by assumption) hn _).mono ?_; rintro _ _ ⟨rfl, rfl⟩) | (refine wl_toInt rfl rfl rfl (by first | exact rfl | kernel_rfl) (by kernel_rfl) hif hnf hto hkb ?_) | (refine wl_bin rfl rfl rfl rfl rfl (by first | assumption | exact is_ofInt _ _ | exact is_self) (by first | assumption | exact is_ofInt _ _ | exact is_self) ?_; intro r n hr) | (refine wl_cmp rfl rfl rfl rfl rfl (by first | assumption | exact is_ofInt _ _ | exact is_self) (by first | assumption | exact is_ofInt _ _ | exact is_self) (by first | assumption | rfl) ?_) | (refine wl_widen rfl rfl rfl (by first | exact rfl | kernel_rfl) (by kernel_rfl) (by first | assumption | exact is_ofInt _ _ | exact is_self) ?_; intro r n hr) | (refine wl_neg rfl rfl rfl (by first | assumption | exact is_ofInt _ _ | exact is_self) ?_; intro r hr))
    go_ret
    exact ⟨_, _, rfl, by rw [hv.out]; exact hel, rfl⟩
  | false =>
    have hk1 : k + 1 < xs.length := by have := hne h3; omega
    have hv : Hid (sampF (cl xs) s = fop .add .f32 (el (cl xs) k) (fop .mul .f32 (fop .sub .f32 s (floatOfInt .f32 (k : Int))) (fop .sub .f32 (el (cl xs) (k + 1)) (el (cl xs) k)))) := by unfold Hid; rw [hS.out, h3]; rfl
    have hel1 := is_el hk1
    obtain ⟨b1, off1, e1, hcell1⟩ := hc (k + 1) hk1
    injection e1 with e1
    injection e1 with e1 e2
    subst e1 e2
    clear hne hS
    go_enter Try.func105, Try.ntmps105
    go_wp2_with (first | (go_at_call 156; refine (mathFloor_any _ _ (by assumption) hn _).mono ?_; rintro _ _ ⟨rfl, rfl⟩) | (refine wl_toInt rfl rfl rfl (by first | exact rfl | kernel_rfl) (by kernel_rfl) hif hnf hto hkb ?_) | (refine wl_bin rfl rfl rfl rfl rfl (by first | assumption | exact is_ofInt _ _ | exact is_self) (by first | assumption | exact is_ofInt _ _ | exact is_self) ?_; intro r n hr) | (refine wl_cmp rfl rfl rfl rfl rfl (by first | assumption | exact is_ofInt _ _ | exact is_self) (by first | assumption | exact is_ofInt _ _ | exact is_self) (by first | assumption | rfl) ?_) | (refine wl_widen rfl rfl rfl (by first | exact rfl | kernel_rfl) (by kernel_rfl) (by first | assumption | exact is_ofInt _ _ | exact is_self) ?_; intro r n hr) | (refine wl_neg rfl rfl rfl (by first | assumption | exact is_ofInt _ _ | exact is_self) ?_; intro r hr))
    have e4 : IntKind.i64.wrap ((k : Int) + 1) = (k : Int) + 1 := IntWalk.i64_in _ (by omega)
    have e5 : (0 : Int) ≤ (k : Int) + 1 := by omega
    have e6 : ((k : Int) + 1).toNat = k + 1 := by omega
    have e7 : (k : Int) + 1 < (xs.length : Int) := by omega
    refine wp_region_mix (fun _ => Drawn w) (fun _ => false) (fun _ _ => True) (by kernel_rfl) (by kernel_rfl) (by kernel_rfl) (fun _ => drawn_more _) (fun _ => ⟨_, rfl⟩) (fun n0 => ?_)
    repeat (first
          | (refine lx_nil ?_; intro nq)
          | (refine lx_skip rfl ?_; go_simp)
          | (refine lx_move rfl rfl rfl rfl ?_; go_simp)
          | (refine lx_assign rfl rfl rfl rfl ?_; go_simp)
          | (refine lx_bin rfl rfl rfl rfl rfl rfl (by first | assumption | exact is_ofInt _ _ | exact is_self) (by first | assumption | exact is_ofInt _ _ | exact is_self) ?_; intro r hr; go_simp)
          | (refine lx_cmp rfl rfl rfl rfl rfl rfl (by first | assumption | exact is_ofInt _ _ | exact is_self) (by first | assumption | exact is_ofInt _ _ | exact is_self) (by first | assumption | rfl) ?_; go_simp)
          | (refine lx_widen rfl rfl rfl rfl (by first | exact rfl | kernel_rfl) (by kernel_rfl) (by first | assumption | exact is_ofInt _ _ | exact is_self) ?_; intro r hr; go_simp)
          | (refine lx_valD rfl rfl (fun nn => by go_simp; rfl) ?_; go_simp))
    have HR := Lib.hid hr
    clear hr
    go_wp2
    go_ret
    exact ⟨_, _, rfl, by rw [hv.out]; exact HR.out, drewN_drewN' _ _ _⟩

def isTk (l : List Nat) : Bool := inB (l.length : Int) 1 64
def sampO (l : List Nat) (s : Nat) : Option Nat := if isTk l then some (sampF l s) else none
theorem isTicks_any (ao : Option Addr) (n cap : Nat) (b : Bool) (hb : inB (n : Int) 1 64 = b) (w : World) : Calls Try.prog 104 #[.slice ao n cap] w fun e w' => e = .returned (.bool b) ∧ w = w' := by
  go_enter Try.func104, Try.ntmps104
  go_wp2_with (first | (go_at_call 93; refine (within_any _ _ _ _ (by first | assumption | rfl) _).mono ?_; rintro _ _ ⟨rfl, rfl⟩) | (go_at_call 90; refine (l00In_any _ _ _ _ (by first | assumption | rfl) _).mono ?_; rintro _ _ ⟨rfl, rfl⟩) | (go_at_call 101; refine (isCount_any _ _ (by first | assumption | rfl) _).mono ?_; rintro _ _ ⟨rfl, rfl⟩) | (go_at_call 88; refine (isTrace_any _ _ _ _ (by first | assumption | rfl) _).mono ?_; rintro _ _ ⟨rfl, rfl⟩) | (go_at_call 85; refine (l03Is_any _ _ _ _ (by first | assumption | rfl) (by omega) _).mono ?_; rintro _ _ ⟨rfl, rfl⟩) | (go_at_call 94; refine (length32_any _ _ _ _).mono ?_; rintro _ _ ⟨rfl, rfl⟩) | (go_at_call 160; refine (isFinite64_any _ _ _ (by assumption) (by first | assumption | rfl) _).mono ?_; rintro _ _ ⟨rfl, n, rfl⟩) | (go_at_call 111; refine (isFinite_any _ _ _ (by first | assumption | exact is_ofInt _ _ | exact is_self) (by first | assumption | rfl) _).mono ?_; rintro _ _ ⟨rfl, n, rfl⟩) | (go_at_call 107; refine (l01Finite_any _ _ _ (by first | assumption | exact is_ofInt _ _ | exact is_self) (by first | assumption | rfl) _).mono ?_; rintro _ _ ⟨rfl, n, rfl⟩) | (refine wl_bin rfl rfl rfl rfl rfl (by first | assumption | exact is_ofInt _ _ | exact is_self) (by first | assumption | exact is_ofInt _ _ | exact is_self) ?_; intro r n hr) | (refine wl_cmp rfl rfl rfl rfl rfl (by first | assumption | exact is_ofInt _ _ | exact is_self) (by first | assumption | exact is_ofInt _ _ | exact is_self) (by first | assumption | rfl) ?_) | (refine wl_widen rfl rfl rfl (by first | exact rfl | kernel_rfl) (by kernel_rfl) (by first | assumption | exact is_ofInt _ _ | exact is_self) ?_; intro r n hr) | (refine wl_neg rfl rfl rfl (by first | assumption | exact is_ofInt _ _ | exact is_self) ?_; intro r hr))
  go_ret
  exact ⟨rfl, rfl⟩
theorem l04Ticks_any (n : Int) (b : Bool) (hb : inB n 1 64 = b) (w : World) : Calls Try.prog 123 #[.int .i64 n] w fun e w' => e = .returned (.bool b) ∧ w = w' := by
  go_enter Try.func123, Try.ntmps123
  go_wp2_with (first | (go_at_call 93; refine (within_any _ _ _ _ (by first | assumption | rfl) _).mono ?_; rintro _ _ ⟨rfl, rfl⟩) | (go_at_call 90; refine (l00In_any _ _ _ _ (by first | assumption | rfl) _).mono ?_; rintro _ _ ⟨rfl, rfl⟩) | (go_at_call 101; refine (isCount_any _ _ (by first | assumption | rfl) _).mono ?_; rintro _ _ ⟨rfl, rfl⟩) | (go_at_call 88; refine (isTrace_any _ _ _ _ (by first | assumption | rfl) _).mono ?_; rintro _ _ ⟨rfl, rfl⟩) | (go_at_call 85; refine (l03Is_any _ _ _ _ (by first | assumption | rfl) (by omega) _).mono ?_; rintro _ _ ⟨rfl, rfl⟩) | (go_at_call 94; refine (length32_any _ _ _ _).mono ?_; rintro _ _ ⟨rfl, rfl⟩) | (go_at_call 160; refine (isFinite64_any _ _ _ (by assumption) (by first | assumption | rfl) _).mono ?_; rintro _ _ ⟨rfl, n, rfl⟩) | (go_at_call 111; refine (isFinite_any _ _ _ (by first | assumption | exact is_ofInt _ _ | exact is_self) (by first | assumption | rfl) _).mono ?_; rintro _ _ ⟨rfl, n, rfl⟩) | (go_at_call 107; refine (l01Finite_any _ _ _ (by first | assumption | exact is_ofInt _ _ | exact is_self) (by first | assumption | rfl) _).mono ?_; rintro _ _ ⟨rfl, n, rfl⟩) | (refine wl_bin rfl rfl rfl rfl rfl (by first | assumption | exact is_ofInt _ _ | exact is_self) (by first | assumption | exact is_ofInt _ _ | exact is_self) ?_; intro r n hr) | (refine wl_cmp rfl rfl rfl rfl rfl (by first | assumption | exact is_ofInt _ _ | exact is_self) (by first | assumption | exact is_ofInt _ _ | exact is_self) (by first | assumption | rfl) ?_) | (refine wl_widen rfl rfl rfl (by first | exact rfl | kernel_rfl) (by kernel_rfl) (by first | assumption | exact is_ofInt _ _ | exact is_self) ?_; intro r n hr) | (refine wl_neg rfl rfl rfl (by first | assumption | exact is_ofInt _ _ | exact is_self) ?_; intro r hr))
  go_ret
  exact ⟨rfl, rfl⟩
theorem l04List_any (ao : Option Addr) (n cap : Nat) (b : Bool) (hb : inB (n : Int) 1 64 = b) (w : World) : Calls Try.prog 102 #[.slice ao n cap] w fun e w' => e = .returned (.bool b) ∧ w = w' := by
  go_enter Try.func102, Try.ntmps102
  go_wp2_with (go_at_call 123; refine (l04Ticks_any _ _ (by assumption) _).mono ?_; rintro _ _ ⟨rfl, rfl⟩)
  go_ret
  exact ⟨rfl, rfl⟩
theorem specSB_any (ao : Option Addr) (cap : Nat) (xs : List Nat) (b s : Nat) (w : World) (hc : FR w ao xs) (hl : xs.length ≤ 1048576) (hb : Is .f32 b s) :
    Calls Try.prog 37 #[.slice ao xs.length cap, .float .f32 b] w (GivesFO (sampO (cl xs) s) w) := by
  cases ht : inB (xs.length : Int) 1 64 with
  | false =>
    have hn : Hid (sampO (cl xs) s = none) := by unfold Hid sampO isTk; rw [cl_length, ht]; rfl
    go_enter Try.func37, Try.ntmps37
    go_wp2_with (go_at_call 102; refine (l04List_any _ _ _ _ ht _).mono ?_; rintro _ _ ⟨rfl, rfl⟩)
    go_ret2
    exact givesFO_none (n := 0) hn.out
  | true =>
    have hs : Hid (sampO (cl xs) s = some (sampF (cl xs) s)) := by unfold Hid sampO isTk; rw [cl_length, ht]; rfl
    go_enter Try.func37, Try.ntmps37
    go_wp2_with (first | (go_at_call 102; refine (l04List_any _ _ _ _ ht _).mono ?_; rintro _ _ ⟨rfl, rfl⟩) | (go_at_call 103; refine (l04At_any _ _ _ _ _ _ hc hb ht).mono ?_; rintro _ _ ⟨r, n1, rfl, hr, rfl⟩; (have HR := Lib.hid hr); clear hr))
    go_ret2
    exact givesFO_some hs.out HR.out
theorem implSB_any (ao : Option Addr) (cap : Nat) (xs : List Nat) (b s : Nat) (w : World) (hc : FR w ao xs) (hl : xs.length ≤ 1048576) (hb : Is .f32 b s) :
    Calls Try.prog 38 #[.slice ao xs.length cap, .float .f32 b] w (GivesFO (sampO (cl xs) s) w) := by
  cases ht : inB (xs.length : Int) 1 64 with
  | false =>
    have hn : Hid (sampO (cl xs) s = none) := by unfold Hid sampO isTk; rw [cl_length, ht]; rfl
    go_enter Try.func38, Try.ntmps38
    go_wp2_with (go_at_call 104; refine (isTicks_any _ _ _ _ ht _).mono ?_; rintro _ _ ⟨rfl, rfl⟩)
    go_ret2
    exact givesFO_none (n := 0) hn.out
  | true =>
    have hs : Hid (sampO (cl xs) s = some (sampF (cl xs) s)) := by unfold Hid sampO isTk; rw [cl_length, ht]; rfl
    go_enter Try.func38, Try.ntmps38
    go_wp2_with (first | (go_at_call 104; refine (isTicks_any _ _ _ _ ht _).mono ?_; rintro _ _ ⟨rfl, rfl⟩) | (go_at_call 105; refine (sample_any _ _ _ _ _ _ hc hb ht).mono ?_; rintro _ _ ⟨r, n1, rfl, hr, rfl⟩; (have HR := Lib.hid hr); clear hr))
    go_ret2
    exact givesFO_some hs.out HR.out

end Go.Proofs.Ytncolcjjmllfeaa
