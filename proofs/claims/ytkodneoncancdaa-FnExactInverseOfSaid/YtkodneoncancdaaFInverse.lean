/- InverseOf: the reference's and the program's. -/
import Derived.Test.YtkodneoncancdaaRec
namespace Go.Proofs.Ytkodneoncancdaa
open Go.RowKit
set_option linter.unusedVariables false

def invG (l m : List Nat) (k i : Nat) : Nat := fop .mul .f32 (el l (i + 1)) (el m (k - (i + 1)))
def invS (l ys : List Nat) : Nat := sumP (invG l ys ys.length) (min ys.length (l.length - 1))
def invF (l ys : List Nat) : Nat := if ys.length = 0 then fop .quo .f32 (canon .f32 1065353216) (el l 0) else fop .quo .f32 (fneg .f32 (invS l ys)) (el l 0)
def invO (l : List Nat) (n : Int) : Option (List Nat) := if isTr l && !fcmp .eql .f32 (el l 0) 0 && inB n 1 128 then some (recP (invF l) n.toNat) else none
theorem invO_len (l : List Nat) (n : Int) : ((invO l n).getD []).length ≤ 1048576 :=
  gate_len (n := 128) (fun h => by simp only [Bool.and_eq_true] at h; have := inB_yes h.2; rw [recP_len]; omega) (by omega)
set_option maxHeartbeats 4000000 in
theorem specInv_any (ao : Option Addr) (cap : Nat) (xs : List Nat) (n : Int) (w : World) (hc : FR w ao xs) (hl : xs.length ≤ 1048576) (_ : -9223372036854775808 ≤ n) (_ : n ≤ 9223372036854775807) :
    Calls Try.prog 25 #[.slice ao xs.length cap, .int .i64 n] w (GivesO (invO (cl xs) n) w) := by
  obtain ⟨i0, hi0, hz0, hs0, hb0⟩ := info_parts info32
  cases ht0 : inB (xs.length : Int) 1 128 with
  | false =>
    have hn : Hid (invO (cl xs) n = none) := by unfold Hid invO; rw [isTr_cl, ht0]; rfl
    go_enter Try.func25, Try.ntmps25
    go_wp2_with (first | (go_at_call 63; refine (within_any _ _ _ _ (by first | assumption | rfl) _).mono ?_; rintro _ _ ⟨rfl, rfl⟩) | (go_at_call 69; refine (l00In_any _ _ _ _ (by first | assumption | rfl) _).mono ?_; rintro _ _ ⟨rfl, rfl⟩) | (go_at_call 71; refine (isCount_any _ _ (by first | assumption | rfl) _).mono ?_; rintro _ _ ⟨rfl, rfl⟩) | (go_at_call 79; refine (isFilter_any _ _ (by first | assumption | rfl) _).mono ?_; rintro _ _ ⟨rfl, rfl⟩) | (go_at_call 70; refine (isTrace_any _ _ _ _ (by first | assumption | rfl) _).mono ?_; rintro _ _ ⟨rfl, rfl⟩) | (go_at_call 68; refine (l03Is_any _ _ _ _ (by first | assumption | rfl) (by omega) _).mono ?_; rintro _ _ ⟨rfl, rfl⟩) | (go_at_call 64; refine (length32_any _ _ _ _).mono ?_; rintro _ _ ⟨rfl, rfl⟩) | (go_at_call 108; refine (isFinite64_any _ _ _ (by assumption) (by first | assumption | rfl) _).mono ?_; rintro _ _ ⟨rfl, n, rfl⟩) | (go_at_call 105; refine (isFinite_any _ _ _ (by first | assumption | exact is_ofInt _ _ | exact is_self) (by first | assumption | rfl) _).mono ?_; rintro _ _ ⟨rfl, n, rfl⟩) | (go_at_call 101; refine (l01Finite_any _ _ _ (by first | assumption | exact is_ofInt _ _ | exact is_self) (by first | assumption | rfl) _).mono ?_; rintro _ _ ⟨rfl, n, rfl⟩) | (refine wl_bin rfl rfl rfl rfl rfl (by first | assumption | exact is_ofInt _ _ | exact is_self) (by first | assumption | exact is_ofInt _ _ | exact is_self) ?_; intro r n hr) | (refine wl_cmp rfl rfl rfl rfl rfl (by first | assumption | exact is_ofInt _ _ | exact is_self) (by first | assumption | exact is_ofInt _ _ | exact is_self) (by first | assumption | rfl) ?_) | (refine wl_widen rfl rfl rfl (by first | exact rfl | kernel_rfl) (by kernel_rfl) (by first | assumption | exact is_ofInt _ _ | exact is_self) ?_; intro r n hr) | (refine wl_neg rfl rfl rfl (by first | assumption | exact is_ofInt _ _ | exact is_self) ?_; intro r hr))
    go_ret2
    exact givesO_none hn.out (Ext.refl _)
  | true =>
  have hI0 := inB_yes ht0
  obtain ⟨b, off, rfl, hcell0⟩ := hc 0 (by omega)
  have hcellZ : w.cell? ⟨b, off, none⟩ = some (.float .f32 (el xs 0)) := hcell0
  clear hcell0
  have hA0 := is_el (show 0 < xs.length by omega)
  have hp0 : 0 < xs.length := by omega
  cases ht1 : fcmp .eql .f32 (el (cl xs) 0) (canon .f32 0) with
  | true =>
    have hn : Hid (invO (cl xs) n = none) := by unfold Hid invO; rw [isTr_cl, ht0, show (0 : Nat) = canon .f32 0 from rfl, show el (cl xs) (canon .f32 0) = el (cl xs) 0 from rfl, ht1]; rfl
    go_enter Try.func25, Try.ntmps25
    go_wp2_with (first | (go_at_call 63; refine (within_any _ _ _ _ (by first | assumption | rfl) _).mono ?_; rintro _ _ ⟨rfl, rfl⟩) | (go_at_call 69; refine (l00In_any _ _ _ _ (by first | assumption | rfl) _).mono ?_; rintro _ _ ⟨rfl, rfl⟩) | (go_at_call 71; refine (isCount_any _ _ (by first | assumption | rfl) _).mono ?_; rintro _ _ ⟨rfl, rfl⟩) | (go_at_call 79; refine (isFilter_any _ _ (by first | assumption | rfl) _).mono ?_; rintro _ _ ⟨rfl, rfl⟩) | (go_at_call 70; refine (isTrace_any _ _ _ _ (by first | assumption | rfl) _).mono ?_; rintro _ _ ⟨rfl, rfl⟩) | (go_at_call 68; refine (l03Is_any _ _ _ _ (by first | assumption | rfl) (by omega) _).mono ?_; rintro _ _ ⟨rfl, rfl⟩) | (go_at_call 64; refine (length32_any _ _ _ _).mono ?_; rintro _ _ ⟨rfl, rfl⟩) | (go_at_call 108; refine (isFinite64_any _ _ _ (by assumption) (by first | assumption | rfl) _).mono ?_; rintro _ _ ⟨rfl, n, rfl⟩) | (go_at_call 105; refine (isFinite_any _ _ _ (by first | assumption | exact is_ofInt _ _ | exact is_self) (by first | assumption | rfl) _).mono ?_; rintro _ _ ⟨rfl, n, rfl⟩) | (go_at_call 101; refine (l01Finite_any _ _ _ (by first | assumption | exact is_ofInt _ _ | exact is_self) (by first | assumption | rfl) _).mono ?_; rintro _ _ ⟨rfl, n, rfl⟩) | (refine wl_bin rfl rfl rfl rfl rfl (by first | assumption | exact is_ofInt _ _ | exact is_self) (by first | assumption | exact is_ofInt _ _ | exact is_self) ?_; intro r n hr) | (refine wl_cmp rfl rfl rfl rfl rfl (by first | assumption | exact is_ofInt _ _ | exact is_self) (by first | assumption | exact is_ofInt _ _ | exact is_self) (by first | assumption | rfl) ?_) | (refine wl_widen rfl rfl rfl (by first | exact rfl | kernel_rfl) (by kernel_rfl) (by first | assumption | exact is_ofInt _ _ | exact is_self) ?_; intro r n hr) | (refine wl_neg rfl rfl rfl (by first | assumption | exact is_ofInt _ _ | exact is_self) ?_; intro r hr))
    go_ret2
    exact givesO_none hn.out (Ext.refl _)
  | false =>
  cases ht2 : inB n 1 128 with
  | false =>
    have hn : Hid (invO (cl xs) n = none) := by unfold Hid invO; rw [isTr_cl, ht0, ht2]; simp
    go_enter Try.func25, Try.ntmps25
    go_wp2_with (first | (go_at_call 63; refine (within_any _ _ _ _ (by first | assumption | rfl) _).mono ?_; rintro _ _ ⟨rfl, rfl⟩) | (go_at_call 69; refine (l00In_any _ _ _ _ (by first | assumption | rfl) _).mono ?_; rintro _ _ ⟨rfl, rfl⟩) | (go_at_call 71; refine (isCount_any _ _ (by first | assumption | rfl) _).mono ?_; rintro _ _ ⟨rfl, rfl⟩) | (go_at_call 79; refine (isFilter_any _ _ (by first | assumption | rfl) _).mono ?_; rintro _ _ ⟨rfl, rfl⟩) | (go_at_call 70; refine (isTrace_any _ _ _ _ (by first | assumption | rfl) _).mono ?_; rintro _ _ ⟨rfl, rfl⟩) | (go_at_call 68; refine (l03Is_any _ _ _ _ (by first | assumption | rfl) (by omega) _).mono ?_; rintro _ _ ⟨rfl, rfl⟩) | (go_at_call 64; refine (length32_any _ _ _ _).mono ?_; rintro _ _ ⟨rfl, rfl⟩) | (go_at_call 108; refine (isFinite64_any _ _ _ (by assumption) (by first | assumption | rfl) _).mono ?_; rintro _ _ ⟨rfl, n, rfl⟩) | (go_at_call 105; refine (isFinite_any _ _ _ (by first | assumption | exact is_ofInt _ _ | exact is_self) (by first | assumption | rfl) _).mono ?_; rintro _ _ ⟨rfl, n, rfl⟩) | (go_at_call 101; refine (l01Finite_any _ _ _ (by first | assumption | exact is_ofInt _ _ | exact is_self) (by first | assumption | rfl) _).mono ?_; rintro _ _ ⟨rfl, n, rfl⟩) | (refine wl_bin rfl rfl rfl rfl rfl (by first | assumption | exact is_ofInt _ _ | exact is_self) (by first | assumption | exact is_ofInt _ _ | exact is_self) ?_; intro r n hr) | (refine wl_cmp rfl rfl rfl rfl rfl (by first | assumption | exact is_ofInt _ _ | exact is_self) (by first | assumption | exact is_ofInt _ _ | exact is_self) (by first | assumption | rfl) ?_) | (refine wl_widen rfl rfl rfl (by first | exact rfl | kernel_rfl) (by kernel_rfl) (by first | assumption | exact is_ofInt _ _ | exact is_self) ?_; intro r n hr) | (refine wl_neg rfl rfl rfl (by first | assumption | exact is_ofInt _ _ | exact is_self) ?_; intro r hr))
    go_ret2
    exact givesO_none hn.out (Ext.refl _)
  | true =>
  have hI2 := inB_yes ht2
  obtain ⟨m, rfl⟩ := Int.eq_ofNat_of_zero_le (show 0 ≤ n by omega)
  have hs : Hid (invO (cl xs) m = some (recP (invF (cl xs)) m)) := by unfold Hid invO; rw [isTr_cl, ht0, show (0 : Nat) = canon .f32 0 from rfl, show el (cl xs) (canon .f32 0) = el (cl xs) 0 from rfl, ht1, ht2]; rfl
  go_enter Try.func25, Try.ntmps25
  go_wp2_with (first | (go_at_call 63; refine (within_any _ _ _ _ (by first | assumption | rfl) _).mono ?_; rintro _ _ ⟨rfl, rfl⟩) | (go_at_call 69; refine (l00In_any _ _ _ _ (by first | assumption | rfl) _).mono ?_; rintro _ _ ⟨rfl, rfl⟩) | (go_at_call 71; refine (isCount_any _ _ (by first | assumption | rfl) _).mono ?_; rintro _ _ ⟨rfl, rfl⟩) | (go_at_call 79; refine (isFilter_any _ _ (by first | assumption | rfl) _).mono ?_; rintro _ _ ⟨rfl, rfl⟩) | (go_at_call 70; refine (isTrace_any _ _ _ _ (by first | assumption | rfl) _).mono ?_; rintro _ _ ⟨rfl, rfl⟩) | (go_at_call 68; refine (l03Is_any _ _ _ _ (by first | assumption | rfl) (by omega) _).mono ?_; rintro _ _ ⟨rfl, rfl⟩) | (go_at_call 64; refine (length32_any _ _ _ _).mono ?_; rintro _ _ ⟨rfl, rfl⟩) | (go_at_call 108; refine (isFinite64_any _ _ _ (by assumption) (by first | assumption | rfl) _).mono ?_; rintro _ _ ⟨rfl, n, rfl⟩) | (go_at_call 105; refine (isFinite_any _ _ _ (by first | assumption | exact is_ofInt _ _ | exact is_self) (by first | assumption | rfl) _).mono ?_; rintro _ _ ⟨rfl, n, rfl⟩) | (go_at_call 101; refine (l01Finite_any _ _ _ (by first | assumption | exact is_ofInt _ _ | exact is_self) (by first | assumption | rfl) _).mono ?_; rintro _ _ ⟨rfl, n, rfl⟩) | (refine wl_bin rfl rfl rfl rfl rfl (by first | assumption | exact is_ofInt _ _ | exact is_self) (by first | assumption | exact is_ofInt _ _ | exact is_self) ?_; intro r n hr) | (refine wl_cmp rfl rfl rfl rfl rfl (by first | assumption | exact is_ofInt _ _ | exact is_self) (by first | assumption | exact is_ofInt _ _ | exact is_self) (by first | assumption | rfl) ?_) | (refine wl_widen rfl rfl rfl (by first | exact rfl | kernel_rfl) (by kernel_rfl) (by first | assumption | exact is_ofInt _ _ | exact is_self) ?_; intro r n hr) | (refine wl_neg rfl rfl rfl (by first | assumption | exact is_ofInt _ _ | exact is_self) ?_; intro r hr))
  clear ht0 ht1 ht2
  have HR0 : Hid (Is .f32 r (invF (cl xs) [])) := by unfold Hid invF; rw [if_pos List.length_nil]; exact hr
  clear hr
  go_loopw [6, 7] (fun v i wr => ∃ (k : Nat) (ys : List Nat), 1 ≤ k ∧ k ≤ m ∧ i = .int .i64 k ∧ OwnF wr w.heap.size v ys ∧ Hid (cl ys = recP (invF (cl xs)) k) ∧ Ext w wr) (fun _ i _ => m - (intOf i).toNat)
  case atStart => exact ⟨1, [r], Nat.le_refl _, by omega, rfl, (by first | exact ownF_one _ _ (by repeat (first | assumption | exact Ext.refl _ | apply Ext.drewN | apply Ext.alloc | (refine Ext.setCell ?_ (by first | assumption | exact Nat.le_refl _) _))) _ | (exact (ownF_one _ _ (by repeat (first | assumption | exact Ext.refl _ | apply Ext.drewN | apply Ext.alloc | (refine Ext.setCell ?_ (by first | assumption | exact Nat.le_refl _) _))) _).drewN _)), rec_step (F := invF (cl xs)) (k := 0) (ys := []) rfl HR0.out, (by repeat (first | assumption | exact Ext.refl _ | apply Ext.drewN | apply Ext.alloc | (refine Ext.setCell ?_ (by first | assumption | exact Nat.le_refl _) _)))⟩
  case round =>
    clear HR0
    have hB0 := hcellZ
    clear hcellZ
    obtain ⟨k, ys, hk0, hk, rfl, hO, hcl, hE⟩ := hrel
    have hyl := rec_len hcl.out
    have h1 := Nat.le_of_eq hyl
    have h2 := Nat.le_of_eq hyl.symm
    have HY := Lib.hid hyl
    clear hyl
    by_cases hlt : k < m
    · obtain ⟨ao', cap', rfl, hfr⟩ := OwnF.fr hO
      obtain ⟨g, off2, rfl, _⟩ := hfr 0 (by omega)
      go_wp2
      obtain ⟨wo, rfl⟩ : ∃ wo : World, wo = wr := ⟨_, rfl⟩
      go_loopw [8, 9] (fun s i wr => ∃ (j n0 bb : Nat), j ≤ min k (xs.length - 1) ∧ i = .int .i64 ((j : Int) + 1) ∧ s = .float .f32 bb ∧ Is .f32 bb (sumP (invG (cl xs) (cl ys) k) j) ∧ wr = wo.drewN n0) (fun _ i _ => k + 1 - (intOf i).toNat)
      case atStart => exact ⟨0, 0, 0, Nat.zero_le _, by simp, rfl, rfl, rfl⟩
      case round =>
        obtain ⟨j, n0, bb, hj, rfl, rfl, hb, rfl⟩ := hrel
        by_cases hjk : j + 1 ≤ k
        · have e10 : (j : Int) + 1 ≤ (k : Int) := by omega
          by_cases hjx : j + 1 < xs.length
          · have e11 : (j : Int) + 1 < (xs.length : Int) := by omega
            have hcA := FR.cellW hc hjx
            have hcA1 := hcA wo hE
            have hcB := FR.cellW hfr (show k - (j + 1) < ys.length by omega) wo (Ext.refl _)
            have hA := is_el hjx
            have hB := is_el (show k - (j + 1) < ys.length by omega)
            clear hcA
            go_wp2
            have e1 : IntKind.i64.wrap ((k : Int) - ((j : Int) + 1)) = (k : Int) - ((j : Int) + 1) := IntWalk.i64_in _ (by omega)
            have e2 : (0 : Int) ≤ (k : Int) - ((j : Int) + 1) := by omega
            have e3 : ((k : Int) - ((j : Int) + 1)).toNat = k - (j + 1) := by omega
            have e4 : ((j : Int) + 1).toNat = j + 1 := by omega
            have e5 : (k : Int) - ((j : Int) + 1) < (ys.length : Int) := by omega
            have e6 : (0 : Int) ≤ (j : Int) + 1 := by omega
            refine wp_region_mix (fun _ => Drawn wo) (fun _ => false) (fun _ _ => True) (by kernel_rfl) (by kernel_rfl) (by kernel_rfl) (fun _ => drawn_more _) (fun _ => ⟨n0, rfl⟩) (fun n0 => ?_)
            repeat (first
          | (refine lx_nil ?_; intro nq)
          | (refine lx_skip rfl ?_; go_simp)
          | (refine lx_move rfl rfl rfl rfl ?_; go_simp)
          | (refine lx_assign rfl rfl rfl rfl ?_; go_simp)
          | (refine lx_bin rfl rfl rfl rfl rfl rfl (by first | assumption | exact is_ofInt _ _ | exact is_self) (by first | assumption | exact is_ofInt _ _ | exact is_self) ?_; intro r hr; go_simp)
          | (refine lx_cmp rfl rfl rfl rfl rfl rfl (by first | assumption | exact is_ofInt _ _ | exact is_self) (by first | assumption | exact is_ofInt _ _ | exact is_self) (by first | assumption | rfl) ?_; go_simp)
          | (refine lx_widen rfl rfl rfl rfl (by first | exact rfl | kernel_rfl) (by kernel_rfl) (by first | assumption | exact is_ofInt _ _ | exact is_self) ?_; intro r hr; go_simp)
          | (refine lx_valD rfl rfl (fun nn => by go_simp; rfl) ?_; go_simp))
            have HR := Lib.hid hr
            clear hr e1 e2 e3 e4 e5 e6 e10 e11
            go_wp2
            go_roundw
            case rel => exact ⟨j + 1, _, r, by omega, by first | (go_num; done) | (congr 1; omega), rfl, by rw [sumP_succ]; exact HR.out, rfl⟩
            case measure => simp [intOf]; omega
          · have e11 : ¬ (j : Int) + 1 < (xs.length : Int) := by omega
            have HJ : Hid (j = min k (xs.length - 1)) := by unfold Hid; omega
            have hcell := hE.cell hB0
            have HY2 : Hid (ys.length ≠ 0) := by unfold Hid; omega
            go_wp2_with (first | (at_builtin; refine wl_append1 _ rfl Try.underlying22 hi0 hz0 hs0 hb0 rfl rfl rfl (by repeat (first | assumption | apply OwnF.drewN | apply OwnF.alloc)) (by repeat (first | assumption | exact Ext.refl _ | apply Ext.drewN | apply Ext.alloc | (refine Ext.setCell ?_ (by first | assumption | exact Nat.le_refl _) _))) (by omega) (by first | exact cell_new _ _ _ | exact cell_newD _ _ _ _) ?_; intro v2 w2 hO2 hE2) | (refine wl_bin rfl rfl rfl rfl rfl (by first | assumption | exact is_ofInt _ _ | exact is_self) (by first | assumption | exact is_ofInt _ _ | exact is_self) ?_; intro r n hr) | (refine wl_cmp rfl rfl rfl rfl rfl (by first | assumption | exact is_ofInt _ _ | exact is_self) (by first | assumption | exact is_ofInt _ _ | exact is_self) (by first | assumption | rfl) ?_) | (refine wl_widen rfl rfl rfl (by first | exact rfl | kernel_rfl) (by kernel_rfl) (by first | assumption | exact is_ofInt _ _ | exact is_self) ?_; intro r n hr) | (refine wl_neg rfl rfl rfl (by first | assumption | exact is_ofInt _ _ | exact is_self) ?_; intro r hr))
            have HR : Hid (Is .f32 r (invF (cl xs) (cl ys))) := by
              unfold Hid invF invS
              rw [cl_length, cl_length, if_neg HY2.out, HY.out, ← HJ.out]; exact hr
            clear hr
            go_roundw
            case rel => exact ⟨k + 1, _, by omega, by omega, by go_num, (by repeat (first | assumption | apply OwnF.drewN | apply OwnF.alloc)), rec_step hcl.out HR.out, (by repeat (first | assumption | exact Ext.refl _ | apply Ext.drewN | apply Ext.alloc | (refine Ext.setCell ?_ (by first | assumption | exact Nat.le_refl _) _)))⟩
            case measure => simp [intOf]; omega
        · have e10 : ¬ (j : Int) + 1 ≤ (k : Int) := by omega
          have HJ : Hid (j = min k (xs.length - 1)) := by unfold Hid; omega
          have hcell := hE.cell hB0
          have HY2 : Hid (ys.length ≠ 0) := by unfold Hid; omega
          go_wp2_with (first | (at_builtin; refine wl_append1 _ rfl Try.underlying22 hi0 hz0 hs0 hb0 rfl rfl rfl (by repeat (first | assumption | apply OwnF.drewN | apply OwnF.alloc)) (by repeat (first | assumption | exact Ext.refl _ | apply Ext.drewN | apply Ext.alloc | (refine Ext.setCell ?_ (by first | assumption | exact Nat.le_refl _) _))) (by omega) (by first | exact cell_new _ _ _ | exact cell_newD _ _ _ _) ?_; intro v2 w2 hO2 hE2) | (refine wl_bin rfl rfl rfl rfl rfl (by first | assumption | exact is_ofInt _ _ | exact is_self) (by first | assumption | exact is_ofInt _ _ | exact is_self) ?_; intro r n hr) | (refine wl_cmp rfl rfl rfl rfl rfl (by first | assumption | exact is_ofInt _ _ | exact is_self) (by first | assumption | exact is_ofInt _ _ | exact is_self) (by first | assumption | rfl) ?_) | (refine wl_widen rfl rfl rfl (by first | exact rfl | kernel_rfl) (by kernel_rfl) (by first | assumption | exact is_ofInt _ _ | exact is_self) ?_; intro r n hr) | (refine wl_neg rfl rfl rfl (by first | assumption | exact is_ofInt _ _ | exact is_self) ?_; intro r hr))
          have HR : Hid (Is .f32 r (invF (cl xs) (cl ys))) := by
            unfold Hid invF invS
            rw [cl_length, cl_length, if_neg HY2.out, HY.out, ← HJ.out]; exact hr
          clear hr
          go_roundw
          case rel => exact ⟨k + 1, _, by omega, by omega, by go_num, (by repeat (first | assumption | apply OwnF.drewN | apply OwnF.alloc)), rec_step hcl.out HR.out, (by repeat (first | assumption | exact Ext.refl _ | apply Ext.drewN | apply Ext.alloc | (refine Ext.setCell ?_ (by first | assumption | exact Nat.le_refl _) _)))⟩
          case measure => simp [intOf]; omega
    · go_wp2
      go_ret2
      obtain rfl : m = k := by omega
      exact givesO_some hs.out hE hO hcl.out
set_option maxHeartbeats 4000000 in
theorem implInv_any (ao : Option Addr) (cap : Nat) (xs : List Nat) (n : Int) (w : World) (hc : FR w ao xs) (hl : xs.length ≤ 1048576) (_ : -9223372036854775808 ≤ n) (_ : n ≤ 9223372036854775807) :
    Calls Try.prog 26 #[.slice ao xs.length cap, .int .i64 n] w (GivesO (invO (cl xs) n) w) := by
  obtain ⟨i0, hi0, hz0, hs0, hb0⟩ := info_parts info32
  cases ht0 : inB (xs.length : Int) 1 128 with
  | false =>
    have hn : Hid (invO (cl xs) n = none) := by unfold Hid invO; rw [isTr_cl, ht0]; rfl
    go_enter Try.func26, Try.ntmps26
    go_wp2_with (first | (go_at_call 63; refine (within_any _ _ _ _ (by first | assumption | rfl) _).mono ?_; rintro _ _ ⟨rfl, rfl⟩) | (go_at_call 69; refine (l00In_any _ _ _ _ (by first | assumption | rfl) _).mono ?_; rintro _ _ ⟨rfl, rfl⟩) | (go_at_call 71; refine (isCount_any _ _ (by first | assumption | rfl) _).mono ?_; rintro _ _ ⟨rfl, rfl⟩) | (go_at_call 79; refine (isFilter_any _ _ (by first | assumption | rfl) _).mono ?_; rintro _ _ ⟨rfl, rfl⟩) | (go_at_call 70; refine (isTrace_any _ _ _ _ (by first | assumption | rfl) _).mono ?_; rintro _ _ ⟨rfl, rfl⟩) | (go_at_call 68; refine (l03Is_any _ _ _ _ (by first | assumption | rfl) (by omega) _).mono ?_; rintro _ _ ⟨rfl, rfl⟩) | (go_at_call 64; refine (length32_any _ _ _ _).mono ?_; rintro _ _ ⟨rfl, rfl⟩) | (go_at_call 108; refine (isFinite64_any _ _ _ (by assumption) (by first | assumption | rfl) _).mono ?_; rintro _ _ ⟨rfl, n, rfl⟩) | (go_at_call 105; refine (isFinite_any _ _ _ (by first | assumption | exact is_ofInt _ _ | exact is_self) (by first | assumption | rfl) _).mono ?_; rintro _ _ ⟨rfl, n, rfl⟩) | (go_at_call 101; refine (l01Finite_any _ _ _ (by first | assumption | exact is_ofInt _ _ | exact is_self) (by first | assumption | rfl) _).mono ?_; rintro _ _ ⟨rfl, n, rfl⟩) | (refine wl_bin rfl rfl rfl rfl rfl (by first | assumption | exact is_ofInt _ _ | exact is_self) (by first | assumption | exact is_ofInt _ _ | exact is_self) ?_; intro r n hr) | (refine wl_cmp rfl rfl rfl rfl rfl (by first | assumption | exact is_ofInt _ _ | exact is_self) (by first | assumption | exact is_ofInt _ _ | exact is_self) (by first | assumption | rfl) ?_) | (refine wl_widen rfl rfl rfl (by first | exact rfl | kernel_rfl) (by kernel_rfl) (by first | assumption | exact is_ofInt _ _ | exact is_self) ?_; intro r n hr) | (refine wl_neg rfl rfl rfl (by first | assumption | exact is_ofInt _ _ | exact is_self) ?_; intro r hr))
    go_ret2
    exact givesO_none hn.out (Ext.refl _)
  | true =>
  have hI0 := inB_yes ht0
  obtain ⟨b, off, rfl, hcell0⟩ := hc 0 (by omega)
  have hcellZ : w.cell? ⟨b, off, none⟩ = some (.float .f32 (el xs 0)) := hcell0
  clear hcell0
  have hA0 := is_el (show 0 < xs.length by omega)
  have hp0 : 0 < xs.length := by omega
  cases ht1 : fcmp .eql .f32 (el (cl xs) 0) (canon .f32 0) with
  | true =>
    have hn : Hid (invO (cl xs) n = none) := by unfold Hid invO; rw [isTr_cl, ht0, show (0 : Nat) = canon .f32 0 from rfl, show el (cl xs) (canon .f32 0) = el (cl xs) 0 from rfl, ht1]; rfl
    go_enter Try.func26, Try.ntmps26
    go_wp2_with (first | (go_at_call 63; refine (within_any _ _ _ _ (by first | assumption | rfl) _).mono ?_; rintro _ _ ⟨rfl, rfl⟩) | (go_at_call 69; refine (l00In_any _ _ _ _ (by first | assumption | rfl) _).mono ?_; rintro _ _ ⟨rfl, rfl⟩) | (go_at_call 71; refine (isCount_any _ _ (by first | assumption | rfl) _).mono ?_; rintro _ _ ⟨rfl, rfl⟩) | (go_at_call 79; refine (isFilter_any _ _ (by first | assumption | rfl) _).mono ?_; rintro _ _ ⟨rfl, rfl⟩) | (go_at_call 70; refine (isTrace_any _ _ _ _ (by first | assumption | rfl) _).mono ?_; rintro _ _ ⟨rfl, rfl⟩) | (go_at_call 68; refine (l03Is_any _ _ _ _ (by first | assumption | rfl) (by omega) _).mono ?_; rintro _ _ ⟨rfl, rfl⟩) | (go_at_call 64; refine (length32_any _ _ _ _).mono ?_; rintro _ _ ⟨rfl, rfl⟩) | (go_at_call 108; refine (isFinite64_any _ _ _ (by assumption) (by first | assumption | rfl) _).mono ?_; rintro _ _ ⟨rfl, n, rfl⟩) | (go_at_call 105; refine (isFinite_any _ _ _ (by first | assumption | exact is_ofInt _ _ | exact is_self) (by first | assumption | rfl) _).mono ?_; rintro _ _ ⟨rfl, n, rfl⟩) | (go_at_call 101; refine (l01Finite_any _ _ _ (by first | assumption | exact is_ofInt _ _ | exact is_self) (by first | assumption | rfl) _).mono ?_; rintro _ _ ⟨rfl, n, rfl⟩) | (refine wl_bin rfl rfl rfl rfl rfl (by first | assumption | exact is_ofInt _ _ | exact is_self) (by first | assumption | exact is_ofInt _ _ | exact is_self) ?_; intro r n hr) | (refine wl_cmp rfl rfl rfl rfl rfl (by first | assumption | exact is_ofInt _ _ | exact is_self) (by first | assumption | exact is_ofInt _ _ | exact is_self) (by first | assumption | rfl) ?_) | (refine wl_widen rfl rfl rfl (by first | exact rfl | kernel_rfl) (by kernel_rfl) (by first | assumption | exact is_ofInt _ _ | exact is_self) ?_; intro r n hr) | (refine wl_neg rfl rfl rfl (by first | assumption | exact is_ofInt _ _ | exact is_self) ?_; intro r hr))
    go_ret2
    exact givesO_none hn.out (Ext.refl _)
  | false =>
  cases ht2 : inB n 1 128 with
  | false =>
    have hn : Hid (invO (cl xs) n = none) := by unfold Hid invO; rw [isTr_cl, ht0, ht2]; simp
    go_enter Try.func26, Try.ntmps26
    go_wp2_with (first | (go_at_call 63; refine (within_any _ _ _ _ (by first | assumption | rfl) _).mono ?_; rintro _ _ ⟨rfl, rfl⟩) | (go_at_call 69; refine (l00In_any _ _ _ _ (by first | assumption | rfl) _).mono ?_; rintro _ _ ⟨rfl, rfl⟩) | (go_at_call 71; refine (isCount_any _ _ (by first | assumption | rfl) _).mono ?_; rintro _ _ ⟨rfl, rfl⟩) | (go_at_call 79; refine (isFilter_any _ _ (by first | assumption | rfl) _).mono ?_; rintro _ _ ⟨rfl, rfl⟩) | (go_at_call 70; refine (isTrace_any _ _ _ _ (by first | assumption | rfl) _).mono ?_; rintro _ _ ⟨rfl, rfl⟩) | (go_at_call 68; refine (l03Is_any _ _ _ _ (by first | assumption | rfl) (by omega) _).mono ?_; rintro _ _ ⟨rfl, rfl⟩) | (go_at_call 64; refine (length32_any _ _ _ _).mono ?_; rintro _ _ ⟨rfl, rfl⟩) | (go_at_call 108; refine (isFinite64_any _ _ _ (by assumption) (by first | assumption | rfl) _).mono ?_; rintro _ _ ⟨rfl, n, rfl⟩) | (go_at_call 105; refine (isFinite_any _ _ _ (by first | assumption | exact is_ofInt _ _ | exact is_self) (by first | assumption | rfl) _).mono ?_; rintro _ _ ⟨rfl, n, rfl⟩) | (go_at_call 101; refine (l01Finite_any _ _ _ (by first | assumption | exact is_ofInt _ _ | exact is_self) (by first | assumption | rfl) _).mono ?_; rintro _ _ ⟨rfl, n, rfl⟩) | (refine wl_bin rfl rfl rfl rfl rfl (by first | assumption | exact is_ofInt _ _ | exact is_self) (by first | assumption | exact is_ofInt _ _ | exact is_self) ?_; intro r n hr) | (refine wl_cmp rfl rfl rfl rfl rfl (by first | assumption | exact is_ofInt _ _ | exact is_self) (by first | assumption | exact is_ofInt _ _ | exact is_self) (by first | assumption | rfl) ?_) | (refine wl_widen rfl rfl rfl (by first | exact rfl | kernel_rfl) (by kernel_rfl) (by first | assumption | exact is_ofInt _ _ | exact is_self) ?_; intro r n hr) | (refine wl_neg rfl rfl rfl (by first | assumption | exact is_ofInt _ _ | exact is_self) ?_; intro r hr))
    go_ret2
    exact givesO_none hn.out (Ext.refl _)
  | true =>
  have hI2 := inB_yes ht2
  obtain ⟨m, rfl⟩ := Int.eq_ofNat_of_zero_le (show 0 ≤ n by omega)
  have hs : Hid (invO (cl xs) m = some (recP (invF (cl xs)) m)) := by unfold Hid invO; rw [isTr_cl, ht0, show (0 : Nat) = canon .f32 0 from rfl, show el (cl xs) (canon .f32 0) = el (cl xs) 0 from rfl, ht1, ht2]; rfl
  go_enter Try.func26, Try.ntmps26
  go_wp2_with (first | (go_at_call 63; refine (within_any _ _ _ _ (by first | assumption | rfl) _).mono ?_; rintro _ _ ⟨rfl, rfl⟩) | (go_at_call 69; refine (l00In_any _ _ _ _ (by first | assumption | rfl) _).mono ?_; rintro _ _ ⟨rfl, rfl⟩) | (go_at_call 71; refine (isCount_any _ _ (by first | assumption | rfl) _).mono ?_; rintro _ _ ⟨rfl, rfl⟩) | (go_at_call 79; refine (isFilter_any _ _ (by first | assumption | rfl) _).mono ?_; rintro _ _ ⟨rfl, rfl⟩) | (go_at_call 70; refine (isTrace_any _ _ _ _ (by first | assumption | rfl) _).mono ?_; rintro _ _ ⟨rfl, rfl⟩) | (go_at_call 68; refine (l03Is_any _ _ _ _ (by first | assumption | rfl) (by omega) _).mono ?_; rintro _ _ ⟨rfl, rfl⟩) | (go_at_call 64; refine (length32_any _ _ _ _).mono ?_; rintro _ _ ⟨rfl, rfl⟩) | (go_at_call 108; refine (isFinite64_any _ _ _ (by assumption) (by first | assumption | rfl) _).mono ?_; rintro _ _ ⟨rfl, n, rfl⟩) | (go_at_call 105; refine (isFinite_any _ _ _ (by first | assumption | exact is_ofInt _ _ | exact is_self) (by first | assumption | rfl) _).mono ?_; rintro _ _ ⟨rfl, n, rfl⟩) | (go_at_call 101; refine (l01Finite_any _ _ _ (by first | assumption | exact is_ofInt _ _ | exact is_self) (by first | assumption | rfl) _).mono ?_; rintro _ _ ⟨rfl, n, rfl⟩) | (refine wl_bin rfl rfl rfl rfl rfl (by first | assumption | exact is_ofInt _ _ | exact is_self) (by first | assumption | exact is_ofInt _ _ | exact is_self) ?_; intro r n hr) | (refine wl_cmp rfl rfl rfl rfl rfl (by first | assumption | exact is_ofInt _ _ | exact is_self) (by first | assumption | exact is_ofInt _ _ | exact is_self) (by first | assumption | rfl) ?_) | (refine wl_widen rfl rfl rfl (by first | exact rfl | kernel_rfl) (by kernel_rfl) (by first | assumption | exact is_ofInt _ _ | exact is_self) ?_; intro r n hr) | (refine wl_neg rfl rfl rfl (by first | assumption | exact is_ofInt _ _ | exact is_self) ?_; intro r hr))
  clear ht0 ht1 ht2
  have HR0 : Hid (Is .f32 r (invF (cl xs) [])) := by unfold Hid invF; rw [if_pos List.length_nil]; exact hr
  clear hr
  go_loopw [6, 7] (fun v i wr => ∃ (k : Nat) (ys : List Nat), 1 ≤ k ∧ k ≤ m ∧ i = .int .i64 k ∧ OwnF wr w.heap.size v ys ∧ Hid (cl ys = recP (invF (cl xs)) k) ∧ Ext w wr) (fun _ i _ => m - (intOf i).toNat)
  case atStart => exact ⟨1, [r], Nat.le_refl _, by omega, rfl, (by first | exact ownF_one _ _ (by repeat (first | assumption | exact Ext.refl _ | apply Ext.drewN | apply Ext.alloc | (refine Ext.setCell ?_ (by first | assumption | exact Nat.le_refl _) _))) _ | (exact (ownF_one _ _ (by repeat (first | assumption | exact Ext.refl _ | apply Ext.drewN | apply Ext.alloc | (refine Ext.setCell ?_ (by first | assumption | exact Nat.le_refl _) _))) _).drewN _)), rec_step (F := invF (cl xs)) (k := 0) (ys := []) rfl HR0.out, (by repeat (first | assumption | exact Ext.refl _ | apply Ext.drewN | apply Ext.alloc | (refine Ext.setCell ?_ (by first | assumption | exact Nat.le_refl _) _)))⟩
  case round =>
    clear HR0
    have hB0 := hcellZ
    clear hcellZ
    obtain ⟨k, ys, hk0, hk, rfl, hO, hcl, hE⟩ := hrel
    have hyl := rec_len hcl.out
    have h1 := Nat.le_of_eq hyl
    have h2 := Nat.le_of_eq hyl.symm
    have HY := Lib.hid hyl
    clear hyl
    by_cases hlt : k < m
    · obtain ⟨ao', cap', rfl, hfr⟩ := OwnF.fr hO
      obtain ⟨g, off2, rfl, _⟩ := hfr 0 (by omega)
      go_wp2
      obtain ⟨wo, rfl⟩ : ∃ wo : World, wo = wr := ⟨_, rfl⟩
      go_loopw [8, 9] (fun s i wr => ∃ (j n0 bb : Nat), j ≤ min k (xs.length - 1) ∧ i = .int .i64 ((j : Int) + 1) ∧ s = .float .f32 bb ∧ Is .f32 bb (sumP (invG (cl xs) (cl ys) k) j) ∧ wr = wo.drewN n0) (fun _ i _ => k + 1 - (intOf i).toNat)
      case atStart => exact ⟨0, 0, 0, Nat.zero_le _, by simp, rfl, rfl, rfl⟩
      case round =>
        obtain ⟨j, n0, bb, hj, rfl, rfl, hb, rfl⟩ := hrel
        by_cases hjk : j + 1 ≤ k
        · have e10 : (j : Int) + 1 ≤ (k : Int) := by omega
          by_cases hjx : j + 1 < xs.length
          · have e11 : (j : Int) + 1 < (xs.length : Int) := by omega
            have hcA := FR.cellW hc hjx
            have hcA1 := hcA wo hE
            have hcB := FR.cellW hfr (show k - (j + 1) < ys.length by omega) wo (Ext.refl _)
            have hA := is_el hjx
            have hB := is_el (show k - (j + 1) < ys.length by omega)
            clear hcA
            go_wp2
            have e1 : IntKind.i64.wrap ((k : Int) - ((j : Int) + 1)) = (k : Int) - ((j : Int) + 1) := IntWalk.i64_in _ (by omega)
            have e2 : (0 : Int) ≤ (k : Int) - ((j : Int) + 1) := by omega
            have e3 : ((k : Int) - ((j : Int) + 1)).toNat = k - (j + 1) := by omega
            have e4 : ((j : Int) + 1).toNat = j + 1 := by omega
            have e5 : (k : Int) - ((j : Int) + 1) < (ys.length : Int) := by omega
            have e6 : (0 : Int) ≤ (j : Int) + 1 := by omega
            refine wp_region_mix (fun _ => Drawn wo) (fun _ => false) (fun _ _ => True) (by kernel_rfl) (by kernel_rfl) (by kernel_rfl) (fun _ => drawn_more _) (fun _ => ⟨n0, rfl⟩) (fun n0 => ?_)
            repeat (first
          | (refine lx_nil ?_; intro nq)
          | (refine lx_skip rfl ?_; go_simp)
          | (refine lx_move rfl rfl rfl rfl ?_; go_simp)
          | (refine lx_assign rfl rfl rfl rfl ?_; go_simp)
          | (refine lx_bin rfl rfl rfl rfl rfl rfl (by first | assumption | exact is_ofInt _ _ | exact is_self) (by first | assumption | exact is_ofInt _ _ | exact is_self) ?_; intro r hr; go_simp)
          | (refine lx_cmp rfl rfl rfl rfl rfl rfl (by first | assumption | exact is_ofInt _ _ | exact is_self) (by first | assumption | exact is_ofInt _ _ | exact is_self) (by first | assumption | rfl) ?_; go_simp)
          | (refine lx_widen rfl rfl rfl rfl (by first | exact rfl | kernel_rfl) (by kernel_rfl) (by first | assumption | exact is_ofInt _ _ | exact is_self) ?_; intro r hr; go_simp)
          | (refine lx_valD rfl rfl (fun nn => by go_simp; rfl) ?_; go_simp))
            have HR := Lib.hid hr
            clear hr e1 e2 e3 e4 e5 e6 e10 e11
            go_wp2
            go_roundw
            case rel => exact ⟨j + 1, _, r, by omega, by first | (go_num; done) | (congr 1; omega), rfl, by rw [sumP_succ]; exact HR.out, rfl⟩
            case measure => simp [intOf]; omega
          · have e11 : ¬ (j : Int) + 1 < (xs.length : Int) := by omega
            have HJ : Hid (j = min k (xs.length - 1)) := by unfold Hid; omega
            have hcell := hE.cell hB0
            have HY2 : Hid (ys.length ≠ 0) := by unfold Hid; omega
            go_wp2_with (first | (at_builtin; refine wl_append1 _ rfl Try.underlying22 hi0 hz0 hs0 hb0 rfl rfl rfl (by repeat (first | assumption | apply OwnF.drewN | apply OwnF.alloc)) (by repeat (first | assumption | exact Ext.refl _ | apply Ext.drewN | apply Ext.alloc | (refine Ext.setCell ?_ (by first | assumption | exact Nat.le_refl _) _))) (by omega) (by first | exact cell_new _ _ _ | exact cell_newD _ _ _ _) ?_; intro v2 w2 hO2 hE2) | (refine wl_bin rfl rfl rfl rfl rfl (by first | assumption | exact is_ofInt _ _ | exact is_self) (by first | assumption | exact is_ofInt _ _ | exact is_self) ?_; intro r n hr) | (refine wl_cmp rfl rfl rfl rfl rfl (by first | assumption | exact is_ofInt _ _ | exact is_self) (by first | assumption | exact is_ofInt _ _ | exact is_self) (by first | assumption | rfl) ?_) | (refine wl_widen rfl rfl rfl (by first | exact rfl | kernel_rfl) (by kernel_rfl) (by first | assumption | exact is_ofInt _ _ | exact is_self) ?_; intro r n hr) | (refine wl_neg rfl rfl rfl (by first | assumption | exact is_ofInt _ _ | exact is_self) ?_; intro r hr))
            have HR : Hid (Is .f32 r (invF (cl xs) (cl ys))) := by
              unfold Hid invF invS
              rw [cl_length, cl_length, if_neg HY2.out, HY.out, ← HJ.out]; exact hr
            clear hr
            go_roundw
            case rel => exact ⟨k + 1, _, by omega, by omega, by go_num, (by repeat (first | assumption | apply OwnF.drewN | apply OwnF.alloc)), rec_step hcl.out HR.out, (by repeat (first | assumption | exact Ext.refl _ | apply Ext.drewN | apply Ext.alloc | (refine Ext.setCell ?_ (by first | assumption | exact Nat.le_refl _) _)))⟩
            case measure => simp [intOf]; omega
        · have e10 : ¬ (j : Int) + 1 ≤ (k : Int) := by omega
          have HJ : Hid (j = min k (xs.length - 1)) := by unfold Hid; omega
          have hcell := hE.cell hB0
          have HY2 : Hid (ys.length ≠ 0) := by unfold Hid; omega
          go_wp2_with (first | (at_builtin; refine wl_append1 _ rfl Try.underlying22 hi0 hz0 hs0 hb0 rfl rfl rfl (by repeat (first | assumption | apply OwnF.drewN | apply OwnF.alloc)) (by repeat (first | assumption | exact Ext.refl _ | apply Ext.drewN | apply Ext.alloc | (refine Ext.setCell ?_ (by first | assumption | exact Nat.le_refl _) _))) (by omega) (by first | exact cell_new _ _ _ | exact cell_newD _ _ _ _) ?_; intro v2 w2 hO2 hE2) | (refine wl_bin rfl rfl rfl rfl rfl (by first | assumption | exact is_ofInt _ _ | exact is_self) (by first | assumption | exact is_ofInt _ _ | exact is_self) ?_; intro r n hr) | (refine wl_cmp rfl rfl rfl rfl rfl (by first | assumption | exact is_ofInt _ _ | exact is_self) (by first | assumption | exact is_ofInt _ _ | exact is_self) (by first | assumption | rfl) ?_) | (refine wl_widen rfl rfl rfl (by first | exact rfl | kernel_rfl) (by kernel_rfl) (by first | assumption | exact is_ofInt _ _ | exact is_self) ?_; intro r n hr) | (refine wl_neg rfl rfl rfl (by first | assumption | exact is_ofInt _ _ | exact is_self) ?_; intro r hr))
          have HR : Hid (Is .f32 r (invF (cl xs) (cl ys))) := by
            unfold Hid invF invS
            rw [cl_length, cl_length, if_neg HY2.out, HY.out, ← HJ.out]; exact hr
          clear hr
          go_roundw
          case rel => exact ⟨k + 1, _, by omega, by omega, by go_num, (by repeat (first | assumption | apply OwnF.drewN | apply OwnF.alloc)), rec_step hcl.out HR.out, (by repeat (first | assumption | exact Ext.refl _ | apply Ext.drewN | apply Ext.alloc | (refine Ext.setCell ?_ (by first | assumption | exact Nat.le_refl _) _)))⟩
          case measure => simp [intOf]; omega
    · go_wp2
      go_ret2
      obtain rfl : m = k := by omega
      exact givesO_some hs.out hE hO hcl.out
end Go.Proofs.Ytkodneoncancdaa
