/- LessTraces: the reference's and the program's. -/
import Derived.Test.YtddoedkopofinaaFAdd
namespace Go.Proofs.Ytddoedkopofinaa
open Go.RowKit
set_option maxHeartbeats 1000000 in
theorem lessTr_any (ao : Option Addr) (cap : Nat) (xs : List Nat) (bo : Option Addr) (cb : Nat) (zs : List Nat) (w : World) (hc : FR w ao xs) (hl : xs.length ≤ 1048576) (hd : FR w bo zs) (h4 : xs.length ≤ zs.length) (h5 : zs.length ≤ xs.length) (h1 : 1 ≤ xs.length) :
    Calls Try.prog 100 #[.slice ao xs.length cap, .slice bo zs.length cb] w (GivesS (tabP (zipAt .sub (cl xs) (cl zs)) xs.length) w) := by
  obtain ⟨b, off, rfl, _⟩ := hd 0 (by omega)
  go_enter Try.func100, Try.ntmps100
  go_wp2_with (first | (go_at_call 76; refine (clone_any _ _ _ _ hc hl).mono ?_; rintro _ w1 ⟨v, rfl, hE1, hO1⟩; obtain ⟨a1, c1, rfl, _⟩ := OwnF.fr hO1; obtain ⟨g, rfl, hg1, hg2, _⟩ := OwnF.at hO1 (k := 0) (by omega)))
  go_loopw [12] (fun i wr => ∃ (k : Nat) (ys : List Nat), k ≤ xs.length ∧ i = .int .i64 k ∧ OwnF wr w.heap.size (.slice (some ⟨g, 0, none⟩) (xs.length) c1) ys ∧ Hid (ys.length = xs.length) ∧ Hid (cl ys = tabP (zipAt .sub (cl xs) (cl zs)) k ++ List.drop k (cl xs)) ∧ Ext w wr) (fun i _ => xs.length - (intOf i).toNat)
  case atStart => exact ⟨0, _, Nat.zero_le _, rfl, hO1, rfl, set_start _ _ rfl, hE1⟩
  case round =>
    obtain ⟨k, ys, hk, rfl, hO, hyl, hcl, hE⟩ := hrel
    clear hO1 hE1
    by_cases hlt : k < xs.length
    · have hlt2 : k < zs.length := by omega
      have hcell := FR.cellW hd hlt2 wr hE
      have hB := is_el hlt2
      have hA := set_read hcl.out (by rw [cl_length]; exact hlt)
      obtain ⟨hcur, hfz⟩ := OwnF.at' hO (k := k) (by rw [hyl.out]; exact hlt)
      go_wp2_with (first | (refine wl_bin rfl rfl rfl rfl rfl (by first | assumption | exact is_ofInt _ _ | exact is_self) (by first | assumption | exact is_ofInt _ _ | exact is_self) ?_; intro r n hr) | (refine wl_cmp rfl rfl rfl rfl rfl (by first | assumption | exact is_ofInt _ _ | exact is_self) (by first | assumption | exact is_ofInt _ _ | exact is_self) (by first | assumption | rfl) ?_) | (refine wl_widen rfl rfl rfl (by first | exact rfl | kernel_rfl) (by kernel_rfl) (by first | assumption | exact is_ofInt _ _ | exact is_self) ?_; intro r n hr) | (refine wl_neg rfl rfl rfl (by first | assumption | exact is_ofInt _ _ | exact is_self) ?_; intro r hr))
      have HR := Lib.hid hr
      clear hr
      have hst := hO.stored k r
      have HO := Lib.hid hst.1
      clear hst
      go_roundw
      case rel => exact ⟨k + 1, _, by omega, by go_num, HO.out, by unfold Hid; rw [List.length_set]; exact hyl.out, set_step hcl.out (by simp [cl_length]; omega) (by exact HR.out), (by repeat (first | assumption | exact Ext.refl _ | apply Ext.drewN | apply Ext.alloc | (refine Ext.setCell ?_ (by first | assumption | exact Nat.le_refl _) _)))⟩
      case measure => simp [intOf]; omega
    · have hlt2 : ¬ k < zs.length := by omega
      go_wp2
      go_ret
      obtain rfl : xs.length = k := by omega
      exact ⟨_, _, rfl, hE, hO, set_done hcl.out (by rw [cl_length]; exact Nat.le_refl _)⟩
set_option maxHeartbeats 1000000 in
theorem l03Less_any (ao : Option Addr) (cap : Nat) (xs : List Nat) (bo : Option Addr) (cb : Nat) (zs : List Nat) (w : World) (hc : FR w ao xs) (hl : xs.length ≤ 1048576) (hd : FR w bo zs) (h4 : xs.length ≤ zs.length) (h1 : 1 ≤ xs.length) :
    Calls Try.prog 99 #[.slice ao xs.length cap, .slice bo zs.length cb] w (GivesS (tabP (zipAt .sub (cl xs) (cl zs)) xs.length) w) := by
  obtain ⟨i0, hi0, hz0, hs0, hb0⟩ := info_parts info32
  obtain ⟨b, off, rfl, _⟩ := hc 0 (by omega)
  obtain ⟨b', off', rfl, _⟩ := hd 0 (by omega)
  go_enter Try.func99, Try.ntmps99
  go_wp2
  go_loopw [5, 10] (fun v i wr => ∃ (k : Nat) (ys : List Nat), k ≤ xs.length ∧ i = .int .i64 k ∧ OwnF wr w.heap.size v ys ∧ ys.length ≤ k ∧ Hid (cl ys = tabP (zipAt .sub (cl xs) (cl zs)) k) ∧ Ext w wr) (fun _ i _ => xs.length - (intOf i).toNat)
  case atStart => exact ⟨0, [], Nat.zero_le _, rfl, (by first | exact OwnF.nil _ _ | exact ownF_empty _ _ (by repeat (first | assumption | exact Ext.refl _ | apply Ext.drewN | apply Ext.alloc | (refine Ext.setCell ?_ (by first | assumption | exact Nat.le_refl _) _)))), Nat.le_refl _, rfl, (by repeat (first | assumption | exact Ext.refl _ | apply Ext.drewN | apply Ext.alloc | (refine Ext.setCell ?_ (by first | assumption | exact Nat.le_refl _) _)))⟩
  case round =>
    obtain ⟨k, ys, hk, rfl, hO, hyl, hcl, hE⟩ := hrel
    by_cases hlt : k < xs.length
    · have hlt2 : k < zs.length := by omega
      have hcA := FR.cellW hc hlt
      have hcB := FR.cellW hd hlt2
      have hA := is_el hlt
      have hB := is_el hlt2
      go_wp2
      refine wp_region_mix (fun _ => Ext w) (fun i => [10, 11].contains i) (fun _ _ => True) (by kernel_rfl) (by kernel_rfl) (by kernel_rfl) (fun _ _ _ h => h.drewN _) (fun _ => hE) (fun n0 => ?_)
      repeat (first
          | (refine lx_nil ?_; intro nq)
          | (refine lx_skip rfl ?_; go_simp)
          | (refine lx_move rfl rfl rfl rfl ?_; go_simp)
          | (refine lx_assign rfl rfl rfl rfl ?_; go_simp)
          | (refine lx_bin rfl rfl rfl rfl rfl rfl (by first | assumption | exact is_ofInt _ _ | exact is_self) (by first | assumption | exact is_ofInt _ _ | exact is_self) ?_; intro r hr; go_simp)
          | (refine lx_cmp rfl rfl rfl rfl rfl rfl (by first | assumption | exact is_ofInt _ _ | exact is_self) (by first | assumption | exact is_ofInt _ _ | exact is_self) (by first | assumption | rfl) ?_; go_simp)
          | (refine lx_widen rfl rfl rfl rfl (by first | exact rfl | kernel_rfl) (by kernel_rfl) (by first | assumption | exact is_ofInt _ _ | exact is_self) ?_; intro r hr; go_simp)
          | (refine lx_val rfl rfl (fun w' hw' => by go_simp; rfl) ?_; go_simp))
      refine lx_effV rfl rfl (fun n => by go_simp; exact ⟨rfl, rfl⟩) (fun n _ _ _ => (by repeat (first | assumption | exact Ext.refl _ | apply Ext.drewN | apply Ext.alloc | (refine Ext.setCell ?_ (by first | assumption | exact Nat.le_refl _) _)))) (fun n1 => ?_)
      go_simp
      refine lx_append1 rfl rfl Try.underlying22 hi0 hz0 hs0 hb0 rfl rfl rfl (by repeat (first | assumption | apply OwnF.drewN | apply OwnF.alloc)) (by repeat (first | assumption | exact Ext.refl _ | apply Ext.drewN | apply Ext.alloc | (refine Ext.setCell ?_ (by first | assumption | exact Nat.le_refl _) _))) (by omega) (by first | exact cell_new _ _ _ | exact cell_newD _ _ _ _) ?_
      intro v2 w2 hO2 hE2
      have HR := Lib.hid hr
      clear hr
      go_simp
      repeat (first
          | (refine lx_nil ?_; intro nq)
          | (refine lx_skip rfl ?_; go_simp)
          | (refine lx_move rfl rfl rfl rfl ?_; go_simp)
          | (refine lx_assign rfl rfl rfl rfl ?_; go_simp)
          | (refine lx_bin rfl rfl rfl rfl rfl rfl (by first | assumption | exact is_ofInt _ _ | exact is_self) (by first | assumption | exact is_ofInt _ _ | exact is_self) ?_; intro r hr; go_simp)
          | (refine lx_cmp rfl rfl rfl rfl rfl rfl (by first | assumption | exact is_ofInt _ _ | exact is_self) (by first | assumption | exact is_ofInt _ _ | exact is_self) (by first | assumption | rfl) ?_; go_simp)
          | (refine lx_widen rfl rfl rfl rfl (by first | exact rfl | kernel_rfl) (by kernel_rfl) (by first | assumption | exact is_ofInt _ _ | exact is_self) ?_; intro r hr; go_simp)
          | (refine lx_val rfl rfl (fun w' hw' => by go_simp; rfl) ?_; go_simp))
      go_wp2
      go_roundw
      case rel => exact ⟨k + 1, _, by omega, by go_num, (by repeat (first | assumption | apply OwnF.drewN | apply OwnF.alloc)), by simp; omega, app_step hcl.out (by exact HR.out), (by repeat (first | assumption | exact Ext.refl _ | apply Ext.drewN | apply Ext.alloc | (refine Ext.setCell ?_ (by first | assumption | exact Nat.le_refl _) _)))⟩
      case measure => simp [intOf]; omega
    · go_wp2
      go_ret
      obtain rfl : xs.length = k := by omega
      exact ⟨_, _, rfl, hE, hO, hcl.out⟩
theorem less_any (ao : Option Addr) (cap : Nat) (xs : List Nat) (bo : Option Addr) (cb : Nat) (zs : List Nat) (w : World) (hc : FR w ao xs) (hl : xs.length ≤ 1048576) (hd : FR w bo zs) (_ : zs.length ≤ 1048576) :
    Calls Try.prog 55 #[.slice ao xs.length cap, .slice bo zs.length cb] w (GivesO (zipO .sub (cl xs) (cl zs)) w) := by
  cases ht : evenB xs.length zs.length with
  | false =>
    have hn : Hid (zipO .sub (cl xs) (cl zs) = none) := by unfold zipO Hid; rw [cl_length, cl_length, ht]; rfl
    go_enter Try.func55, Try.ntmps55
    go_wp2_with (first | (go_at_call 97; refine (within_any _ _ _ _ (by first | assumption | rfl) _).mono ?_; rintro _ _ ⟨rfl, rfl⟩) | (go_at_call 69; refine (l00In_any _ _ _ _ (by first | assumption | rfl) _).mono ?_; rintro _ _ ⟨rfl, rfl⟩) | (go_at_call 71; refine (isCount_any _ _ (by first | assumption | rfl) _).mono ?_; rintro _ _ ⟨rfl, rfl⟩) | (go_at_call 82; refine (isFilter_any _ _ (by first | assumption | rfl) _).mono ?_; rintro _ _ ⟨rfl, rfl⟩) | (go_at_call 70; refine (isTrace_any _ _ _ _ (by first | assumption | rfl) _).mono ?_; rintro _ _ ⟨rfl, rfl⟩) | (go_at_call 68; refine (l03Is_any _ _ _ _ (by first | assumption | rfl) (by omega) _).mono ?_; rintro _ _ ⟨rfl, rfl⟩) | (go_at_call 90; refine (length32_any _ _ _ _).mono ?_; rintro _ _ ⟨rfl, rfl⟩) | (go_at_call 120; refine (isFinite64_any _ _ _ (by assumption) (by first | assumption | rfl) _).mono ?_; rintro _ _ ⟨rfl, n, rfl⟩) | (go_at_call 117; refine (isFinite_any _ _ _ (by first | assumption | exact is_ofInt _ _ | exact is_self) (by first | assumption | rfl) _).mono ?_; rintro _ _ ⟨rfl, n, rfl⟩) | (go_at_call 112; refine (l01Finite_any _ _ _ (by first | assumption | exact is_ofInt _ _ | exact is_self) (by first | assumption | rfl) _).mono ?_; rintro _ _ ⟨rfl, n, rfl⟩) | (go_at_call 75; refine (areEven_any _ _ _ _ _ _ _ (by assumption) _).mono ?_; rintro _ _ ⟨rfl, rfl⟩) | (go_at_call 74; refine (l03Two_any _ _ _ _ _ _ _ (by assumption) (by omega) _).mono ?_; rintro _ _ ⟨rfl, rfl⟩) | (refine wl_bin rfl rfl rfl rfl rfl (by first | assumption | exact is_ofInt _ _ | exact is_self) (by first | assumption | exact is_ofInt _ _ | exact is_self) ?_; intro r n hr) | (refine wl_cmp rfl rfl rfl rfl rfl (by first | assumption | exact is_ofInt _ _ | exact is_self) (by first | assumption | exact is_ofInt _ _ | exact is_self) (by first | assumption | rfl) ?_) | (refine wl_widen rfl rfl rfl (by first | exact rfl | kernel_rfl) (by kernel_rfl) (by first | assumption | exact is_ofInt _ _ | exact is_self) ?_; intro r n hr) | (refine wl_neg rfl rfl rfl (by first | assumption | exact is_ofInt _ _ | exact is_self) ?_; intro r hr))
    go_ret2
    exact givesO_none hn.out (Ext.refl _)
  | true =>
    obtain ⟨h1, h2, h3⟩ := evenB_yes ht
    have h4 := Nat.le_of_eq h3
    have h5 := Nat.le_of_eq h3.symm
    clear h3
    have hs : Hid (zipO .sub (cl xs) (cl zs) = some (tabP (zipAt .sub (cl xs) (cl zs)) xs.length)) := by unfold zipO Hid; rw [cl_length, cl_length, ht]; rfl
    go_enter Try.func55, Try.ntmps55
    go_wp2_with (first | (go_at_call 100; refine (lessTr_any _ _ _ _ _ _ _ hc hl hd h4 h5 h1).mono ?_; rintro _ w1 ⟨v, ys, rfl, hE, hO, hcl⟩; (have HCL := Lib.hid hcl; clear hcl)) | (go_at_call 97; refine (within_any _ _ _ _ (by first | assumption | rfl) _).mono ?_; rintro _ _ ⟨rfl, rfl⟩) | (go_at_call 69; refine (l00In_any _ _ _ _ (by first | assumption | rfl) _).mono ?_; rintro _ _ ⟨rfl, rfl⟩) | (go_at_call 71; refine (isCount_any _ _ (by first | assumption | rfl) _).mono ?_; rintro _ _ ⟨rfl, rfl⟩) | (go_at_call 82; refine (isFilter_any _ _ (by first | assumption | rfl) _).mono ?_; rintro _ _ ⟨rfl, rfl⟩) | (go_at_call 70; refine (isTrace_any _ _ _ _ (by first | assumption | rfl) _).mono ?_; rintro _ _ ⟨rfl, rfl⟩) | (go_at_call 68; refine (l03Is_any _ _ _ _ (by first | assumption | rfl) (by omega) _).mono ?_; rintro _ _ ⟨rfl, rfl⟩) | (go_at_call 90; refine (length32_any _ _ _ _).mono ?_; rintro _ _ ⟨rfl, rfl⟩) | (go_at_call 120; refine (isFinite64_any _ _ _ (by assumption) (by first | assumption | rfl) _).mono ?_; rintro _ _ ⟨rfl, n, rfl⟩) | (go_at_call 117; refine (isFinite_any _ _ _ (by first | assumption | exact is_ofInt _ _ | exact is_self) (by first | assumption | rfl) _).mono ?_; rintro _ _ ⟨rfl, n, rfl⟩) | (go_at_call 112; refine (l01Finite_any _ _ _ (by first | assumption | exact is_ofInt _ _ | exact is_self) (by first | assumption | rfl) _).mono ?_; rintro _ _ ⟨rfl, n, rfl⟩) | (go_at_call 75; refine (areEven_any _ _ _ _ _ _ _ (by assumption) _).mono ?_; rintro _ _ ⟨rfl, rfl⟩) | (go_at_call 74; refine (l03Two_any _ _ _ _ _ _ _ (by assumption) (by omega) _).mono ?_; rintro _ _ ⟨rfl, rfl⟩))
    go_ret2
    exact givesO_some hs.out hE hO HCL.out
theorem specLess_any (ao : Option Addr) (cap : Nat) (xs : List Nat) (bo : Option Addr) (cb : Nat) (zs : List Nat) (w : World) (hc : FR w ao xs) (hl : xs.length ≤ 1048576) (hd : FR w bo zs) (_ : zs.length ≤ 1048576) :
    Calls Try.prog 54 #[.slice ao xs.length cap, .slice bo zs.length cb] w (GivesO (zipO .sub (cl xs) (cl zs)) w) := by
  cases ht : evenB xs.length zs.length with
  | false =>
    have hn : Hid (zipO .sub (cl xs) (cl zs) = none) := by unfold zipO Hid; rw [cl_length, cl_length, ht]; rfl
    go_enter Try.func54, Try.ntmps54
    go_wp2_with (first | (go_at_call 97; refine (within_any _ _ _ _ (by first | assumption | rfl) _).mono ?_; rintro _ _ ⟨rfl, rfl⟩) | (go_at_call 69; refine (l00In_any _ _ _ _ (by first | assumption | rfl) _).mono ?_; rintro _ _ ⟨rfl, rfl⟩) | (go_at_call 71; refine (isCount_any _ _ (by first | assumption | rfl) _).mono ?_; rintro _ _ ⟨rfl, rfl⟩) | (go_at_call 82; refine (isFilter_any _ _ (by first | assumption | rfl) _).mono ?_; rintro _ _ ⟨rfl, rfl⟩) | (go_at_call 70; refine (isTrace_any _ _ _ _ (by first | assumption | rfl) _).mono ?_; rintro _ _ ⟨rfl, rfl⟩) | (go_at_call 68; refine (l03Is_any _ _ _ _ (by first | assumption | rfl) (by omega) _).mono ?_; rintro _ _ ⟨rfl, rfl⟩) | (go_at_call 90; refine (length32_any _ _ _ _).mono ?_; rintro _ _ ⟨rfl, rfl⟩) | (go_at_call 120; refine (isFinite64_any _ _ _ (by assumption) (by first | assumption | rfl) _).mono ?_; rintro _ _ ⟨rfl, n, rfl⟩) | (go_at_call 117; refine (isFinite_any _ _ _ (by first | assumption | exact is_ofInt _ _ | exact is_self) (by first | assumption | rfl) _).mono ?_; rintro _ _ ⟨rfl, n, rfl⟩) | (go_at_call 112; refine (l01Finite_any _ _ _ (by first | assumption | exact is_ofInt _ _ | exact is_self) (by first | assumption | rfl) _).mono ?_; rintro _ _ ⟨rfl, n, rfl⟩) | (go_at_call 75; refine (areEven_any _ _ _ _ _ _ _ (by assumption) _).mono ?_; rintro _ _ ⟨rfl, rfl⟩) | (go_at_call 74; refine (l03Two_any _ _ _ _ _ _ _ (by assumption) (by omega) _).mono ?_; rintro _ _ ⟨rfl, rfl⟩) | (refine wl_bin rfl rfl rfl rfl rfl (by first | assumption | exact is_ofInt _ _ | exact is_self) (by first | assumption | exact is_ofInt _ _ | exact is_self) ?_; intro r n hr) | (refine wl_cmp rfl rfl rfl rfl rfl (by first | assumption | exact is_ofInt _ _ | exact is_self) (by first | assumption | exact is_ofInt _ _ | exact is_self) (by first | assumption | rfl) ?_) | (refine wl_widen rfl rfl rfl (by first | exact rfl | kernel_rfl) (by kernel_rfl) (by first | assumption | exact is_ofInt _ _ | exact is_self) ?_; intro r n hr) | (refine wl_neg rfl rfl rfl (by first | assumption | exact is_ofInt _ _ | exact is_self) ?_; intro r hr))
    go_ret2
    exact givesO_none hn.out (Ext.refl _)
  | true =>
    obtain ⟨h1, h2, h3⟩ := evenB_yes ht
    have h4 := Nat.le_of_eq h3
    clear h3
    have hs : Hid (zipO .sub (cl xs) (cl zs) = some (tabP (zipAt .sub (cl xs) (cl zs)) xs.length)) := by unfold zipO Hid; rw [cl_length, cl_length, ht]; rfl
    go_enter Try.func54, Try.ntmps54
    go_wp2_with (first | (go_at_call 99; refine (l03Less_any _ _ _ _ _ _ _ hc hl hd h4 h1).mono ?_; rintro _ w1 ⟨v, ys, rfl, hE, hO, hcl⟩; (have HCL := Lib.hid hcl; clear hcl)) | (go_at_call 97; refine (within_any _ _ _ _ (by first | assumption | rfl) _).mono ?_; rintro _ _ ⟨rfl, rfl⟩) | (go_at_call 69; refine (l00In_any _ _ _ _ (by first | assumption | rfl) _).mono ?_; rintro _ _ ⟨rfl, rfl⟩) | (go_at_call 71; refine (isCount_any _ _ (by first | assumption | rfl) _).mono ?_; rintro _ _ ⟨rfl, rfl⟩) | (go_at_call 82; refine (isFilter_any _ _ (by first | assumption | rfl) _).mono ?_; rintro _ _ ⟨rfl, rfl⟩) | (go_at_call 70; refine (isTrace_any _ _ _ _ (by first | assumption | rfl) _).mono ?_; rintro _ _ ⟨rfl, rfl⟩) | (go_at_call 68; refine (l03Is_any _ _ _ _ (by first | assumption | rfl) (by omega) _).mono ?_; rintro _ _ ⟨rfl, rfl⟩) | (go_at_call 90; refine (length32_any _ _ _ _).mono ?_; rintro _ _ ⟨rfl, rfl⟩) | (go_at_call 120; refine (isFinite64_any _ _ _ (by assumption) (by first | assumption | rfl) _).mono ?_; rintro _ _ ⟨rfl, n, rfl⟩) | (go_at_call 117; refine (isFinite_any _ _ _ (by first | assumption | exact is_ofInt _ _ | exact is_self) (by first | assumption | rfl) _).mono ?_; rintro _ _ ⟨rfl, n, rfl⟩) | (go_at_call 112; refine (l01Finite_any _ _ _ (by first | assumption | exact is_ofInt _ _ | exact is_self) (by first | assumption | rfl) _).mono ?_; rintro _ _ ⟨rfl, n, rfl⟩) | (go_at_call 75; refine (areEven_any _ _ _ _ _ _ _ (by assumption) _).mono ?_; rintro _ _ ⟨rfl, rfl⟩) | (go_at_call 74; refine (l03Two_any _ _ _ _ _ _ _ (by assumption) (by omega) _).mono ?_; rintro _ _ ⟨rfl, rfl⟩))
    go_ret2
    exact givesO_some hs.out hE hO HCL.out
end Go.Proofs.Ytddoedkopofinaa
