/- TimesToeplitz: the reference's and the program's. -/
import Derived.Test.YtkodneoncancdaaFApply
namespace Go.Proofs.Ytkodneoncancdaa
open Go.RowKit
set_option linter.unusedVariables false

theorem run_max_ii (P : Program) (w : World) (a b : Int) (ts : Array TypeId) (t : TypeId) : (Builtin.max_ ts t #[.int .i64 a, .int .i64 b]).run P w = .ok (.int .i64 (if a < b then b else a)) w := by
  simp [Builtin.max_, Builtin.max2]
theorem run_min_ii (P : Program) (w : World) (a b : Int) (ts : Array TypeId) (t : TypeId) : (Builtin.min_ ts t #[.int .i64 a, .int .i64 b]).run P w = .ok (.int .i64 (if b < a then b else a)) w := by
  simp [Builtin.min_, Builtin.min2]

theorem l05Filter_any (ao : Option Addr) (n cap : Nat) (b : Bool) (hb : inB (n : Int) 1 24 = b) (hl : n ≤ 9223372036854775807) (w : World) : Calls Try.prog 72 #[.slice ao n cap] w fun e w' => e = .returned (.bool b) ∧ w = w' := by
  have HB := Lib.hid hb
  clear hb
  by_cases h1 : 1 ≤ n <;> by_cases h2 : n ≤ 24
  all_goals go_enter Try.func72, Try.ntmps72
  all_goals go_wp2
  all_goals go_ret
  all_goals exact ⟨by rw [← HB.out]; unfold inB; (first | rfl | (simp; omega) | simp [h1, h2]), rfl⟩
set_option maxHeartbeats 2000000 in
theorem specTimes_any (ao : Option Addr) (cap : Nat) (xs : List Nat) (bo : Option Addr) (cb : Nat) (zs : List Nat) (w : World) (hc : FR w ao xs) (hl : xs.length ≤ 1048576) (hd : FR w bo zs) (hm : zs.length ≤ 1048576) :
    Calls Try.prog 29 #[.slice ao xs.length cap, .slice bo zs.length cb] w (GivesO (timesO (cl xs) (cl zs)) w) := by
  obtain ⟨i0, hi0, hz0, hs0, hb0⟩ := info_parts info32
  cases ht0 : inB (xs.length : Int) 1 24 with
  | false =>
    have hn : Hid (timesO (cl xs) (cl zs) = none) := by unfold Hid timesO; rw [isFl_cl, ht0]; rfl
    go_enter Try.func29, Try.ntmps29
    go_wp2_with (first | (go_at_call 72; refine (l05Filter_any _ _ _ _ (by assumption) (by omega) _).mono ?_; rintro _ _ ⟨rfl, rfl⟩) | (go_at_call 63; refine (within_any _ _ _ _ (by first | assumption | rfl) _).mono ?_; rintro _ _ ⟨rfl, rfl⟩) | (go_at_call 69; refine (l00In_any _ _ _ _ (by first | assumption | rfl) _).mono ?_; rintro _ _ ⟨rfl, rfl⟩) | (go_at_call 71; refine (isCount_any _ _ (by first | assumption | rfl) _).mono ?_; rintro _ _ ⟨rfl, rfl⟩) | (go_at_call 79; refine (isFilter_any _ _ (by first | assumption | rfl) _).mono ?_; rintro _ _ ⟨rfl, rfl⟩) | (go_at_call 70; refine (isTrace_any _ _ _ _ (by first | assumption | rfl) _).mono ?_; rintro _ _ ⟨rfl, rfl⟩) | (go_at_call 68; refine (l03Is_any _ _ _ _ (by first | assumption | rfl) (by omega) _).mono ?_; rintro _ _ ⟨rfl, rfl⟩) | (go_at_call 64; refine (length32_any _ _ _ _).mono ?_; rintro _ _ ⟨rfl, rfl⟩) | (go_at_call 108; refine (isFinite64_any _ _ _ (by assumption) (by first | assumption | rfl) _).mono ?_; rintro _ _ ⟨rfl, n, rfl⟩) | (go_at_call 105; refine (isFinite_any _ _ _ (by first | assumption | exact is_ofInt _ _ | exact is_self) (by first | assumption | rfl) _).mono ?_; rintro _ _ ⟨rfl, n, rfl⟩) | (go_at_call 101; refine (l01Finite_any _ _ _ (by first | assumption | exact is_ofInt _ _ | exact is_self) (by first | assumption | rfl) _).mono ?_; rintro _ _ ⟨rfl, n, rfl⟩))
    go_ret2
    exact givesO_none hn.out (Ext.refl _)
  | true =>
  have hI0 := inB_yes ht0
  by_cases heq : xs.length = zs.length
  case neg =>
    have hn : Hid (timesO (cl xs) (cl zs) = none) := by unfold Hid timesO; rw [isFl_cl, ht0, cl_length, cl_length, decide_eq_false heq]; rfl
    have h1 : ((zs.length : Int) != (xs.length : Int)) = true := by simp; omega
    have h2 : ((zs.length : Int) == (xs.length : Int)) = false := by simp; omega
    clear heq
    go_enter Try.func29, Try.ntmps29
    go_wp2_with (first | (go_at_call 72; refine (l05Filter_any _ _ _ _ (by assumption) (by omega) _).mono ?_; rintro _ _ ⟨rfl, rfl⟩) | (go_at_call 63; refine (within_any _ _ _ _ (by first | assumption | rfl) _).mono ?_; rintro _ _ ⟨rfl, rfl⟩) | (go_at_call 69; refine (l00In_any _ _ _ _ (by first | assumption | rfl) _).mono ?_; rintro _ _ ⟨rfl, rfl⟩) | (go_at_call 71; refine (isCount_any _ _ (by first | assumption | rfl) _).mono ?_; rintro _ _ ⟨rfl, rfl⟩) | (go_at_call 79; refine (isFilter_any _ _ (by first | assumption | rfl) _).mono ?_; rintro _ _ ⟨rfl, rfl⟩) | (go_at_call 70; refine (isTrace_any _ _ _ _ (by first | assumption | rfl) _).mono ?_; rintro _ _ ⟨rfl, rfl⟩) | (go_at_call 68; refine (l03Is_any _ _ _ _ (by first | assumption | rfl) (by omega) _).mono ?_; rintro _ _ ⟨rfl, rfl⟩) | (go_at_call 64; refine (length32_any _ _ _ _).mono ?_; rintro _ _ ⟨rfl, rfl⟩) | (go_at_call 108; refine (isFinite64_any _ _ _ (by assumption) (by first | assumption | rfl) _).mono ?_; rintro _ _ ⟨rfl, n, rfl⟩) | (go_at_call 105; refine (isFinite_any _ _ _ (by first | assumption | exact is_ofInt _ _ | exact is_self) (by first | assumption | rfl) _).mono ?_; rintro _ _ ⟨rfl, n, rfl⟩) | (go_at_call 101; refine (l01Finite_any _ _ _ (by first | assumption | exact is_ofInt _ _ | exact is_self) (by first | assumption | rfl) _).mono ?_; rintro _ _ ⟨rfl, n, rfl⟩))
    go_ret2
    exact givesO_none hn.out (Ext.refl _)
  have hs : Hid (timesO (cl xs) (cl zs) = some (tabP (timesAt (cl xs) (cl zs)) zs.length)) := by unfold Hid timesO; rw [isFl_cl, ht0, cl_length, cl_length, decide_eq_true heq]; rfl
  have q1 : ((zs.length : Int) != (xs.length : Int)) = false := by simp; omega
  have q2 : ((zs.length : Int) == (xs.length : Int)) = true := by simp; omega
  have h3 := Nat.le_of_eq heq
  have h4 := Nat.le_of_eq heq.symm
  clear heq
  obtain ⟨b, off, rfl, _⟩ := hc 0 (by omega)
  obtain ⟨b', off', rfl, _⟩ := hd 0 (by omega)
  go_enter Try.func29, Try.ntmps29
  go_wp2_with (first | (go_at_call 72; refine (l05Filter_any _ _ _ _ (by assumption) (by omega) _).mono ?_; rintro _ _ ⟨rfl, rfl⟩) | (go_at_call 63; refine (within_any _ _ _ _ (by first | assumption | rfl) _).mono ?_; rintro _ _ ⟨rfl, rfl⟩) | (go_at_call 69; refine (l00In_any _ _ _ _ (by first | assumption | rfl) _).mono ?_; rintro _ _ ⟨rfl, rfl⟩) | (go_at_call 71; refine (isCount_any _ _ (by first | assumption | rfl) _).mono ?_; rintro _ _ ⟨rfl, rfl⟩) | (go_at_call 79; refine (isFilter_any _ _ (by first | assumption | rfl) _).mono ?_; rintro _ _ ⟨rfl, rfl⟩) | (go_at_call 70; refine (isTrace_any _ _ _ _ (by first | assumption | rfl) _).mono ?_; rintro _ _ ⟨rfl, rfl⟩) | (go_at_call 68; refine (l03Is_any _ _ _ _ (by first | assumption | rfl) (by omega) _).mono ?_; rintro _ _ ⟨rfl, rfl⟩) | (go_at_call 64; refine (length32_any _ _ _ _).mono ?_; rintro _ _ ⟨rfl, rfl⟩) | (go_at_call 108; refine (isFinite64_any _ _ _ (by assumption) (by first | assumption | rfl) _).mono ?_; rintro _ _ ⟨rfl, n, rfl⟩) | (go_at_call 105; refine (isFinite_any _ _ _ (by first | assumption | exact is_ofInt _ _ | exact is_self) (by first | assumption | rfl) _).mono ?_; rintro _ _ ⟨rfl, n, rfl⟩) | (go_at_call 101; refine (l01Finite_any _ _ _ (by first | assumption | exact is_ofInt _ _ | exact is_self) (by first | assumption | rfl) _).mono ?_; rintro _ _ ⟨rfl, n, rfl⟩))
  clear q1 q2
  go_loopw [6, 24] (fun v i wr => ∃ (k : Nat) (ys : List Nat), k ≤ zs.length ∧ i = .int .i64 k ∧ OwnF wr w.heap.size v ys ∧ ys.length ≤ k ∧ Hid (cl ys = tabP (timesAt (cl xs) (cl zs)) k) ∧ Ext w wr) (fun _ i _ => zs.length - (intOf i).toNat)
  case atStart => exact ⟨0, [], Nat.zero_le _, rfl, (by first | exact OwnF.nil _ _ | exact ownF_empty _ _ (by repeat (first | assumption | exact Ext.refl _ | apply Ext.drewN | apply Ext.alloc | (refine Ext.setCell ?_ (by first | assumption | exact Nat.le_refl _) _)))), Nat.le_refl _, rfl, (by repeat (first | assumption | exact Ext.refl _ | apply Ext.drewN | apply Ext.alloc | (refine Ext.setCell ?_ (by first | assumption | exact Nat.le_refl _) _)))⟩
  case round =>
    obtain ⟨k, ys, hk, rfl, hO, hyl, hcl, hE⟩ := hrel
    by_cases hlt : k < zs.length
    · go_wp2
      obtain ⟨wo, rfl⟩ : ∃ wo : World, wo = wr := ⟨_, rfl⟩
      go_loopw [8, 29] (fun s i wr => ∃ (j n0 bb : Nat), j ≤ zs.length ∧ i = .int .i64 j ∧ s = .float .f32 bb ∧ Is .f32 bb (sumP (timesG (cl xs) (cl zs) k) j) ∧ wr = wo.drewN n0) (fun _ i _ => zs.length - (intOf i).toNat)
      case atStart => exact ⟨0, 0, 0, Nat.zero_le _, rfl, rfl, rfl, rfl⟩
      case round =>
        obtain ⟨j, n0, bb, hj, rfl, rfl, hb, rfl⟩ := hrel
        by_cases hjz : j < zs.length
        · by_cases hjk : j ≤ k
          · have hcA := FR.cellW hc (show k - j < xs.length by omega)
            have hcB := FR.cellW hd hjz
            have hA : Is .f32 (el xs (k - j)) (el (cl xs) (k - j + (j - k))) := by rw [show k - j + (j - k) = k - j by omega]; exact is_el (by omega)
            have hB := is_el hjz
            have e4 : (j : Int) ≤ (k : Int) := by omega
            have e6 : ¬ (k : Int) < (j : Int) := by omega
            have e7 : decide ((k : Int) - (j : Int) < 0) = false := by simp; omega
            go_wp2
            have e1 : IntKind.i64.wrap ((k : Int) - (j : Int)) = (k : Int) - (j : Int) := IntWalk.i64_in _ (by omega)
            have e2 : (0 : Int) ≤ (k : Int) - (j : Int) := by omega
            have e3 : ((k : Int) - (j : Int)).toNat = k - j := by omega
            have e5 : (k : Int) - (j : Int) < (xs.length : Int) := by omega
            refine wp_region_mix (fun _ => Ext w) (fun i => false) (fun _ _ => True) (by kernel_rfl) (by kernel_rfl) (by kernel_rfl) (fun _ _ _ h => h.drewN _) (fun _ => hE.drewN _) (fun n0 => ?_)
            repeat (first
          | (refine lx_nil ?_; intro nq)
          | (refine lx_skip rfl ?_; go_simp)
          | (refine lx_move rfl rfl rfl rfl ?_; go_simp)
          | (refine lx_assign rfl rfl rfl rfl ?_; go_simp)
          | (refine lx_bin rfl rfl rfl rfl rfl rfl (by first | assumption | exact is_ofInt _ _ | exact is_self) (by first | assumption | exact is_ofInt _ _ | exact is_self) ?_; intro r hr; go_simp)
          | (refine lx_cmp rfl rfl rfl rfl rfl rfl (by first | assumption | exact is_ofInt _ _ | exact is_self) (by first | assumption | exact is_ofInt _ _ | exact is_self) (by first | assumption | rfl) ?_; go_simp)
          | (refine lx_widen rfl rfl rfl rfl (by first | exact rfl | kernel_rfl) (by kernel_rfl) (by first | assumption | exact is_ofInt _ _ | exact is_self) ?_; intro r hr; go_simp)
          | (refine lx_val rfl rfl (fun w' hw' => by go_simp; rfl) ?_; go_simp))
            have HR := Lib.hid hr
            clear hr e1 e2 e3 e4 e5 e6 e7
            go_wp2
            go_roundw
            case rel => exact ⟨j + 1, _, r, by omega, by go_num, rfl, by rw [sumP_succ]; exact HR.out, rfl⟩
            case measure => simp [intOf]; omega
          · have hcA := FR.cellW hc (show j - k < xs.length by omega)
            have hcB := FR.cellW hd hjz
            have hA : Is .f32 (el xs (j - k)) (el (cl xs) (k - j + (j - k))) := by rw [show k - j + (j - k) = j - k by omega]; exact is_el (by omega)
            have hB := is_el hjz
            have e4 : (k : Int) < (j : Int) := by omega
            have e7 : decide ((k : Int) - (j : Int) < 0) = true := by simp; omega
            go_wp2
            have e2 : (0 : Int) ≤ (j : Int) - (k : Int) := by omega
            have e3 : ((j : Int) - (k : Int)).toNat = j - k := by omega
            have e5 : (j : Int) - (k : Int) < (xs.length : Int) := by omega
            have e1 : (k : Int) ≤ (j : Int) := by omega
            rw [show -((k : Int) - (j : Int)) = (j : Int) - (k : Int) by omega]
            refine wp_region_mix (fun _ => Ext w) (fun i => false) (fun _ _ => True) (by kernel_rfl) (by kernel_rfl) (by kernel_rfl) (fun _ _ _ h => h.drewN _) (fun _ => hE.drewN _) (fun n0 => ?_)
            repeat (first
          | (refine lx_nil ?_; intro nq)
          | (refine lx_skip rfl ?_; go_simp)
          | (refine lx_move rfl rfl rfl rfl ?_; go_simp)
          | (refine lx_assign rfl rfl rfl rfl ?_; go_simp)
          | (refine lx_bin rfl rfl rfl rfl rfl rfl (by first | assumption | exact is_ofInt _ _ | exact is_self) (by first | assumption | exact is_ofInt _ _ | exact is_self) ?_; intro r hr; go_simp)
          | (refine lx_cmp rfl rfl rfl rfl rfl rfl (by first | assumption | exact is_ofInt _ _ | exact is_self) (by first | assumption | exact is_ofInt _ _ | exact is_self) (by first | assumption | rfl) ?_; go_simp)
          | (refine lx_widen rfl rfl rfl rfl (by first | exact rfl | kernel_rfl) (by kernel_rfl) (by first | assumption | exact is_ofInt _ _ | exact is_self) ?_; intro r hr; go_simp)
          | (refine lx_val rfl rfl (fun w' hw' => by go_simp; rfl) ?_; go_simp))
            have HR := Lib.hid hr
            clear hr e1 e2 e3 e4 e5 e7
            go_wp2
            go_roundw
            case rel => exact ⟨j + 1, _, r, by omega, by go_num, rfl, by rw [sumP_succ]; exact HR.out, rfl⟩
            case measure => simp [intOf]; omega
        · have HB : Hid (Is .f32 bb (timesAt (cl xs) (cl zs) k)) := by
            unfold Hid timesAt; rw [cl_length, show zs.length = j by omega]; exact hb
          clear hb
          go_wp2_with (first | (at_builtin; refine wl_append1 _ rfl Try.underlying22 hi0 hz0 hs0 hb0 rfl rfl rfl (by repeat (first | assumption | apply OwnF.drewN | apply OwnF.alloc)) (by repeat (first | assumption | exact Ext.refl _ | apply Ext.drewN | apply Ext.alloc | (refine Ext.setCell ?_ (by first | assumption | exact Nat.le_refl _) _))) (by omega) (by first | exact cell_new _ _ _ | exact cell_newD _ _ _ _) ?_; intro v2 w2 hO2 hE2))
          go_roundw
          case rel => exact ⟨k + 1, _, by omega, by go_num, (by repeat (first | assumption | apply OwnF.drewN | apply OwnF.alloc)), by simp; omega, app_step hcl.out HB.out, (by repeat (first | assumption | exact Ext.refl _ | apply Ext.drewN | apply Ext.alloc | (refine Ext.setCell ?_ (by first | assumption | exact Nat.le_refl _) _)))⟩
          case measure => simp [intOf]; omega
    · go_wp2
      go_ret2
      obtain rfl : zs.length = k := by omega
      exact givesO_some hs.out hE hO hcl.out
theorem areEquations_any (ao : Option Addr) (n cap : Nat) (bo : Option Addr) (m cb : Nat) (v : Bool) (hv : (inB (n : Int) 1 24 && decide (n = m)) = v) (w : World) :
    Calls Try.prog 73 #[.slice ao n cap, .slice bo m cb] w fun e w' => e = .returned (.bool v) ∧ w = w' := by
  have HV := Lib.hid hv
  clear hv
  cases ht : inB (n : Int) 1 24 with
  | false =>
    have h : Hid (v = false) := by unfold Hid; rw [← HV.out]; simp [ht]
    go_enter Try.func73, Try.ntmps73
    go_wp2_with (first | (go_at_call 63; refine (within_any _ _ _ _ (by first | assumption | rfl) _).mono ?_; rintro _ _ ⟨rfl, rfl⟩) | (go_at_call 69; refine (l00In_any _ _ _ _ (by first | assumption | rfl) _).mono ?_; rintro _ _ ⟨rfl, rfl⟩) | (go_at_call 71; refine (isCount_any _ _ (by first | assumption | rfl) _).mono ?_; rintro _ _ ⟨rfl, rfl⟩) | (go_at_call 79; refine (isFilter_any _ _ (by first | assumption | rfl) _).mono ?_; rintro _ _ ⟨rfl, rfl⟩) | (go_at_call 70; refine (isTrace_any _ _ _ _ (by first | assumption | rfl) _).mono ?_; rintro _ _ ⟨rfl, rfl⟩) | (go_at_call 68; refine (l03Is_any _ _ _ _ (by first | assumption | rfl) (by omega) _).mono ?_; rintro _ _ ⟨rfl, rfl⟩) | (go_at_call 64; refine (length32_any _ _ _ _).mono ?_; rintro _ _ ⟨rfl, rfl⟩) | (go_at_call 108; refine (isFinite64_any _ _ _ (by assumption) (by first | assumption | rfl) _).mono ?_; rintro _ _ ⟨rfl, n, rfl⟩) | (go_at_call 105; refine (isFinite_any _ _ _ (by first | assumption | exact is_ofInt _ _ | exact is_self) (by first | assumption | rfl) _).mono ?_; rintro _ _ ⟨rfl, n, rfl⟩) | (go_at_call 101; refine (l01Finite_any _ _ _ (by first | assumption | exact is_ofInt _ _ | exact is_self) (by first | assumption | rfl) _).mono ?_; rintro _ _ ⟨rfl, n, rfl⟩) | (refine wl_bin rfl rfl rfl rfl rfl (by first | assumption | exact is_ofInt _ _ | exact is_self) (by first | assumption | exact is_ofInt _ _ | exact is_self) ?_; intro r n hr) | (refine wl_cmp rfl rfl rfl rfl rfl (by first | assumption | exact is_ofInt _ _ | exact is_self) (by first | assumption | exact is_ofInt _ _ | exact is_self) (by first | assumption | rfl) ?_) | (refine wl_widen rfl rfl rfl (by first | exact rfl | kernel_rfl) (by kernel_rfl) (by first | assumption | exact is_ofInt _ _ | exact is_self) ?_; intro r n hr) | (refine wl_neg rfl rfl rfl (by first | assumption | exact is_ofInt _ _ | exact is_self) ?_; intro r hr))
    go_ret
    exact ⟨by rw [h.out]; rfl, rfl⟩
  | true =>
    by_cases hnm : n = m
    · have h : Hid (v = true) := by unfold Hid; rw [← HV.out]; rw [ht, decide_eq_true hnm]; rfl
      have hq : ((n : Int) == (m : Int)) = true := by simp [hnm]
      clear hnm
      go_enter Try.func73, Try.ntmps73
      go_wp2_with (first | (go_at_call 63; refine (within_any _ _ _ _ (by first | assumption | rfl) _).mono ?_; rintro _ _ ⟨rfl, rfl⟩) | (go_at_call 69; refine (l00In_any _ _ _ _ (by first | assumption | rfl) _).mono ?_; rintro _ _ ⟨rfl, rfl⟩) | (go_at_call 71; refine (isCount_any _ _ (by first | assumption | rfl) _).mono ?_; rintro _ _ ⟨rfl, rfl⟩) | (go_at_call 79; refine (isFilter_any _ _ (by first | assumption | rfl) _).mono ?_; rintro _ _ ⟨rfl, rfl⟩) | (go_at_call 70; refine (isTrace_any _ _ _ _ (by first | assumption | rfl) _).mono ?_; rintro _ _ ⟨rfl, rfl⟩) | (go_at_call 68; refine (l03Is_any _ _ _ _ (by first | assumption | rfl) (by omega) _).mono ?_; rintro _ _ ⟨rfl, rfl⟩) | (go_at_call 64; refine (length32_any _ _ _ _).mono ?_; rintro _ _ ⟨rfl, rfl⟩) | (go_at_call 108; refine (isFinite64_any _ _ _ (by assumption) (by first | assumption | rfl) _).mono ?_; rintro _ _ ⟨rfl, n, rfl⟩) | (go_at_call 105; refine (isFinite_any _ _ _ (by first | assumption | exact is_ofInt _ _ | exact is_self) (by first | assumption | rfl) _).mono ?_; rintro _ _ ⟨rfl, n, rfl⟩) | (go_at_call 101; refine (l01Finite_any _ _ _ (by first | assumption | exact is_ofInt _ _ | exact is_self) (by first | assumption | rfl) _).mono ?_; rintro _ _ ⟨rfl, n, rfl⟩) | (refine wl_bin rfl rfl rfl rfl rfl (by first | assumption | exact is_ofInt _ _ | exact is_self) (by first | assumption | exact is_ofInt _ _ | exact is_self) ?_; intro r n hr) | (refine wl_cmp rfl rfl rfl rfl rfl (by first | assumption | exact is_ofInt _ _ | exact is_self) (by first | assumption | exact is_ofInt _ _ | exact is_self) (by first | assumption | rfl) ?_) | (refine wl_widen rfl rfl rfl (by first | exact rfl | kernel_rfl) (by kernel_rfl) (by first | assumption | exact is_ofInt _ _ | exact is_self) ?_; intro r n hr) | (refine wl_neg rfl rfl rfl (by first | assumption | exact is_ofInt _ _ | exact is_self) ?_; intro r hr))
      go_ret
      exact ⟨by rw [h.out]; rfl, rfl⟩
    · have h : Hid (v = false) := by unfold Hid; rw [← HV.out]; simp [hnm]
      have hq : ((n : Int) == (m : Int)) = false := by simp; omega
      clear hnm
      go_enter Try.func73, Try.ntmps73
      go_wp2_with (first | (go_at_call 63; refine (within_any _ _ _ _ (by first | assumption | rfl) _).mono ?_; rintro _ _ ⟨rfl, rfl⟩) | (go_at_call 69; refine (l00In_any _ _ _ _ (by first | assumption | rfl) _).mono ?_; rintro _ _ ⟨rfl, rfl⟩) | (go_at_call 71; refine (isCount_any _ _ (by first | assumption | rfl) _).mono ?_; rintro _ _ ⟨rfl, rfl⟩) | (go_at_call 79; refine (isFilter_any _ _ (by first | assumption | rfl) _).mono ?_; rintro _ _ ⟨rfl, rfl⟩) | (go_at_call 70; refine (isTrace_any _ _ _ _ (by first | assumption | rfl) _).mono ?_; rintro _ _ ⟨rfl, rfl⟩) | (go_at_call 68; refine (l03Is_any _ _ _ _ (by first | assumption | rfl) (by omega) _).mono ?_; rintro _ _ ⟨rfl, rfl⟩) | (go_at_call 64; refine (length32_any _ _ _ _).mono ?_; rintro _ _ ⟨rfl, rfl⟩) | (go_at_call 108; refine (isFinite64_any _ _ _ (by assumption) (by first | assumption | rfl) _).mono ?_; rintro _ _ ⟨rfl, n, rfl⟩) | (go_at_call 105; refine (isFinite_any _ _ _ (by first | assumption | exact is_ofInt _ _ | exact is_self) (by first | assumption | rfl) _).mono ?_; rintro _ _ ⟨rfl, n, rfl⟩) | (go_at_call 101; refine (l01Finite_any _ _ _ (by first | assumption | exact is_ofInt _ _ | exact is_self) (by first | assumption | rfl) _).mono ?_; rintro _ _ ⟨rfl, n, rfl⟩) | (refine wl_bin rfl rfl rfl rfl rfl (by first | assumption | exact is_ofInt _ _ | exact is_self) (by first | assumption | exact is_ofInt _ _ | exact is_self) ?_; intro r n hr) | (refine wl_cmp rfl rfl rfl rfl rfl (by first | assumption | exact is_ofInt _ _ | exact is_self) (by first | assumption | exact is_ofInt _ _ | exact is_self) (by first | assumption | rfl) ?_) | (refine wl_widen rfl rfl rfl (by first | exact rfl | kernel_rfl) (by kernel_rfl) (by first | assumption | exact is_ofInt _ _ | exact is_self) ?_; intro r n hr) | (refine wl_neg rfl rfl rfl (by first | assumption | exact is_ofInt _ _ | exact is_self) ?_; intro r hr))
      go_ret
      exact ⟨by rw [h.out]; rfl, rfl⟩
set_option maxHeartbeats 2000000 in
theorem times_any (ao : Option Addr) (cap : Nat) (xs : List Nat) (bo : Option Addr) (cb : Nat) (zs : List Nat) (w : World) (hc : FR w ao xs) (hl : xs.length ≤ 1048576) (hd : FR w bo zs) (_ : zs.length ≤ 1048576) :
    Calls Try.prog 30 #[.slice ao xs.length cap, .slice bo zs.length cb] w (GivesO (timesO (cl xs) (cl zs)) w) := by
  obtain ⟨i0, hi0, hz0, hs0, hb0⟩ := info_parts info32
  cases ht0 : (inB (xs.length : Int) 1 24 && decide (xs.length = zs.length)) with
  | false =>
    have hn : Hid (timesO (cl xs) (cl zs) = none) := by unfold Hid timesO; rw [isFl_cl, cl_length, cl_length, ht0]; rfl
    go_enter Try.func30, Try.ntmps30
    go_wp2_with (first | (go_at_call 73; refine (areEquations_any _ _ _ _ _ _ _ ht0 _).mono ?_; rintro _ _ ⟨rfl, rfl⟩) | (go_at_call 63; refine (within_any _ _ _ _ (by first | assumption | rfl) _).mono ?_; rintro _ _ ⟨rfl, rfl⟩) | (go_at_call 69; refine (l00In_any _ _ _ _ (by first | assumption | rfl) _).mono ?_; rintro _ _ ⟨rfl, rfl⟩) | (go_at_call 71; refine (isCount_any _ _ (by first | assumption | rfl) _).mono ?_; rintro _ _ ⟨rfl, rfl⟩) | (go_at_call 79; refine (isFilter_any _ _ (by first | assumption | rfl) _).mono ?_; rintro _ _ ⟨rfl, rfl⟩) | (go_at_call 70; refine (isTrace_any _ _ _ _ (by first | assumption | rfl) _).mono ?_; rintro _ _ ⟨rfl, rfl⟩) | (go_at_call 68; refine (l03Is_any _ _ _ _ (by first | assumption | rfl) (by omega) _).mono ?_; rintro _ _ ⟨rfl, rfl⟩) | (go_at_call 64; refine (length32_any _ _ _ _).mono ?_; rintro _ _ ⟨rfl, rfl⟩) | (go_at_call 108; refine (isFinite64_any _ _ _ (by assumption) (by first | assumption | rfl) _).mono ?_; rintro _ _ ⟨rfl, n, rfl⟩) | (go_at_call 105; refine (isFinite_any _ _ _ (by first | assumption | exact is_ofInt _ _ | exact is_self) (by first | assumption | rfl) _).mono ?_; rintro _ _ ⟨rfl, n, rfl⟩) | (go_at_call 101; refine (l01Finite_any _ _ _ (by first | assumption | exact is_ofInt _ _ | exact is_self) (by first | assumption | rfl) _).mono ?_; rintro _ _ ⟨rfl, n, rfl⟩))
    go_ret2
    exact givesO_none hn.out (Ext.refl _)
  | true =>
  have hs : Hid (timesO (cl xs) (cl zs) = some (tabP (timesAt (cl xs) (cl zs)) zs.length)) := by unfold Hid timesO; rw [isFl_cl, cl_length, cl_length, ht0]; rfl
  have h00 := ht0
  simp only [Bool.and_eq_true, decide_eq_true_eq] at h00
  have hI0 := inB_yes h00.1
  have h3 := Nat.le_of_eq h00.2
  have h4 := Nat.le_of_eq h00.2.symm
  clear h00
  obtain ⟨b, off, rfl, _⟩ := hc 0 (by omega)
  obtain ⟨b', off', rfl, _⟩ := hd 0 (by omega)
  go_enter Try.func30, Try.ntmps30
  go_wp2_with (first | (at_make; refine wl_make1 rfl Try.underlying22 hi0 hz0 hs0 hb0 rfl rfl rfl rfl rfl (by omega) ?_; intro w1 hO1 hE1) | (go_at_call 73; refine (areEquations_any _ _ _ _ _ _ _ ht0 _).mono ?_; rintro _ _ ⟨rfl, rfl⟩) | (go_at_call 63; refine (within_any _ _ _ _ (by first | assumption | rfl) _).mono ?_; rintro _ _ ⟨rfl, rfl⟩) | (go_at_call 69; refine (l00In_any _ _ _ _ (by first | assumption | rfl) _).mono ?_; rintro _ _ ⟨rfl, rfl⟩) | (go_at_call 71; refine (isCount_any _ _ (by first | assumption | rfl) _).mono ?_; rintro _ _ ⟨rfl, rfl⟩) | (go_at_call 79; refine (isFilter_any _ _ (by first | assumption | rfl) _).mono ?_; rintro _ _ ⟨rfl, rfl⟩) | (go_at_call 70; refine (isTrace_any _ _ _ _ (by first | assumption | rfl) _).mono ?_; rintro _ _ ⟨rfl, rfl⟩) | (go_at_call 68; refine (l03Is_any _ _ _ _ (by first | assumption | rfl) (by omega) _).mono ?_; rintro _ _ ⟨rfl, rfl⟩) | (go_at_call 64; refine (length32_any _ _ _ _).mono ?_; rintro _ _ ⟨rfl, rfl⟩) | (go_at_call 108; refine (isFinite64_any _ _ _ (by assumption) (by first | assumption | rfl) _).mono ?_; rintro _ _ ⟨rfl, n, rfl⟩) | (go_at_call 105; refine (isFinite_any _ _ _ (by first | assumption | exact is_ofInt _ _ | exact is_self) (by first | assumption | rfl) _).mono ?_; rintro _ _ ⟨rfl, n, rfl⟩) | (go_at_call 101; refine (l01Finite_any _ _ _ (by first | assumption | exact is_ofInt _ _ | exact is_self) (by first | assumption | rfl) _).mono ?_; rintro _ _ ⟨rfl, n, rfl⟩))
  clear ht0
  have hg1 : w.heap.size ≤ w.heap.size := Nat.le_refl _
  go_loopw [19] (fun i wr => ∃ (k : Nat) (ys : List Nat), k ≤ zs.length ∧ i = .int .i64 k ∧ OwnF wr w.heap.size (.slice (some ⟨w.heap.size, 0, none⟩) (zs.length) (zs.length)) ys ∧ Hid (ys.length = zs.length) ∧ Hid (cl ys = tabP (timesAt (cl xs) (cl zs)) k ++ List.drop k (List.replicate (zs.length) 0)) ∧ Ext w wr) (fun i _ => zs.length - (intOf i).toNat)
  case atStart => exact ⟨0, _, Nat.zero_le _, rfl, hO1, by simp [Hid], set_start _ _ (cl_zeros _), hE1⟩
  case round =>
    obtain ⟨k, ys, hk, rfl, hO, hyl, hcl, hE⟩ := hrel
    clear hO1 hE1
    by_cases hlt : k < zs.length
    · have hin := inner_start (timesG (cl xs) (cl zs) k) hcl.out hlt
      go_wp2
      obtain ⟨wo, rfl⟩ : ∃ wo : World, wo = wr := ⟨_, rfl⟩
      go_loopw [24] (fun i wr => ∃ (j : Nat) (ys : List Nat), j ≤ zs.length ∧ i = .int .i64 j ∧ OwnF wr w.heap.size (.slice (some ⟨w.heap.size, 0, none⟩) (zs.length) (zs.length)) ys ∧ Hid (cl ys = tabP (timesAt (cl xs) (cl zs)) k ++ (sumP (timesG (cl xs) (cl zs) k) j :: List.replicate (zs.length - (k + 1)) 0)) ∧ Ext w wr) (fun i _ => zs.length - (intOf i).toNat)
      case atStart => exact ⟨0, ys, Nat.zero_le _, rfl, hO, hin, hE⟩
      case round =>
        clear hO hyl hcl hE hin
        obtain ⟨j, ys, hj, rfl, hO, hcl, hE⟩ := hrel
        by_cases hjz : j < zs.length
        · have hcB := FR.cellW hd hjz
          have hcBw := hcB _ hE
          have hB := is_el hjz
          have hC := inner_read hcl.out
          have hlen := inner_len hcl.out hlt
          obtain ⟨hcur, hfz⟩ := OwnF.at' hO (k := k) (by omega)
          clear hlen
          obtain ⟨d, hd1, hd2⟩ : ∃ d : Nat, d = k - j + (j - k) ∧ d < xs.length := ⟨_, rfl, by omega⟩
          have hcA := FR.cellW hc hd2
          have hA := is_el hd2
          have hdm : (if (k : Int) - (j : Int) < (j : Int) - (k : Int) then (j : Int) - (k : Int) else (k : Int) - (j : Int)) = (d : Int) := by split <;> omega
          have HD := Lib.hid hd1
          clear hd1
          go_wp2
          have e1 : IntKind.i64.wrap ((k : Int) - (j : Int)) = (k : Int) - (j : Int) := IntWalk.i64_in _ (by omega)
          have e2 : IntKind.i64.wrap ((j : Int) - (k : Int)) = (j : Int) - (k : Int) := IntWalk.i64_in _ (by omega)
          have e3 := fun (w' : World) (ts : Array TypeId) (t : TypeId) => run_max_ii Try.prog w' ((k : Int) - (j : Int)) ((j : Int) - (k : Int)) ts t
          rw [hdm] at e3
          refine wp_region_mix (ownU [3] (Drawn wr) (Ext w)) (fun i => i == 18) (fun _ _ => True) (by kernel_rfl) (by kernel_rfl) (by kernel_rfl) (ownU_drew (drawn_more _) (fun _ _ h => h.drewN _)) (ownU_all (drawn_self _) hE) (fun n0 => ?_)
          repeat (first
          | (refine lx_nil ?_; intro nq)
          | (refine lx_skip rfl ?_; go_simp)
          | (refine lx_move rfl rfl rfl rfl ?_; go_simp)
          | (refine lx_assign rfl rfl rfl rfl ?_; go_simp)
          | (refine lx_bin rfl rfl rfl rfl rfl rfl (by first | assumption | exact is_ofInt _ _ | exact is_self) (by first | assumption | exact is_ofInt _ _ | exact is_self) ?_; intro r hr; go_simp)
          | (refine lx_cmp rfl rfl rfl rfl rfl rfl (by first | assumption | exact is_ofInt _ _ | exact is_self) (by first | assumption | exact is_ofInt _ _ | exact is_self) (by first | assumption | rfl) ?_; go_simp)
          | (refine lx_widen rfl rfl rfl rfl (by first | exact rfl | kernel_rfl) (by kernel_rfl) (by first | assumption | exact is_ofInt _ _ | exact is_self) ?_; intro r hr; go_simp)
          | (refine lx_val rfl rfl (fun w' hw' => by (have hw2 : Ext w w' := hw'); go_simp; rfl) ?_; go_simp)
          | (refine lx_val rfl rfl (fun w' hw' => by (obtain ⟨mm, rfl⟩ : Drawn wr w' := hw'); go_simp; rfl) ?_; go_simp))
          refine lx_effS rfl rfl (fun n => by go_simp; rfl) (fun n => ownU_aft (by kernel_rfl) ((hE.drewN _).setCell hg1 _)) (fun n1 => ?_)
          have hst := hO.stored k r
          have HO := Lib.hid hst.1
          have HR := Lib.hid hr
          clear hst hr
          go_simp
          repeat (first
          | (refine lx_nil ?_; intro nq)
          | (refine lx_skip rfl ?_; go_simp)
          | (refine lx_move rfl rfl rfl rfl ?_; go_simp)
          | (refine lx_assign rfl rfl rfl rfl ?_; go_simp)
          | (refine lx_bin rfl rfl rfl rfl rfl rfl (by first | assumption | exact is_ofInt _ _ | exact is_self) (by first | assumption | exact is_ofInt _ _ | exact is_self) ?_; intro r hr; go_simp)
          | (refine lx_cmp rfl rfl rfl rfl rfl rfl (by first | assumption | exact is_ofInt _ _ | exact is_self) (by first | assumption | exact is_ofInt _ _ | exact is_self) (by first | assumption | rfl) ?_; go_simp)
          | (refine lx_widen rfl rfl rfl rfl (by first | exact rfl | kernel_rfl) (by kernel_rfl) (by first | assumption | exact is_ofInt _ _ | exact is_self) ?_; intro r hr; go_simp)
          | (refine lx_val rfl rfl (fun w' hw' => by (have hw2 : Ext w w' := hw'); go_simp; rfl) ?_; go_simp)
          | (refine lx_val rfl rfl (fun w' hw' => by (obtain ⟨mm, rfl⟩ : Drawn wr w' := hw'); go_simp; rfl) ?_; go_simp))
          clear e1 e2 e3
          go_wp2
          go_roundw
          case rel => exact ⟨j + 1, _, by omega, by go_num, HO.out, inner_step hcl.out (by rw [sumP_succ]; rw [HD.out] at HR; exact HR.out), (by repeat (first | assumption | exact Ext.refl _ | apply Ext.drewN | apply Ext.alloc | (refine Ext.setCell ?_ (by first | assumption | exact Nat.le_refl _) _)))⟩
          case measure => simp [intOf]; omega
        · have hlen := Lib.hid (inner_len hcl.out hlt)
          have hin := inner_done hcl.out (show sumP (timesG (cl xs) (cl zs) k) j = timesAt (cl xs) (cl zs) k by unfold timesAt; rw [cl_length, show zs.length = j by omega])
          go_wp2
          go_roundw
          case rel => exact ⟨k + 1, _, by omega, by go_num, hO, hlen, hin, (by repeat (first | assumption | exact Ext.refl _ | apply Ext.drewN | apply Ext.alloc | (refine Ext.setCell ?_ (by first | assumption | exact Nat.le_refl _) _)))⟩
          case measure => simp [intOf]; omega
    · go_wp2
      go_ret2
      obtain rfl : zs.length = k := by omega
      exact givesO_some hs.out hE hO (set_done hcl.out (by simp))
end Go.Proofs.Ytkodneoncancdaa
