/- FoldTraces, FoldAbout: the reference's and the program's. -/
import Derived.Test.YtkodneoncancdaaFTimes
namespace Go.Proofs.Ytkodneoncancdaa
open Go.RowKit
set_option linter.unusedVariables false

/-- Number k of two folded lists: the sum from i = k + 1 - len m on. -/
def foldG (l m : List Nat) (k i : Nat) : Nat := fop .mul .f32 (el l (k + 1 - m.length + i)) (el m (k - (k + 1 - m.length + i)))
def foldAt (l m : List Nat) (k : Nat) : Nat := sumP (foldG l m k) (min (k + 1) l.length - (k + 1 - m.length))
def foldO (l m : List Nat) : Option (List Nat) := if isTr l && isTr m && inB ((l.length : Int) + (m.length : Int) - 1) 1 128 then some (tabP (foldAt l m) (l.length + m.length - 1)) else none
theorem foldO_len (l m : List Nat) : ((foldO l m).getD []).length ≤ 1048576 :=
  gate_len (n := 256) (fun h => by
    simp only [Bool.and_eq_true] at h
    have h1 := isTr_le h.1.1
    have h2 := isTr_le h.1.2
    rw [tabP_len]; omega) (by omega)

set_option maxHeartbeats 2000000 in
theorem l03Fold_any (ao : Option Addr) (cap : Nat) (xs : List Nat) (bo : Option Addr) (cb : Nat) (zs : List Nat) (w : World) (hc : FR w ao xs) (hl : xs.length ≤ 128) (hl1 : 1 ≤ xs.length) (hd : FR w bo zs) (hm : zs.length ≤ 128) (hm1 : 1 ≤ zs.length) :
    Calls Try.prog 86 #[.slice ao xs.length cap, .slice bo zs.length cb] w (GivesS (tabP (foldAt (cl xs) (cl zs)) (xs.length + zs.length - 1)) w) := by
  obtain ⟨i0, hi0, hz0, hs0, hb0⟩ := info_parts info32
  obtain ⟨b, off, rfl, _⟩ := hc 0 (by omega)
  obtain ⟨b', off', rfl, _⟩ := hd 0 (by omega)
  go_enter Try.func86, Try.ntmps86
  go_wp2
  go_loopw [5, 6] (fun v i wr => ∃ (k : Nat) (ys : List Nat), k ≤ xs.length + zs.length - 1 ∧ i = .int .i64 k ∧ OwnF wr w.heap.size v ys ∧ ys.length ≤ k ∧ Hid (cl ys = tabP (foldAt (cl xs) (cl zs)) k) ∧ Ext w wr) (fun _ i _ => xs.length + zs.length - 1 - (intOf i).toNat)
  case atStart => exact ⟨0, [], Nat.zero_le _, rfl, (by first | exact OwnF.nil _ _ | exact ownF_empty _ _ (by repeat (first | assumption | exact Ext.refl _ | apply Ext.drewN | apply Ext.alloc | (refine Ext.setCell ?_ (by first | assumption | exact Nat.le_refl _) _)))), Nat.le_refl _, rfl, (by repeat (first | assumption | exact Ext.refl _ | apply Ext.drewN | apply Ext.alloc | (refine Ext.setCell ?_ (by first | assumption | exact Nat.le_refl _) _)))⟩
  case round =>
    obtain ⟨k, ys, hk, rfl, hO, hyl, hcl, hE⟩ := hrel
    by_cases hlt : k < xs.length + zs.length - 1
    · have e0 : (k : Int) < (xs.length : Int) + (zs.length : Int) - 1 := by omega
      go_wp2
      clear e0
      obtain ⟨wo, rfl⟩ : ∃ wo : World, wo = wr := ⟨_, rfl⟩
      go_loopw [7, 22] (fun s i wr => ∃ (j n0 bb : Nat), j ≤ xs.length ∧ i = .int .i64 j ∧ s = .float .f32 bb ∧ Is .f32 bb (sumP (foldG (cl xs) (cl zs) k) (min j (k + 1) - (k + 1 - zs.length))) ∧ wr = wo.drewN n0) (fun _ i _ => xs.length - (intOf i).toNat)
      case atStart => exact ⟨0, 0, 0, Nat.zero_le _, rfl, rfl, by rw [show min 0 (k + 1) - (k + 1 - zs.length) = 0 by omega]; rfl, rfl⟩
      case round =>
        obtain ⟨j, n0, bb, hj, rfl, rfl, hb, rfl⟩ := hrel
        by_cases hjx : j < xs.length
        · by_cases hjk : j ≤ k
          · by_cases hjz : k - j < zs.length
            · have hcA := FR.cellW hc hjx
              have hcB := FR.cellW hd hjz
              have hA := is_el hjx
              have hB := is_el hjz
              have e4 : (j : Int) ≤ (k : Int) := by omega
              have e5 : (k : Int) - (j : Int) < (zs.length : Int) := by omega
              go_wp2
              have e1 : IntKind.i64.wrap ((k : Int) - (j : Int)) = (k : Int) - (j : Int) := IntWalk.i64_in _ (by omega)
              have e2 : (0 : Int) ≤ (k : Int) - (j : Int) := by omega
              have e3 : ((k : Int) - (j : Int)).toNat = k - j := by omega
              refine wp_region_mix (fun _ => Ext w) (fun i => false) (fun _ _ => True) (by kernel_rfl) (by kernel_rfl) (by kernel_rfl) (fun _ _ _ h => h.drewN _) (fun _ => hE.drewN _) (fun n0 => ?_)
              repeat (first
          | (refine lx_nil ?_; intro nq)
          | (refine lx_skip rfl ?_; go_simp)
          | (refine lx_move rfl rfl rfl rfl ?_; go_simp)
          | (refine lx_assign rfl rfl rfl rfl ?_; go_simp)
          | (refine lx_bin rfl rfl rfl rfl rfl rfl (by first | assumption | exact is_ofInt _ _ | exact is_self) (by first | assumption | exact is_ofInt _ _ | exact is_self) ?_; intro r hr; go_simp)
          | (refine lx_cmp rfl rfl rfl rfl rfl rfl (by first | assumption | exact is_ofInt _ _ | exact is_self) (by first | assumption | exact is_ofInt _ _ | exact is_self) (by first | assumption | rfl) ?_; go_simp)
          | (refine lx_widen rfl rfl rfl rfl (by first | exact rfl | kernel_rfl) (by kernel_rfl) (by first | assumption | exact is_ofInt _ _ | exact is_self) ?_; intro r hr; go_simp)
          | (refine lx_val rfl rfl (fun w' hw' => by go_simp; rfl) ?_; go_simp))
              have HR := Lib.hid hr
              clear hr e1 e2 e3 e4 e5
              have HT : Hid (min (j + 1) (k + 1) - (k + 1 - zs.length) = min j (k + 1) - (k + 1 - zs.length) + 1) := by unfold Hid; omega
              have HG : Hid (fop .mul .f32 (el (cl xs) j) (el (cl zs) (k - j)) = foldG (cl xs) (cl zs) k (min j (k + 1) - (k + 1 - zs.length))) := by
                unfold Hid foldG; rw [cl_length, show k + 1 - zs.length + (min j (k + 1) - (k + 1 - zs.length)) = j by omega]
              go_wp2
              go_roundw
              case rel => exact ⟨j + 1, _, r, by omega, by go_num, rfl, by rw [HT.out, sumP_succ, ← HG.out]; exact HR.out, rfl⟩
              case measure => simp [intOf]; omega
            · have e4 : (j : Int) ≤ (k : Int) := by omega
              have e5 : ¬ (k : Int) - (j : Int) < (zs.length : Int) := by omega
              have e6 : decide ((k : Int) - (j : Int) < (zs.length : Int)) = false := by simp; omega
              have HB : Hid (Is .f32 bb (sumP (foldG (cl xs) (cl zs) k) (min (j + 1) (k + 1) - (k + 1 - zs.length)))) := by
                unfold Hid; rw [show min (j + 1) (k + 1) - (k + 1 - zs.length) = min j (k + 1) - (k + 1 - zs.length) by omega]; exact hb
              clear hb
              go_wp2
              go_roundw
              case rel => exact ⟨j + 1, _, bb, by omega, by go_num, rfl, HB.out, rfl⟩
              case measure => simp [intOf]; omega
          · have e4 : ¬ (j : Int) ≤ (k : Int) := by omega
            have e6 : decide ((0 : Int) ≤ (k : Int) - (j : Int)) = false := by simp; omega
            have HB : Hid (Is .f32 bb (sumP (foldG (cl xs) (cl zs) k) (min (j + 1) (k + 1) - (k + 1 - zs.length)))) := by
              unfold Hid; rw [show min (j + 1) (k + 1) - (k + 1 - zs.length) = min j (k + 1) - (k + 1 - zs.length) by omega]; exact hb
            clear hb
            go_wp2
            go_roundw
            case rel => exact ⟨j + 1, _, bb, by omega, by go_num, rfl, HB.out, rfl⟩
            case measure => simp [intOf]; omega
        · have HB : Hid (Is .f32 bb (foldAt (cl xs) (cl zs) k)) := by
            unfold Hid foldAt; rw [cl_length, cl_length, show min (k + 1) xs.length - (k + 1 - zs.length) = min j (k + 1) - (k + 1 - zs.length) by omega]; exact hb
          clear hb
          go_wp2_with (first | (at_builtin; refine wl_append1 _ rfl Try.underlying22 hi0 hz0 hs0 hb0 rfl rfl rfl (by repeat (first | assumption | apply OwnF.drewN | apply OwnF.alloc)) (by repeat (first | assumption | exact Ext.refl _ | apply Ext.drewN | apply Ext.alloc | (refine Ext.setCell ?_ (by first | assumption | exact Nat.le_refl _) _))) (by omega) (by first | exact cell_new _ _ _ | exact cell_newD _ _ _ _) ?_; intro v2 w2 hO2 hE2))
          go_roundw
          case rel => exact ⟨k + 1, _, by omega, by go_num, (by repeat (first | assumption | apply OwnF.drewN | apply OwnF.alloc)), by simp; omega, app_step hcl.out HB.out, (by repeat (first | assumption | exact Ext.refl _ | apply Ext.drewN | apply Ext.alloc | (refine Ext.setCell ?_ (by first | assumption | exact Nat.le_refl _) _)))⟩
          case measure => simp [intOf]; omega
    · have e0 : ¬ (k : Int) < (xs.length : Int) + (zs.length : Int) - 1 := by omega
      go_wp2
      go_ret
      obtain rfl : k = xs.length + zs.length - 1 := by omega
      exact ⟨_, ys, rfl, hE, hO, hcl.out⟩
set_option maxHeartbeats 2000000 in
theorem folded_any (ao : Option Addr) (cap : Nat) (xs : List Nat) (bo : Option Addr) (cb : Nat) (zs : List Nat) (k : Nat) (w : World) (hc : FR w ao xs) (hl : xs.length ≤ 128) (hl1 : 1 ≤ xs.length) (hd : FR w bo zs) (hm : zs.length ≤ 128) (hm1 : 1 ≤ zs.length) (hk : k < xs.length + zs.length - 1) :
    Calls Try.prog 87 #[.slice ao xs.length cap, .slice bo zs.length cb, .int .i64 k] w (GivesF .f32 (foldAt (cl xs) (cl zs) k) w) := by
  obtain ⟨b, off, rfl, _⟩ := hc 0 (by omega)
  obtain ⟨b', off', rfl, _⟩ := hd 0 (by omega)
  obtain ⟨lo, hlo⟩ : ∃ lo : Nat, lo = k + 1 - zs.length := ⟨_, rfl⟩
  obtain ⟨hi, hhi⟩ : ∃ hi : Nat, hi + 1 = min (k + 1) xs.length := ⟨min k (xs.length - 1), by omega⟩
  have e1 := fun (w' : World) (ts : Array TypeId) (t : TypeId) => run_max_ii Try.prog w' 0 ((k : Int) - (zs.length : Int) + 1) ts t
  rw [show (if (0 : Int) < (k : Int) - (zs.length : Int) + 1 then (k : Int) - (zs.length : Int) + 1 else 0) = (lo : Int) by split <;> omega] at e1
  have e2 := fun (w' : World) (ts : Array TypeId) (t : TypeId) => run_min_ii Try.prog w' (k : Int) ((xs.length : Int) - 1) ts t
  rw [show (if ((xs.length : Int) - 1) < (k : Int) then ((xs.length : Int) - 1) else (k : Int)) = (hi : Int) by split <;> omega] at e2
  have h1 : lo ≤ hi := by omega
  have h2 : hi < xs.length := by omega
  have h3 : hi ≤ k := by omega
  have h4 : k < lo + zs.length := by omega
  have HE : Hid (foldAt (cl xs) (cl zs) k = sumP (foldG (cl xs) (cl zs) k) (hi + 1 - lo)) := by unfold Hid foldAt; rw [cl_length, cl_length, hhi, hlo]
  have HL : Hid (k + 1 - (cl zs).length = lo) := by unfold Hid; rw [cl_length, hlo]
  clear hlo hhi
  go_enter Try.func87, Try.ntmps87
  go_wp2
  go_loopw [7, 8] (fun s i wr => ∃ (j n0 bb : Nat), lo ≤ j ∧ j ≤ hi + 1 ∧ i = .int .i64 j ∧ s = .float .f32 bb ∧ Is .f32 bb (sumP (foldG (cl xs) (cl zs) k) (j - lo)) ∧ wr = w.drewN n0) (fun _ i _ => hi + 1 - (intOf i).toNat)
  case atStart => exact ⟨lo, 0, 0, Nat.le_refl _, by omega, rfl, rfl, by rw [Nat.sub_self]; rfl, rfl⟩
  case round =>
    obtain ⟨j, n0, bb, hj0, hj, rfl, rfl, hb, rfl⟩ := hrel
    by_cases hjx : j ≤ hi
    · have hcA := FR.cellW hc (show j < xs.length by omega)
      have hcB := FR.cellW hd (show k - j < zs.length by omega)
      have hA := is_el (show j < xs.length by omega)
      have hB := is_el (show k - j < zs.length by omega)
      have e4 : (j : Int) ≤ (k : Int) := by omega
      have e5 : (k : Int) - (j : Int) < (zs.length : Int) := by omega
      have e6 : j < xs.length := by omega
      go_wp2
      have e7 : IntKind.i64.wrap ((k : Int) - (j : Int)) = (k : Int) - (j : Int) := IntWalk.i64_in _ (by omega)
      have e8 : (0 : Int) ≤ (k : Int) - (j : Int) := by omega
      have e9 : ((k : Int) - (j : Int)).toNat = k - j := by omega
      refine wp_region_mix (fun _ => Ext w) (fun i => false) (fun _ _ => True) (by kernel_rfl) (by kernel_rfl) (by kernel_rfl) (fun _ _ _ h => h.drewN _) (fun _ => (by repeat (first | assumption | exact Ext.refl _ | apply Ext.drewN | apply Ext.alloc | (refine Ext.setCell ?_ (by first | assumption | exact Nat.le_refl _) _)))) (fun n0 => ?_)
      repeat (first
          | (refine lx_nil ?_; intro nq)
          | (refine lx_skip rfl ?_; go_simp)
          | (refine lx_move rfl rfl rfl rfl ?_; go_simp)
          | (refine lx_assign rfl rfl rfl rfl ?_; go_simp)
          | (refine lx_bin rfl rfl rfl rfl rfl rfl (by first | assumption | exact is_ofInt _ _ | exact is_self) (by first | assumption | exact is_ofInt _ _ | exact is_self) ?_; intro r hr; go_simp)
          | (refine lx_cmp rfl rfl rfl rfl rfl rfl (by first | assumption | exact is_ofInt _ _ | exact is_self) (by first | assumption | exact is_ofInt _ _ | exact is_self) (by first | assumption | rfl) ?_; go_simp)
          | (refine lx_widen rfl rfl rfl rfl (by first | exact rfl | kernel_rfl) (by kernel_rfl) (by first | assumption | exact is_ofInt _ _ | exact is_self) ?_; intro r hr; go_simp)
          | (refine lx_val rfl rfl (fun w' hw' => by go_simp; rfl) ?_; go_simp))
      have HR := Lib.hid hr
      clear hr e7 e8 e9 e4 e5 e6
      have HG : Hid (fop .mul .f32 (el (cl xs) j) (el (cl zs) (k - j)) = foldG (cl xs) (cl zs) k (j - lo)) := by
        unfold Hid foldG; rw [HL.out, show lo + (j - lo) = j by omega]
      have HT : Hid (j + 1 - lo = j - lo + 1) := by unfold Hid; omega
      go_wp2
      go_roundw
      case rel => exact ⟨j + 1, _, r, by omega, by omega, by go_num, rfl, by rw [HT.out, sumP_succ, ← HG.out]; exact HR.out, rfl⟩
      case measure => simp [intOf]; omega
    · obtain rfl : j = hi + 1 := by omega
      clear e1
      go_wp2
      go_ret
      exact ⟨bb, _, rfl, by rw [HE.out]; exact hb, rfl⟩
set_option maxHeartbeats 2000000 in
theorem foldT_any (ao : Option Addr) (cap : Nat) (xs : List Nat) (bo : Option Addr) (cb : Nat) (zs : List Nat) (w : World) (hc : FR w ao xs) (hl : xs.length ≤ 1048576) (hd : FR w bo zs) (hm : zs.length ≤ 1048576) :
    Calls Try.prog 43 #[.slice ao xs.length cap, .slice bo zs.length cb] w (GivesO (foldO (cl xs) (cl zs)) w) := by
  obtain ⟨i0, hi0, hz0, hs0, hb0⟩ := info_parts info32
  cases ht0 : inB (xs.length : Int) 1 128 with
  | false =>
    have hn : Hid (foldO (cl xs) (cl zs) = none) := by unfold Hid foldO; rw [isTr_cl, ht0]; rfl
    go_enter Try.func43, Try.ntmps43
    go_wp2_with (first | (go_at_call 63; refine (within_any _ _ _ _ (by first | assumption | rfl) _).mono ?_; rintro _ _ ⟨rfl, rfl⟩) | (go_at_call 69; refine (l00In_any _ _ _ _ (by first | assumption | rfl) _).mono ?_; rintro _ _ ⟨rfl, rfl⟩) | (go_at_call 71; refine (isCount_any _ _ (by first | assumption | rfl) _).mono ?_; rintro _ _ ⟨rfl, rfl⟩) | (go_at_call 79; refine (isFilter_any _ _ (by first | assumption | rfl) _).mono ?_; rintro _ _ ⟨rfl, rfl⟩) | (go_at_call 70; refine (isTrace_any _ _ _ _ (by first | assumption | rfl) _).mono ?_; rintro _ _ ⟨rfl, rfl⟩) | (go_at_call 68; refine (l03Is_any _ _ _ _ (by first | assumption | rfl) (by omega) _).mono ?_; rintro _ _ ⟨rfl, rfl⟩) | (go_at_call 64; refine (length32_any _ _ _ _).mono ?_; rintro _ _ ⟨rfl, rfl⟩) | (go_at_call 108; refine (isFinite64_any _ _ _ (by assumption) (by first | assumption | rfl) _).mono ?_; rintro _ _ ⟨rfl, n, rfl⟩) | (go_at_call 105; refine (isFinite_any _ _ _ (by first | assumption | exact is_ofInt _ _ | exact is_self) (by first | assumption | rfl) _).mono ?_; rintro _ _ ⟨rfl, n, rfl⟩) | (go_at_call 101; refine (l01Finite_any _ _ _ (by first | assumption | exact is_ofInt _ _ | exact is_self) (by first | assumption | rfl) _).mono ?_; rintro _ _ ⟨rfl, n, rfl⟩) | (refine wl_bin rfl rfl rfl rfl rfl (by first | assumption | exact is_ofInt _ _ | exact is_self) (by first | assumption | exact is_ofInt _ _ | exact is_self) ?_; intro r n hr) | (refine wl_cmp rfl rfl rfl rfl rfl (by first | assumption | exact is_ofInt _ _ | exact is_self) (by first | assumption | exact is_ofInt _ _ | exact is_self) (by first | assumption | rfl) ?_) | (refine wl_widen rfl rfl rfl (by first | exact rfl | kernel_rfl) (by kernel_rfl) (by first | assumption | exact is_ofInt _ _ | exact is_self) ?_; intro r n hr) | (refine wl_neg rfl rfl rfl (by first | assumption | exact is_ofInt _ _ | exact is_self) ?_; intro r hr))
    go_ret2
    exact givesO_none hn.out (Ext.refl _)
  | true =>
  cases ht1 : inB (zs.length : Int) 1 128 with
  | false =>
    have hn : Hid (foldO (cl xs) (cl zs) = none) := by unfold Hid foldO; rw [isTr_cl, ht0, isTr_cl, ht1]; rfl
    go_enter Try.func43, Try.ntmps43
    go_wp2_with (first | (go_at_call 63; refine (within_any _ _ _ _ (by first | assumption | rfl) _).mono ?_; rintro _ _ ⟨rfl, rfl⟩) | (go_at_call 69; refine (l00In_any _ _ _ _ (by first | assumption | rfl) _).mono ?_; rintro _ _ ⟨rfl, rfl⟩) | (go_at_call 71; refine (isCount_any _ _ (by first | assumption | rfl) _).mono ?_; rintro _ _ ⟨rfl, rfl⟩) | (go_at_call 79; refine (isFilter_any _ _ (by first | assumption | rfl) _).mono ?_; rintro _ _ ⟨rfl, rfl⟩) | (go_at_call 70; refine (isTrace_any _ _ _ _ (by first | assumption | rfl) _).mono ?_; rintro _ _ ⟨rfl, rfl⟩) | (go_at_call 68; refine (l03Is_any _ _ _ _ (by first | assumption | rfl) (by omega) _).mono ?_; rintro _ _ ⟨rfl, rfl⟩) | (go_at_call 64; refine (length32_any _ _ _ _).mono ?_; rintro _ _ ⟨rfl, rfl⟩) | (go_at_call 108; refine (isFinite64_any _ _ _ (by assumption) (by first | assumption | rfl) _).mono ?_; rintro _ _ ⟨rfl, n, rfl⟩) | (go_at_call 105; refine (isFinite_any _ _ _ (by first | assumption | exact is_ofInt _ _ | exact is_self) (by first | assumption | rfl) _).mono ?_; rintro _ _ ⟨rfl, n, rfl⟩) | (go_at_call 101; refine (l01Finite_any _ _ _ (by first | assumption | exact is_ofInt _ _ | exact is_self) (by first | assumption | rfl) _).mono ?_; rintro _ _ ⟨rfl, n, rfl⟩) | (refine wl_bin rfl rfl rfl rfl rfl (by first | assumption | exact is_ofInt _ _ | exact is_self) (by first | assumption | exact is_ofInt _ _ | exact is_self) ?_; intro r n hr) | (refine wl_cmp rfl rfl rfl rfl rfl (by first | assumption | exact is_ofInt _ _ | exact is_self) (by first | assumption | exact is_ofInt _ _ | exact is_self) (by first | assumption | rfl) ?_) | (refine wl_widen rfl rfl rfl (by first | exact rfl | kernel_rfl) (by kernel_rfl) (by first | assumption | exact is_ofInt _ _ | exact is_self) ?_; intro r n hr) | (refine wl_neg rfl rfl rfl (by first | assumption | exact is_ofInt _ _ | exact is_self) ?_; intro r hr))
    go_ret2
    exact givesO_none hn.out (Ext.refl _)
  | true =>
  have hI0 := inB_yes ht0
  have hI1 := inB_yes ht1
  cases ht2 : inB ((xs.length : Int) + (zs.length : Int) - 1) 1 128 with
  | false =>
    have hn : Hid (foldO (cl xs) (cl zs) = none) := by unfold Hid foldO; rw [isTr_cl, ht0, isTr_cl, ht1, cl_length, cl_length, ht2]; rfl
    go_enter Try.func43, Try.ntmps43
    go_wp2_with (first | (go_at_call 63; refine (within_any _ _ _ _ (by first | assumption | rfl) _).mono ?_; rintro _ _ ⟨rfl, rfl⟩) | (go_at_call 69; refine (l00In_any _ _ _ _ (by first | assumption | rfl) _).mono ?_; rintro _ _ ⟨rfl, rfl⟩) | (go_at_call 71; refine (isCount_any _ _ (by first | assumption | rfl) _).mono ?_; rintro _ _ ⟨rfl, rfl⟩) | (go_at_call 79; refine (isFilter_any _ _ (by first | assumption | rfl) _).mono ?_; rintro _ _ ⟨rfl, rfl⟩) | (go_at_call 70; refine (isTrace_any _ _ _ _ (by first | assumption | rfl) _).mono ?_; rintro _ _ ⟨rfl, rfl⟩) | (go_at_call 68; refine (l03Is_any _ _ _ _ (by first | assumption | rfl) (by omega) _).mono ?_; rintro _ _ ⟨rfl, rfl⟩) | (go_at_call 64; refine (length32_any _ _ _ _).mono ?_; rintro _ _ ⟨rfl, rfl⟩) | (go_at_call 108; refine (isFinite64_any _ _ _ (by assumption) (by first | assumption | rfl) _).mono ?_; rintro _ _ ⟨rfl, n, rfl⟩) | (go_at_call 105; refine (isFinite_any _ _ _ (by first | assumption | exact is_ofInt _ _ | exact is_self) (by first | assumption | rfl) _).mono ?_; rintro _ _ ⟨rfl, n, rfl⟩) | (go_at_call 101; refine (l01Finite_any _ _ _ (by first | assumption | exact is_ofInt _ _ | exact is_self) (by first | assumption | rfl) _).mono ?_; rintro _ _ ⟨rfl, n, rfl⟩) | (refine wl_bin rfl rfl rfl rfl rfl (by first | assumption | exact is_ofInt _ _ | exact is_self) (by first | assumption | exact is_ofInt _ _ | exact is_self) ?_; intro r n hr) | (refine wl_cmp rfl rfl rfl rfl rfl (by first | assumption | exact is_ofInt _ _ | exact is_self) (by first | assumption | exact is_ofInt _ _ | exact is_self) (by first | assumption | rfl) ?_) | (refine wl_widen rfl rfl rfl (by first | exact rfl | kernel_rfl) (by kernel_rfl) (by first | assumption | exact is_ofInt _ _ | exact is_self) ?_; intro r n hr) | (refine wl_neg rfl rfl rfl (by first | assumption | exact is_ofInt _ _ | exact is_self) ?_; intro r hr))
    go_ret2
    exact givesO_none hn.out (Ext.refl _)
  | true =>
  have hI2 := inB_yes ht2
  obtain ⟨n, hn⟩ : ∃ n : Nat, n + 1 = xs.length + zs.length := ⟨xs.length + zs.length - 1, by omega⟩
  have hs : Hid (foldO (cl xs) (cl zs) = some (tabP (foldAt (cl xs) (cl zs)) n)) := by unfold Hid foldO; rw [isTr_cl, ht0, isTr_cl, ht1, cl_length, cl_length, ht2, show xs.length + zs.length - 1 = n by omega]; rfl
  have hn1 : n + 1 ≤ xs.length + zs.length := by omega
  have hn2 : xs.length + zs.length ≤ n + 1 := by omega
  clear hn
  go_enter Try.func43, Try.ntmps43
  go_wp2_with (first | (at_make; refine wl_make1 (n := n) rfl Try.underlying22 hi0 hz0 hs0 hb0 rfl rfl rfl (by omega) (by omega) (by omega) ?_; intro w1 hO1 hE1) | (go_at_call 63; refine (within_any _ _ _ _ (by first | assumption | rfl) _).mono ?_; rintro _ _ ⟨rfl, rfl⟩) | (go_at_call 69; refine (l00In_any _ _ _ _ (by first | assumption | rfl) _).mono ?_; rintro _ _ ⟨rfl, rfl⟩) | (go_at_call 71; refine (isCount_any _ _ (by first | assumption | rfl) _).mono ?_; rintro _ _ ⟨rfl, rfl⟩) | (go_at_call 79; refine (isFilter_any _ _ (by first | assumption | rfl) _).mono ?_; rintro _ _ ⟨rfl, rfl⟩) | (go_at_call 70; refine (isTrace_any _ _ _ _ (by first | assumption | rfl) _).mono ?_; rintro _ _ ⟨rfl, rfl⟩) | (go_at_call 68; refine (l03Is_any _ _ _ _ (by first | assumption | rfl) (by omega) _).mono ?_; rintro _ _ ⟨rfl, rfl⟩) | (go_at_call 64; refine (length32_any _ _ _ _).mono ?_; rintro _ _ ⟨rfl, rfl⟩) | (go_at_call 108; refine (isFinite64_any _ _ _ (by assumption) (by first | assumption | rfl) _).mono ?_; rintro _ _ ⟨rfl, n, rfl⟩) | (go_at_call 105; refine (isFinite_any _ _ _ (by first | assumption | exact is_ofInt _ _ | exact is_self) (by first | assumption | rfl) _).mono ?_; rintro _ _ ⟨rfl, n, rfl⟩) | (go_at_call 101; refine (l01Finite_any _ _ _ (by first | assumption | exact is_ofInt _ _ | exact is_self) (by first | assumption | rfl) _).mono ?_; rintro _ _ ⟨rfl, n, rfl⟩))
  clear ht0 ht1 ht2
  have hg1 : w.heap.size ≤ w.heap.size := Nat.le_refl _
  go_loopw [35] (fun i wr => ∃ (k : Nat) (ys : List Nat), k ≤ n ∧ i = .int .i64 k ∧ OwnF wr w.heap.size (.slice (some ⟨w.heap.size, 0, none⟩) (n) (n)) ys ∧ Hid (ys.length = n) ∧ Hid (cl ys = tabP (foldAt (cl xs) (cl zs)) k ++ List.drop k (List.replicate (n) 0)) ∧ Ext w wr) (fun i _ => n - (intOf i).toNat)
  case atStart => exact ⟨0, _, Nat.zero_le _, rfl, hO1, by simp [Hid], set_start _ _ (cl_zeros _), hE1⟩
  case round =>
    obtain ⟨k, ys, hk, rfl, hO, hyl, hcl, hE⟩ := hrel
    clear hO1 hE1
    by_cases hlt : k < n
    · obtain ⟨hcur, hfz⟩ := OwnF.at' hO (k := k) (by rw [hyl.out]; exact hlt)
      go_wp2_with (first | (go_at_call 87; refine (folded_any _ _ _ _ _ _ k _ (hc.ext hE) (by omega) (by omega) (hd.ext hE) (by omega) (by omega) (by omega)).mono ?_; rintro _ _ ⟨r, n0, rfl, hr, rfl⟩; (have HR := Lib.hid hr; clear hr); (have HO := Lib.hid (hO.stored k r).1)))
      go_roundw
      case rel => exact ⟨k + 1, _, by omega, by go_num, HO.out, by unfold Hid; rw [List.length_set]; exact hyl.out, set_step hcl.out (by simp; omega) HR.out, (by repeat (first | assumption | exact Ext.refl _ | apply Ext.drewN | apply Ext.alloc | (refine Ext.setCell ?_ (by first | assumption | exact Nat.le_refl _) _)))⟩
      case measure => simp [intOf]; omega
    · go_wp2
      go_ret2
      obtain rfl : n = k := by omega
      exact givesO_some hs.out hE hO (set_done hcl.out (by simp))
set_option maxHeartbeats 2000000 in
theorem specFoldT_any (ao : Option Addr) (cap : Nat) (xs : List Nat) (bo : Option Addr) (cb : Nat) (zs : List Nat) (w : World) (hc : FR w ao xs) (hl : xs.length ≤ 1048576) (hd : FR w bo zs) (hm : zs.length ≤ 1048576) :
    Calls Try.prog 42 #[.slice ao xs.length cap, .slice bo zs.length cb] w (GivesO (foldO (cl xs) (cl zs)) w) := by
  cases ht0 : inB (xs.length : Int) 1 128 with
  | false =>
    have hn : Hid (foldO (cl xs) (cl zs) = none) := by unfold Hid foldO; rw [isTr_cl, ht0]; rfl
    go_enter Try.func42, Try.ntmps42
    go_wp2_with (first | (go_at_call 63; refine (within_any _ _ _ _ (by first | assumption | rfl) _).mono ?_; rintro _ _ ⟨rfl, rfl⟩) | (go_at_call 69; refine (l00In_any _ _ _ _ (by first | assumption | rfl) _).mono ?_; rintro _ _ ⟨rfl, rfl⟩) | (go_at_call 71; refine (isCount_any _ _ (by first | assumption | rfl) _).mono ?_; rintro _ _ ⟨rfl, rfl⟩) | (go_at_call 79; refine (isFilter_any _ _ (by first | assumption | rfl) _).mono ?_; rintro _ _ ⟨rfl, rfl⟩) | (go_at_call 70; refine (isTrace_any _ _ _ _ (by first | assumption | rfl) _).mono ?_; rintro _ _ ⟨rfl, rfl⟩) | (go_at_call 68; refine (l03Is_any _ _ _ _ (by first | assumption | rfl) (by omega) _).mono ?_; rintro _ _ ⟨rfl, rfl⟩) | (go_at_call 64; refine (length32_any _ _ _ _).mono ?_; rintro _ _ ⟨rfl, rfl⟩) | (go_at_call 108; refine (isFinite64_any _ _ _ (by assumption) (by first | assumption | rfl) _).mono ?_; rintro _ _ ⟨rfl, n, rfl⟩) | (go_at_call 105; refine (isFinite_any _ _ _ (by first | assumption | exact is_ofInt _ _ | exact is_self) (by first | assumption | rfl) _).mono ?_; rintro _ _ ⟨rfl, n, rfl⟩) | (go_at_call 101; refine (l01Finite_any _ _ _ (by first | assumption | exact is_ofInt _ _ | exact is_self) (by first | assumption | rfl) _).mono ?_; rintro _ _ ⟨rfl, n, rfl⟩) | (refine wl_bin rfl rfl rfl rfl rfl (by first | assumption | exact is_ofInt _ _ | exact is_self) (by first | assumption | exact is_ofInt _ _ | exact is_self) ?_; intro r n hr) | (refine wl_cmp rfl rfl rfl rfl rfl (by first | assumption | exact is_ofInt _ _ | exact is_self) (by first | assumption | exact is_ofInt _ _ | exact is_self) (by first | assumption | rfl) ?_) | (refine wl_widen rfl rfl rfl (by first | exact rfl | kernel_rfl) (by kernel_rfl) (by first | assumption | exact is_ofInt _ _ | exact is_self) ?_; intro r n hr) | (refine wl_neg rfl rfl rfl (by first | assumption | exact is_ofInt _ _ | exact is_self) ?_; intro r hr))
    go_ret2
    exact givesO_none hn.out (Ext.refl _)
  | true =>
  cases ht1 : inB (zs.length : Int) 1 128 with
  | false =>
    have hn : Hid (foldO (cl xs) (cl zs) = none) := by unfold Hid foldO; rw [isTr_cl, ht0, isTr_cl, ht1]; rfl
    go_enter Try.func42, Try.ntmps42
    go_wp2_with (first | (go_at_call 63; refine (within_any _ _ _ _ (by first | assumption | rfl) _).mono ?_; rintro _ _ ⟨rfl, rfl⟩) | (go_at_call 69; refine (l00In_any _ _ _ _ (by first | assumption | rfl) _).mono ?_; rintro _ _ ⟨rfl, rfl⟩) | (go_at_call 71; refine (isCount_any _ _ (by first | assumption | rfl) _).mono ?_; rintro _ _ ⟨rfl, rfl⟩) | (go_at_call 79; refine (isFilter_any _ _ (by first | assumption | rfl) _).mono ?_; rintro _ _ ⟨rfl, rfl⟩) | (go_at_call 70; refine (isTrace_any _ _ _ _ (by first | assumption | rfl) _).mono ?_; rintro _ _ ⟨rfl, rfl⟩) | (go_at_call 68; refine (l03Is_any _ _ _ _ (by first | assumption | rfl) (by omega) _).mono ?_; rintro _ _ ⟨rfl, rfl⟩) | (go_at_call 64; refine (length32_any _ _ _ _).mono ?_; rintro _ _ ⟨rfl, rfl⟩) | (go_at_call 108; refine (isFinite64_any _ _ _ (by assumption) (by first | assumption | rfl) _).mono ?_; rintro _ _ ⟨rfl, n, rfl⟩) | (go_at_call 105; refine (isFinite_any _ _ _ (by first | assumption | exact is_ofInt _ _ | exact is_self) (by first | assumption | rfl) _).mono ?_; rintro _ _ ⟨rfl, n, rfl⟩) | (go_at_call 101; refine (l01Finite_any _ _ _ (by first | assumption | exact is_ofInt _ _ | exact is_self) (by first | assumption | rfl) _).mono ?_; rintro _ _ ⟨rfl, n, rfl⟩) | (refine wl_bin rfl rfl rfl rfl rfl (by first | assumption | exact is_ofInt _ _ | exact is_self) (by first | assumption | exact is_ofInt _ _ | exact is_self) ?_; intro r n hr) | (refine wl_cmp rfl rfl rfl rfl rfl (by first | assumption | exact is_ofInt _ _ | exact is_self) (by first | assumption | exact is_ofInt _ _ | exact is_self) (by first | assumption | rfl) ?_) | (refine wl_widen rfl rfl rfl (by first | exact rfl | kernel_rfl) (by kernel_rfl) (by first | assumption | exact is_ofInt _ _ | exact is_self) ?_; intro r n hr) | (refine wl_neg rfl rfl rfl (by first | assumption | exact is_ofInt _ _ | exact is_self) ?_; intro r hr))
    go_ret2
    exact givesO_none hn.out (Ext.refl _)
  | true =>
  have hI0 := inB_yes ht0
  have hI1 := inB_yes ht1
  cases ht2 : inB ((xs.length : Int) + (zs.length : Int) - 1) 1 128 with
  | false =>
    have hI2 := inB_no ht2
    have e0 : (128 : Int) < (xs.length : Int) + (zs.length : Int) - 1 := by omega
    have hn : Hid (foldO (cl xs) (cl zs) = none) := by unfold Hid foldO; rw [isTr_cl, ht0, isTr_cl, ht1, cl_length, cl_length, ht2]; rfl
    go_enter Try.func42, Try.ntmps42
    go_wp2_with (first | (go_at_call 63; refine (within_any _ _ _ _ (by first | assumption | rfl) _).mono ?_; rintro _ _ ⟨rfl, rfl⟩) | (go_at_call 69; refine (l00In_any _ _ _ _ (by first | assumption | rfl) _).mono ?_; rintro _ _ ⟨rfl, rfl⟩) | (go_at_call 71; refine (isCount_any _ _ (by first | assumption | rfl) _).mono ?_; rintro _ _ ⟨rfl, rfl⟩) | (go_at_call 79; refine (isFilter_any _ _ (by first | assumption | rfl) _).mono ?_; rintro _ _ ⟨rfl, rfl⟩) | (go_at_call 70; refine (isTrace_any _ _ _ _ (by first | assumption | rfl) _).mono ?_; rintro _ _ ⟨rfl, rfl⟩) | (go_at_call 68; refine (l03Is_any _ _ _ _ (by first | assumption | rfl) (by omega) _).mono ?_; rintro _ _ ⟨rfl, rfl⟩) | (go_at_call 64; refine (length32_any _ _ _ _).mono ?_; rintro _ _ ⟨rfl, rfl⟩) | (go_at_call 108; refine (isFinite64_any _ _ _ (by assumption) (by first | assumption | rfl) _).mono ?_; rintro _ _ ⟨rfl, n, rfl⟩) | (go_at_call 105; refine (isFinite_any _ _ _ (by first | assumption | exact is_ofInt _ _ | exact is_self) (by first | assumption | rfl) _).mono ?_; rintro _ _ ⟨rfl, n, rfl⟩) | (go_at_call 101; refine (l01Finite_any _ _ _ (by first | assumption | exact is_ofInt _ _ | exact is_self) (by first | assumption | rfl) _).mono ?_; rintro _ _ ⟨rfl, n, rfl⟩) | (refine wl_bin rfl rfl rfl rfl rfl (by first | assumption | exact is_ofInt _ _ | exact is_self) (by first | assumption | exact is_ofInt _ _ | exact is_self) ?_; intro r n hr) | (refine wl_cmp rfl rfl rfl rfl rfl (by first | assumption | exact is_ofInt _ _ | exact is_self) (by first | assumption | exact is_ofInt _ _ | exact is_self) (by first | assumption | rfl) ?_) | (refine wl_widen rfl rfl rfl (by first | exact rfl | kernel_rfl) (by kernel_rfl) (by first | assumption | exact is_ofInt _ _ | exact is_self) ?_; intro r n hr) | (refine wl_neg rfl rfl rfl (by first | assumption | exact is_ofInt _ _ | exact is_self) ?_; intro r hr))
    go_ret2
    exact givesO_none hn.out (Ext.refl _)
  | true =>
  have hI2 := inB_yes ht2
  have e0 : ¬ (128 : Int) < (xs.length : Int) + (zs.length : Int) - 1 := by omega
  have hs : Hid (foldO (cl xs) (cl zs) = some (tabP (foldAt (cl xs) (cl zs)) (xs.length + zs.length - 1))) := by unfold Hid foldO; rw [isTr_cl, ht0, isTr_cl, ht1, cl_length, cl_length, ht2]; rfl
  go_enter Try.func42, Try.ntmps42
  go_wp2_with (first | (go_at_call 86; refine (l03Fold_any _ _ _ _ _ _ _ hc (by omega) (by omega) hd (by omega) (by omega)).mono ?_; rintro _ w1 ⟨v, ys, rfl, hE, hO, hcl⟩; (have HCL := Lib.hid hcl; clear hcl)) | (go_at_call 63; refine (within_any _ _ _ _ (by first | assumption | rfl) _).mono ?_; rintro _ _ ⟨rfl, rfl⟩) | (go_at_call 69; refine (l00In_any _ _ _ _ (by first | assumption | rfl) _).mono ?_; rintro _ _ ⟨rfl, rfl⟩) | (go_at_call 71; refine (isCount_any _ _ (by first | assumption | rfl) _).mono ?_; rintro _ _ ⟨rfl, rfl⟩) | (go_at_call 79; refine (isFilter_any _ _ (by first | assumption | rfl) _).mono ?_; rintro _ _ ⟨rfl, rfl⟩) | (go_at_call 70; refine (isTrace_any _ _ _ _ (by first | assumption | rfl) _).mono ?_; rintro _ _ ⟨rfl, rfl⟩) | (go_at_call 68; refine (l03Is_any _ _ _ _ (by first | assumption | rfl) (by omega) _).mono ?_; rintro _ _ ⟨rfl, rfl⟩) | (go_at_call 64; refine (length32_any _ _ _ _).mono ?_; rintro _ _ ⟨rfl, rfl⟩) | (go_at_call 108; refine (isFinite64_any _ _ _ (by assumption) (by first | assumption | rfl) _).mono ?_; rintro _ _ ⟨rfl, n, rfl⟩) | (go_at_call 105; refine (isFinite_any _ _ _ (by first | assumption | exact is_ofInt _ _ | exact is_self) (by first | assumption | rfl) _).mono ?_; rintro _ _ ⟨rfl, n, rfl⟩) | (go_at_call 101; refine (l01Finite_any _ _ _ (by first | assumption | exact is_ofInt _ _ | exact is_self) (by first | assumption | rfl) _).mono ?_; rintro _ _ ⟨rfl, n, rfl⟩))
  go_ret2
  exact givesO_some hs.out hE hO HCL.out
end Go.Proofs.Ytkodneoncancdaa
