/- ApplyFilter, TimesToeplitz: the reference's and the program's. -/
import Derived.Test.YtkodneoncancdaaFCross
namespace Go.Proofs.Ytkodneoncancdaa
open Go.RowKit

def applyG (l m : List Nat) (k i : Nat) : Nat := fop .mul .f32 (el m i) (el l (k - i))
def applyAt (l m : List Nat) (k : Nat) : Nat := sumP (applyG l m k) (min m.length (k + 1))
def applyO (l m : List Nat) : Option (List Nat) := if isTr l && isTr m then some (tabP (applyAt l m) l.length) else none
theorem applyO_len (l m : List Nat) : ((applyO l m).getD []).length ≤ 1048576 :=
  gate_len (n := 128) (fun h => by
    simp only [Bool.and_eq_true] at h
    rw [tabP_len]; exact isTr_le h.1) (by omega)
def timesG (l m : List Nat) (k i : Nat) : Nat := fop .mul .f32 (el l (k - i + (i - k))) (el m i)
def timesAt (l m : List Nat) (k : Nat) : Nat := sumP (timesG l m k) m.length
def isFl (l : List Nat) : Bool := inB (l.length : Int) 1 24
theorem isFl_cl (xs : List Nat) : isFl (cl xs) = inB (xs.length : Int) 1 24 := by unfold isFl; rw [cl_length]
def timesO (l m : List Nat) : Option (List Nat) := if isFl l && decide (l.length = m.length) then some (tabP (timesAt l m) m.length) else none
theorem timesO_len (l m : List Nat) : ((timesO l m).getD []).length ≤ 1048576 :=
  gate_len (n := 24) (fun h => by
    simp only [Bool.and_eq_true, decide_eq_true_eq] at h
    have := inB_yes h.1
    rw [tabP_len]; omega) (by omega)

set_option maxHeartbeats 2000000 in
theorem l05Apply_any (ao : Option Addr) (cap : Nat) (xs : List Nat) (bo : Option Addr) (cb : Nat) (zs : List Nat) (w : World) (hc : FR w ao xs) (hl : xs.length ≤ 128) (hl1 : 1 ≤ xs.length) (hd : FR w bo zs) (hm : zs.length ≤ 128) (hm1 : 1 ≤ zs.length) :
    Calls Try.prog 74 #[.slice ao xs.length cap, .slice bo zs.length cb] w (GivesS (tabP (applyAt (cl xs) (cl zs)) xs.length) w) := by
  obtain ⟨i0, hi0, hz0, hs0, hb0⟩ := info_parts info32
  obtain ⟨b, off, rfl, _⟩ := hc 0 (by omega)
  obtain ⟨b', off', rfl, _⟩ := hd 0 (by omega)
  go_enter Try.func74, Try.ntmps74
  go_wp2
  go_loopw [5, 12] (fun v i wr => ∃ (k : Nat) (ys : List Nat), k ≤ xs.length ∧ i = .int .i64 k ∧ OwnF wr w.heap.size v ys ∧ ys.length ≤ k ∧ Hid (cl ys = tabP (applyAt (cl xs) (cl zs)) k) ∧ Ext w wr) (fun _ i _ => xs.length - (intOf i).toNat)
  case atStart => exact ⟨0, [], Nat.zero_le _, rfl, (by first | exact OwnF.nil _ _ | exact ownF_empty _ _ (by repeat (first | assumption | exact Ext.refl _ | apply Ext.drewN | apply Ext.alloc | (refine Ext.setCell ?_ (by first | assumption | exact Nat.le_refl _) _)))), Nat.le_refl _, rfl, (by repeat (first | assumption | exact Ext.refl _ | apply Ext.drewN | apply Ext.alloc | (refine Ext.setCell ?_ (by first | assumption | exact Nat.le_refl _) _)))⟩
  case round =>
    obtain ⟨k, ys, hk, rfl, hO, hyl, hcl, hE⟩ := hrel
    by_cases hlt : k < xs.length
    · go_wp2
      obtain ⟨wo, rfl⟩ : ∃ wo : World, wo = wr := ⟨_, rfl⟩
      go_loopw [7, 8] (fun s i wr => ∃ (j n0 bb : Nat), j ≤ min zs.length (k + 1) ∧ i = .int .i64 j ∧ s = .float .f32 bb ∧ Is .f32 bb (sumP (applyG (cl xs) (cl zs) k) j) ∧ wr = wo.drewN n0) (fun _ i _ => zs.length - (intOf i).toNat)
      case atStart => exact ⟨0, 0, 0, Nat.zero_le _, rfl, rfl, rfl, rfl⟩
      case round =>
        obtain ⟨j, n0, bb, hj, rfl, rfl, hb, rfl⟩ := hrel
        by_cases hjk : j ≤ k
        · by_cases hjz : j < zs.length
          · have hcA := FR.cellW hd hjz
            have hcB := FR.cellW hc (show k - j < xs.length by omega)
            have hA := is_el hjz
            have hB := is_el (show k - j < xs.length by omega)
            go_wp2
            have e1 : IntKind.i64.wrap ((k : Int) - (j : Int)) = (k : Int) - (j : Int) := IntWalk.i64_in _ (by omega)
            have e2 : (0 : Int) ≤ (k : Int) - (j : Int) := by omega
            have e3 : ((k : Int) - (j : Int)).toNat = k - j := by omega
            have e4 : (j : Int) ≤ (k : Int) := by omega
            have e5 : (k : Int) - (j : Int) < (xs.length : Int) := by omega
            refine wp_region_mix (fun _ => Ext w) (fun i => false) (fun _ _ => True) (by kernel_rfl) (by kernel_rfl) (by kernel_rfl) (fun _ _ _ h => h.drewN _) (fun _ => hE.drewN _) (fun n0 => ?_)
            repeat (first
          | (refine lx_nil ?_; intro nq)
          | (refine lx_skip rfl ?_; go_simp)
          | (refine lx_move rfl rfl rfl rfl ?_; go_simp)
          | (refine lx_assign rfl rfl rfl rfl ?_; go_simp)
          | (refine lx_bin rfl rfl rfl rfl rfl rfl (by first | assumption | exact is_ofInt _ _ | exact is_self) (by first | assumption | exact is_ofInt _ _ | exact is_self) ?_; intro r hr; go_simp)
          | (refine lx_cmp rfl rfl rfl rfl rfl rfl (by first | assumption | exact is_ofInt _ _ | exact is_self) (by first | assumption | exact is_ofInt _ _ | exact is_self) (by first | assumption | rfl) ?_; go_simp)
          | (refine lx_widen rfl rfl rfl rfl (by first | exact rfl | kernel_rfl) (by kernel_rfl) (by first | assumption | exact is_ofInt _ _ | exact is_self) ?_; intro r hr; go_simp)
          | (refine lx_val rfl rfl (fun w' hw' => by go_simp; rfl) ?_; go_simp))
            have HR := Lib.hid hr
            clear hr e1 e2 e3 e4 e5
            go_wp2
            go_roundw
            case rel => exact ⟨j + 1, _, r, by omega, by go_num, rfl, by rw [sumP_succ]; exact HR.out, rfl⟩
            case measure => simp [intOf]; omega
          · have HB : Hid (Is .f32 bb (applyAt (cl xs) (cl zs) k)) := by
              unfold Hid applyAt; rw [cl_length, show min zs.length (k + 1) = j by omega]; exact hb
            clear hb
            go_wp2_with (first | (at_builtin; refine wl_append1 _ rfl Try.underlying22 hi0 hz0 hs0 hb0 rfl rfl rfl (by repeat (first | assumption | apply OwnF.drewN | apply OwnF.alloc)) (by repeat (first | assumption | exact Ext.refl _ | apply Ext.drewN | apply Ext.alloc | (refine Ext.setCell ?_ (by first | assumption | exact Nat.le_refl _) _))) (by omega) (by first | exact cell_new _ _ _ | exact cell_newD _ _ _ _) ?_; intro v2 w2 hO2 hE2))
            go_roundw
            case rel => exact ⟨k + 1, _, by omega, by go_num, (by repeat (first | assumption | apply OwnF.drewN | apply OwnF.alloc)), by simp; omega, app_step hcl.out HB.out, (by repeat (first | assumption | exact Ext.refl _ | apply Ext.drewN | apply Ext.alloc | (refine Ext.setCell ?_ (by first | assumption | exact Nat.le_refl _) _)))⟩
            case measure => simp [intOf]; omega
        · have HB : Hid (Is .f32 bb (applyAt (cl xs) (cl zs) k)) := by
            unfold Hid applyAt; rw [cl_length, show min zs.length (k + 1) = j by omega]; exact hb
          clear hb
          go_wp2_with (first | (at_builtin; refine wl_append1 _ rfl Try.underlying22 hi0 hz0 hs0 hb0 rfl rfl rfl (by repeat (first | assumption | apply OwnF.drewN | apply OwnF.alloc)) (by repeat (first | assumption | exact Ext.refl _ | apply Ext.drewN | apply Ext.alloc | (refine Ext.setCell ?_ (by first | assumption | exact Nat.le_refl _) _))) (by omega) (by first | exact cell_new _ _ _ | exact cell_newD _ _ _ _) ?_; intro v2 w2 hO2 hE2))
          go_roundw
          case rel => exact ⟨k + 1, _, by omega, by go_num, (by repeat (first | assumption | apply OwnF.drewN | apply OwnF.alloc)), by simp; omega, app_step hcl.out HB.out, (by repeat (first | assumption | exact Ext.refl _ | apply Ext.drewN | apply Ext.alloc | (refine Ext.setCell ?_ (by first | assumption | exact Nat.le_refl _) _)))⟩
          case measure => simp [intOf]; omega
    · go_wp2
      go_ret
      obtain rfl : xs.length = k := by omega
      exact ⟨_, ys, rfl, hE, hO, hcl.out⟩
set_option maxHeartbeats 2000000 in
theorem applied_any (ao : Option Addr) (cap : Nat) (xs : List Nat) (bo : Option Addr) (cb : Nat) (zs : List Nat) (w : World) (hc : FR w ao xs) (hl : xs.length ≤ 128) (hl1 : 1 ≤ xs.length) (hd : FR w bo zs) (hm : zs.length ≤ 128) (hm1 : 1 ≤ zs.length) :
    Calls Try.prog 75 #[.slice ao xs.length cap, .slice bo zs.length cb] w (GivesS (tabP (applyAt (cl xs) (cl zs)) xs.length) w) := by
  obtain ⟨i0, hi0, hz0, hs0, hb0⟩ := info_parts info32
  obtain ⟨b, off, rfl, _⟩ := hc 0 (by omega)
  obtain ⟨b', off', rfl, _⟩ := hd 0 (by omega)
  go_enter Try.func75, Try.ntmps75
  go_wp2_with (first | (at_make; refine wl_make1 rfl Try.underlying22 hi0 hz0 hs0 hb0 rfl rfl rfl rfl rfl (by omega) ?_; intro w1 hO1 hE1))
  have hg1 : w.heap.size ≤ w.heap.size := Nat.le_refl _
  go_loopw [13] (fun i wr => ∃ (k : Nat) (ys : List Nat), k ≤ xs.length ∧ i = .int .i64 k ∧ OwnF wr w.heap.size (.slice (some ⟨w.heap.size, 0, none⟩) (xs.length) (xs.length)) ys ∧ Hid (ys.length = xs.length) ∧ Hid (cl ys = tabP (applyAt (cl xs) (cl zs)) k ++ List.drop k (List.replicate (xs.length) 0)) ∧ Ext w wr) (fun i _ => xs.length - (intOf i).toNat)
  case atStart => exact ⟨0, _, Nat.zero_le _, rfl, hO1, by simp [Hid], set_start _ _ (cl_zeros _), hE1⟩
  case round =>
    obtain ⟨k, ys, hk, rfl, hO, hyl, hcl, hE⟩ := hrel
    clear hO1 hE1
    by_cases hlt : k < xs.length
    · have hin := inner_start (applyG (cl xs) (cl zs) k) hcl.out hlt
      go_wp2
      obtain ⟨wo, rfl⟩ : ∃ wo : World, wo = wr := ⟨_, rfl⟩
      go_loopw [7] (fun i wr => ∃ (j : Nat) (ys : List Nat), j ≤ min zs.length (k + 1) ∧ i = .int .i64 j ∧ OwnF wr w.heap.size (.slice (some ⟨w.heap.size, 0, none⟩) (xs.length) (xs.length)) ys ∧ Hid (cl ys = tabP (applyAt (cl xs) (cl zs)) k ++ (sumP (applyG (cl xs) (cl zs) k) j :: List.replicate (xs.length - (k + 1)) 0)) ∧ Ext w wr) (fun i _ => zs.length - (intOf i).toNat)
      case atStart => exact ⟨0, ys, Nat.zero_le _, rfl, hO, hin, hE⟩
      case round =>
        clear hO hyl hcl hE hin
        obtain ⟨j, ys, hj, rfl, hO, hcl, hE⟩ := hrel
        by_cases hjk : j ≤ k
        · by_cases hjz : j < zs.length
          · have hcA := FR.cellW hd hjz
            have hcB := FR.cellW hc (show k - j < xs.length by omega)
            have hA := is_el hjz
            have hB := is_el (show k - j < xs.length by omega)
            have hC := inner_read hcl.out
            have hlen := inner_len hcl.out hlt
            obtain ⟨hcur, hfz⟩ := OwnF.at' hO (k := k) (by omega)
            clear hlen
            go_wp2
            have e1 : IntKind.i64.wrap ((k : Int) - (j : Int)) = (k : Int) - (j : Int) := IntWalk.i64_in _ (by omega)
            have e2 : (0 : Int) ≤ (k : Int) - (j : Int) := by omega
            have e3 : ((k : Int) - (j : Int)).toNat = k - j := by omega
            have e4 : (j : Int) ≤ (k : Int) := by omega
            have e5 : (k : Int) - (j : Int) < (xs.length : Int) := by omega
            refine wp_region_mix (ownU [3] (Drawn wr) (Ext w)) (fun i => i == 17) (fun _ _ => True) (by kernel_rfl) (by kernel_rfl) (by kernel_rfl) (ownU_drew (drawn_more _) (fun _ _ h => h.drewN _)) (ownU_all (drawn_self _) hE) (fun n0 => ?_)
            repeat (first
          | (refine lx_nil ?_; intro nq)
          | (refine lx_skip rfl ?_; go_simp)
          | (refine lx_move rfl rfl rfl rfl ?_; go_simp)
          | (refine lx_assign rfl rfl rfl rfl ?_; go_simp)
          | (refine lx_bin rfl rfl rfl rfl rfl rfl (by first | assumption | exact is_ofInt _ _ | exact is_self) (by first | assumption | exact is_ofInt _ _ | exact is_self) ?_; intro r hr; go_simp)
          | (refine lx_cmp rfl rfl rfl rfl rfl rfl (by first | assumption | exact is_ofInt _ _ | exact is_self) (by first | assumption | exact is_ofInt _ _ | exact is_self) (by first | assumption | rfl) ?_; go_simp)
          | (refine lx_widen rfl rfl rfl rfl (by first | exact rfl | kernel_rfl) (by kernel_rfl) (by first | assumption | exact is_ofInt _ _ | exact is_self) ?_; intro r hr; go_simp)
          | (refine lx_val rfl rfl (fun w' hw' => by (have hw2 : Ext w w' := hw'); go_simp; rfl) ?_; go_simp)
          | (refine lx_val rfl rfl (fun w' hw' => by (obtain ⟨mm, rfl⟩ : Drawn wr w' := hw'); go_simp; rfl) ?_; go_simp))
            refine lx_effS rfl rfl (fun n => by go_simp; rfl) (fun n => ownU_aft (by kernel_rfl) ((hE.drewN _).setCell hg1 _)) (fun n1 => ?_)
            have hst := hO.stored k r
            have HO := Lib.hid hst.1
            have HR := Lib.hid hr
            clear hst hr
            go_simp
            repeat (first
          | (refine lx_nil ?_; intro nq)
          | (refine lx_skip rfl ?_; go_simp)
          | (refine lx_move rfl rfl rfl rfl ?_; go_simp)
          | (refine lx_assign rfl rfl rfl rfl ?_; go_simp)
          | (refine lx_bin rfl rfl rfl rfl rfl rfl (by first | assumption | exact is_ofInt _ _ | exact is_self) (by first | assumption | exact is_ofInt _ _ | exact is_self) ?_; intro r hr; go_simp)
          | (refine lx_cmp rfl rfl rfl rfl rfl rfl (by first | assumption | exact is_ofInt _ _ | exact is_self) (by first | assumption | exact is_ofInt _ _ | exact is_self) (by first | assumption | rfl) ?_; go_simp)
          | (refine lx_widen rfl rfl rfl rfl (by first | exact rfl | kernel_rfl) (by kernel_rfl) (by first | assumption | exact is_ofInt _ _ | exact is_self) ?_; intro r hr; go_simp)
          | (refine lx_val rfl rfl (fun w' hw' => by (have hw2 : Ext w w' := hw'); go_simp; rfl) ?_; go_simp)
          | (refine lx_val rfl rfl (fun w' hw' => by (obtain ⟨mm, rfl⟩ : Drawn wr w' := hw'); go_simp; rfl) ?_; go_simp))
            clear e1 e2 e3 e4 e5
            go_wp2
            go_roundw
            case rel => exact ⟨j + 1, _, by omega, by go_num, HO.out, inner_step hcl.out (by rw [sumP_succ]; exact HR.out), (by repeat (first | assumption | exact Ext.refl _ | apply Ext.drewN | apply Ext.alloc | (refine Ext.setCell ?_ (by first | assumption | exact Nat.le_refl _) _)))⟩
            case measure => simp [intOf]; omega
          · have hlen := Lib.hid (inner_len hcl.out hlt)
            have hin := inner_done hcl.out (show sumP (applyG (cl xs) (cl zs) k) j = applyAt (cl xs) (cl zs) k by unfold applyAt; rw [cl_length, show min zs.length (k + 1) = j by omega])
            go_wp2
            go_roundw
            case rel => exact ⟨k + 1, _, by omega, by go_num, hO, hlen, hin, (by repeat (first | assumption | exact Ext.refl _ | apply Ext.drewN | apply Ext.alloc | (refine Ext.setCell ?_ (by first | assumption | exact Nat.le_refl _) _)))⟩
            case measure => simp [intOf]; omega
        · have hlen := Lib.hid (inner_len hcl.out hlt)
          have hin := inner_done hcl.out (show sumP (applyG (cl xs) (cl zs) k) j = applyAt (cl xs) (cl zs) k by unfold applyAt; rw [cl_length, show min zs.length (k + 1) = j by omega])
          go_wp2
          go_roundw
          case rel => exact ⟨k + 1, _, by omega, by go_num, hO, hlen, hin, (by repeat (first | assumption | exact Ext.refl _ | apply Ext.drewN | apply Ext.alloc | (refine Ext.setCell ?_ (by first | assumption | exact Nat.le_refl _) _)))⟩
          case measure => simp [intOf]; omega
    · go_wp2
      go_ret
      obtain rfl : xs.length = k := by omega
      exact ⟨_, _, rfl, hE, hO, set_done hcl.out (by simp)⟩
set_option maxHeartbeats 1000000 in
theorem specApply_any (ao : Option Addr) (cap : Nat) (xs : List Nat) (bo : Option Addr) (cb : Nat) (zs : List Nat) (w : World) (hc : FR w ao xs) (hl : xs.length ≤ 1048576) (hd : FR w bo zs) (hm : zs.length ≤ 1048576) :
    Calls Try.prog 31 #[.slice ao xs.length cap, .slice bo zs.length cb] w (GivesO (applyO (cl xs) (cl zs)) w) := by
  cases ht0 : inB (xs.length : Int) 1 128 with
  | false =>
    have hn : Hid (applyO (cl xs) (cl zs) = none) := by unfold Hid applyO; rw [isTr_cl, ht0]; rfl
    go_enter Try.func31, Try.ntmps31
    go_wp2_with (first | (go_at_call 63; refine (within_any _ _ _ _ (by first | assumption | rfl) _).mono ?_; rintro _ _ ⟨rfl, rfl⟩) | (go_at_call 69; refine (l00In_any _ _ _ _ (by first | assumption | rfl) _).mono ?_; rintro _ _ ⟨rfl, rfl⟩) | (go_at_call 71; refine (isCount_any _ _ (by first | assumption | rfl) _).mono ?_; rintro _ _ ⟨rfl, rfl⟩) | (go_at_call 79; refine (isFilter_any _ _ (by first | assumption | rfl) _).mono ?_; rintro _ _ ⟨rfl, rfl⟩) | (go_at_call 70; refine (isTrace_any _ _ _ _ (by first | assumption | rfl) _).mono ?_; rintro _ _ ⟨rfl, rfl⟩) | (go_at_call 68; refine (l03Is_any _ _ _ _ (by first | assumption | rfl) (by omega) _).mono ?_; rintro _ _ ⟨rfl, rfl⟩) | (go_at_call 64; refine (length32_any _ _ _ _).mono ?_; rintro _ _ ⟨rfl, rfl⟩) | (go_at_call 108; refine (isFinite64_any _ _ _ (by assumption) (by first | assumption | rfl) _).mono ?_; rintro _ _ ⟨rfl, n, rfl⟩) | (go_at_call 105; refine (isFinite_any _ _ _ (by first | assumption | exact is_ofInt _ _ | exact is_self) (by first | assumption | rfl) _).mono ?_; rintro _ _ ⟨rfl, n, rfl⟩) | (go_at_call 101; refine (l01Finite_any _ _ _ (by first | assumption | exact is_ofInt _ _ | exact is_self) (by first | assumption | rfl) _).mono ?_; rintro _ _ ⟨rfl, n, rfl⟩) | (refine wl_bin rfl rfl rfl rfl rfl (by first | assumption | exact is_ofInt _ _ | exact is_self) (by first | assumption | exact is_ofInt _ _ | exact is_self) ?_; intro r n hr) | (refine wl_cmp rfl rfl rfl rfl rfl (by first | assumption | exact is_ofInt _ _ | exact is_self) (by first | assumption | exact is_ofInt _ _ | exact is_self) (by first | assumption | rfl) ?_) | (refine wl_widen rfl rfl rfl (by first | exact rfl | kernel_rfl) (by kernel_rfl) (by first | assumption | exact is_ofInt _ _ | exact is_self) ?_; intro r n hr) | (refine wl_neg rfl rfl rfl (by first | assumption | exact is_ofInt _ _ | exact is_self) ?_; intro r hr))
    go_ret2
    exact givesO_none hn.out (Ext.refl _)
  | true =>
  cases ht1 : inB (zs.length : Int) 1 128 with
  | false =>
    have hn : Hid (applyO (cl xs) (cl zs) = none) := by unfold Hid applyO; rw [isTr_cl, ht0, isTr_cl, ht1]; first | rfl | (rw [cl_length]; rfl)
    go_enter Try.func31, Try.ntmps31
    go_wp2_with (first | (go_at_call 63; refine (within_any _ _ _ _ (by first | assumption | rfl) _).mono ?_; rintro _ _ ⟨rfl, rfl⟩) | (go_at_call 69; refine (l00In_any _ _ _ _ (by first | assumption | rfl) _).mono ?_; rintro _ _ ⟨rfl, rfl⟩) | (go_at_call 71; refine (isCount_any _ _ (by first | assumption | rfl) _).mono ?_; rintro _ _ ⟨rfl, rfl⟩) | (go_at_call 79; refine (isFilter_any _ _ (by first | assumption | rfl) _).mono ?_; rintro _ _ ⟨rfl, rfl⟩) | (go_at_call 70; refine (isTrace_any _ _ _ _ (by first | assumption | rfl) _).mono ?_; rintro _ _ ⟨rfl, rfl⟩) | (go_at_call 68; refine (l03Is_any _ _ _ _ (by first | assumption | rfl) (by omega) _).mono ?_; rintro _ _ ⟨rfl, rfl⟩) | (go_at_call 64; refine (length32_any _ _ _ _).mono ?_; rintro _ _ ⟨rfl, rfl⟩) | (go_at_call 108; refine (isFinite64_any _ _ _ (by assumption) (by first | assumption | rfl) _).mono ?_; rintro _ _ ⟨rfl, n, rfl⟩) | (go_at_call 105; refine (isFinite_any _ _ _ (by first | assumption | exact is_ofInt _ _ | exact is_self) (by first | assumption | rfl) _).mono ?_; rintro _ _ ⟨rfl, n, rfl⟩) | (go_at_call 101; refine (l01Finite_any _ _ _ (by first | assumption | exact is_ofInt _ _ | exact is_self) (by first | assumption | rfl) _).mono ?_; rintro _ _ ⟨rfl, n, rfl⟩) | (refine wl_bin rfl rfl rfl rfl rfl (by first | assumption | exact is_ofInt _ _ | exact is_self) (by first | assumption | exact is_ofInt _ _ | exact is_self) ?_; intro r n hr) | (refine wl_cmp rfl rfl rfl rfl rfl (by first | assumption | exact is_ofInt _ _ | exact is_self) (by first | assumption | exact is_ofInt _ _ | exact is_self) (by first | assumption | rfl) ?_) | (refine wl_widen rfl rfl rfl (by first | exact rfl | kernel_rfl) (by kernel_rfl) (by first | assumption | exact is_ofInt _ _ | exact is_self) ?_; intro r n hr) | (refine wl_neg rfl rfl rfl (by first | assumption | exact is_ofInt _ _ | exact is_self) ?_; intro r hr))
    go_ret2
    exact givesO_none hn.out (Ext.refl _)
  | true =>
  have hs : Hid (applyO (cl xs) (cl zs) = some (tabP (applyAt (cl xs) (cl zs)) xs.length)) := by unfold Hid applyO; rw [isTr_cl, ht0, isTr_cl, ht1]; first | rfl | (rw [cl_length]; rfl)
  have hI0 := inB_yes ht0
  have hI1 := inB_yes ht1
  go_enter Try.func31, Try.ntmps31
  go_wp2_with (first | (go_at_call 74; refine (l05Apply_any _ _ _ _ _ _ _ hc (by omega) (by omega) hd (by omega) (by omega)).mono ?_; rintro _ w1 ⟨v, ys, rfl, hE, hO, hcl⟩; (have HCL := Lib.hid hcl; clear hcl)) | (go_at_call 63; refine (within_any _ _ _ _ (by first | assumption | rfl) _).mono ?_; rintro _ _ ⟨rfl, rfl⟩) | (go_at_call 69; refine (l00In_any _ _ _ _ (by first | assumption | rfl) _).mono ?_; rintro _ _ ⟨rfl, rfl⟩) | (go_at_call 71; refine (isCount_any _ _ (by first | assumption | rfl) _).mono ?_; rintro _ _ ⟨rfl, rfl⟩) | (go_at_call 79; refine (isFilter_any _ _ (by first | assumption | rfl) _).mono ?_; rintro _ _ ⟨rfl, rfl⟩) | (go_at_call 70; refine (isTrace_any _ _ _ _ (by first | assumption | rfl) _).mono ?_; rintro _ _ ⟨rfl, rfl⟩) | (go_at_call 68; refine (l03Is_any _ _ _ _ (by first | assumption | rfl) (by omega) _).mono ?_; rintro _ _ ⟨rfl, rfl⟩) | (go_at_call 64; refine (length32_any _ _ _ _).mono ?_; rintro _ _ ⟨rfl, rfl⟩) | (go_at_call 108; refine (isFinite64_any _ _ _ (by assumption) (by first | assumption | rfl) _).mono ?_; rintro _ _ ⟨rfl, n, rfl⟩) | (go_at_call 105; refine (isFinite_any _ _ _ (by first | assumption | exact is_ofInt _ _ | exact is_self) (by first | assumption | rfl) _).mono ?_; rintro _ _ ⟨rfl, n, rfl⟩) | (go_at_call 101; refine (l01Finite_any _ _ _ (by first | assumption | exact is_ofInt _ _ | exact is_self) (by first | assumption | rfl) _).mono ?_; rintro _ _ ⟨rfl, n, rfl⟩) | (refine wl_bin rfl rfl rfl rfl rfl (by first | assumption | exact is_ofInt _ _ | exact is_self) (by first | assumption | exact is_ofInt _ _ | exact is_self) ?_; intro r n hr) | (refine wl_cmp rfl rfl rfl rfl rfl (by first | assumption | exact is_ofInt _ _ | exact is_self) (by first | assumption | exact is_ofInt _ _ | exact is_self) (by first | assumption | rfl) ?_) | (refine wl_widen rfl rfl rfl (by first | exact rfl | kernel_rfl) (by kernel_rfl) (by first | assumption | exact is_ofInt _ _ | exact is_self) ?_; intro r n hr) | (refine wl_neg rfl rfl rfl (by first | assumption | exact is_ofInt _ _ | exact is_self) ?_; intro r hr))
  go_ret2
  exact givesO_some hs.out hE hO HCL.out
set_option maxHeartbeats 1000000 in
theorem apply_any (ao : Option Addr) (cap : Nat) (xs : List Nat) (bo : Option Addr) (cb : Nat) (zs : List Nat) (w : World) (hc : FR w ao xs) (hl : xs.length ≤ 1048576) (hd : FR w bo zs) (hm : zs.length ≤ 1048576) :
    Calls Try.prog 32 #[.slice ao xs.length cap, .slice bo zs.length cb] w (GivesO (applyO (cl xs) (cl zs)) w) := by
  cases ht0 : inB (xs.length : Int) 1 128 with
  | false =>
    have hn : Hid (applyO (cl xs) (cl zs) = none) := by unfold Hid applyO; rw [isTr_cl, ht0]; rfl
    go_enter Try.func32, Try.ntmps32
    go_wp2_with (first | (go_at_call 63; refine (within_any _ _ _ _ (by first | assumption | rfl) _).mono ?_; rintro _ _ ⟨rfl, rfl⟩) | (go_at_call 69; refine (l00In_any _ _ _ _ (by first | assumption | rfl) _).mono ?_; rintro _ _ ⟨rfl, rfl⟩) | (go_at_call 71; refine (isCount_any _ _ (by first | assumption | rfl) _).mono ?_; rintro _ _ ⟨rfl, rfl⟩) | (go_at_call 79; refine (isFilter_any _ _ (by first | assumption | rfl) _).mono ?_; rintro _ _ ⟨rfl, rfl⟩) | (go_at_call 70; refine (isTrace_any _ _ _ _ (by first | assumption | rfl) _).mono ?_; rintro _ _ ⟨rfl, rfl⟩) | (go_at_call 68; refine (l03Is_any _ _ _ _ (by first | assumption | rfl) (by omega) _).mono ?_; rintro _ _ ⟨rfl, rfl⟩) | (go_at_call 64; refine (length32_any _ _ _ _).mono ?_; rintro _ _ ⟨rfl, rfl⟩) | (go_at_call 108; refine (isFinite64_any _ _ _ (by assumption) (by first | assumption | rfl) _).mono ?_; rintro _ _ ⟨rfl, n, rfl⟩) | (go_at_call 105; refine (isFinite_any _ _ _ (by first | assumption | exact is_ofInt _ _ | exact is_self) (by first | assumption | rfl) _).mono ?_; rintro _ _ ⟨rfl, n, rfl⟩) | (go_at_call 101; refine (l01Finite_any _ _ _ (by first | assumption | exact is_ofInt _ _ | exact is_self) (by first | assumption | rfl) _).mono ?_; rintro _ _ ⟨rfl, n, rfl⟩) | (refine wl_bin rfl rfl rfl rfl rfl (by first | assumption | exact is_ofInt _ _ | exact is_self) (by first | assumption | exact is_ofInt _ _ | exact is_self) ?_; intro r n hr) | (refine wl_cmp rfl rfl rfl rfl rfl (by first | assumption | exact is_ofInt _ _ | exact is_self) (by first | assumption | exact is_ofInt _ _ | exact is_self) (by first | assumption | rfl) ?_) | (refine wl_widen rfl rfl rfl (by first | exact rfl | kernel_rfl) (by kernel_rfl) (by first | assumption | exact is_ofInt _ _ | exact is_self) ?_; intro r n hr) | (refine wl_neg rfl rfl rfl (by first | assumption | exact is_ofInt _ _ | exact is_self) ?_; intro r hr))
    go_ret2
    exact givesO_none hn.out (Ext.refl _)
  | true =>
  cases ht1 : inB (zs.length : Int) 1 128 with
  | false =>
    have hn : Hid (applyO (cl xs) (cl zs) = none) := by unfold Hid applyO; rw [isTr_cl, ht0, isTr_cl, ht1]; first | rfl | (rw [cl_length]; rfl)
    go_enter Try.func32, Try.ntmps32
    go_wp2_with (first | (go_at_call 63; refine (within_any _ _ _ _ (by first | assumption | rfl) _).mono ?_; rintro _ _ ⟨rfl, rfl⟩) | (go_at_call 69; refine (l00In_any _ _ _ _ (by first | assumption | rfl) _).mono ?_; rintro _ _ ⟨rfl, rfl⟩) | (go_at_call 71; refine (isCount_any _ _ (by first | assumption | rfl) _).mono ?_; rintro _ _ ⟨rfl, rfl⟩) | (go_at_call 79; refine (isFilter_any _ _ (by first | assumption | rfl) _).mono ?_; rintro _ _ ⟨rfl, rfl⟩) | (go_at_call 70; refine (isTrace_any _ _ _ _ (by first | assumption | rfl) _).mono ?_; rintro _ _ ⟨rfl, rfl⟩) | (go_at_call 68; refine (l03Is_any _ _ _ _ (by first | assumption | rfl) (by omega) _).mono ?_; rintro _ _ ⟨rfl, rfl⟩) | (go_at_call 64; refine (length32_any _ _ _ _).mono ?_; rintro _ _ ⟨rfl, rfl⟩) | (go_at_call 108; refine (isFinite64_any _ _ _ (by assumption) (by first | assumption | rfl) _).mono ?_; rintro _ _ ⟨rfl, n, rfl⟩) | (go_at_call 105; refine (isFinite_any _ _ _ (by first | assumption | exact is_ofInt _ _ | exact is_self) (by first | assumption | rfl) _).mono ?_; rintro _ _ ⟨rfl, n, rfl⟩) | (go_at_call 101; refine (l01Finite_any _ _ _ (by first | assumption | exact is_ofInt _ _ | exact is_self) (by first | assumption | rfl) _).mono ?_; rintro _ _ ⟨rfl, n, rfl⟩) | (refine wl_bin rfl rfl rfl rfl rfl (by first | assumption | exact is_ofInt _ _ | exact is_self) (by first | assumption | exact is_ofInt _ _ | exact is_self) ?_; intro r n hr) | (refine wl_cmp rfl rfl rfl rfl rfl (by first | assumption | exact is_ofInt _ _ | exact is_self) (by first | assumption | exact is_ofInt _ _ | exact is_self) (by first | assumption | rfl) ?_) | (refine wl_widen rfl rfl rfl (by first | exact rfl | kernel_rfl) (by kernel_rfl) (by first | assumption | exact is_ofInt _ _ | exact is_self) ?_; intro r n hr) | (refine wl_neg rfl rfl rfl (by first | assumption | exact is_ofInt _ _ | exact is_self) ?_; intro r hr))
    go_ret2
    exact givesO_none hn.out (Ext.refl _)
  | true =>
  have hs : Hid (applyO (cl xs) (cl zs) = some (tabP (applyAt (cl xs) (cl zs)) xs.length)) := by unfold Hid applyO; rw [isTr_cl, ht0, isTr_cl, ht1]; first | rfl | (rw [cl_length]; rfl)
  have hI0 := inB_yes ht0
  have hI1 := inB_yes ht1
  go_enter Try.func32, Try.ntmps32
  go_wp2_with (first | (go_at_call 75; refine (applied_any _ _ _ _ _ _ _ hc (by omega) (by omega) hd (by omega) (by omega)).mono ?_; rintro _ w1 ⟨v, ys, rfl, hE, hO, hcl⟩; (have HCL := Lib.hid hcl; clear hcl)) | (go_at_call 63; refine (within_any _ _ _ _ (by first | assumption | rfl) _).mono ?_; rintro _ _ ⟨rfl, rfl⟩) | (go_at_call 69; refine (l00In_any _ _ _ _ (by first | assumption | rfl) _).mono ?_; rintro _ _ ⟨rfl, rfl⟩) | (go_at_call 71; refine (isCount_any _ _ (by first | assumption | rfl) _).mono ?_; rintro _ _ ⟨rfl, rfl⟩) | (go_at_call 79; refine (isFilter_any _ _ (by first | assumption | rfl) _).mono ?_; rintro _ _ ⟨rfl, rfl⟩) | (go_at_call 70; refine (isTrace_any _ _ _ _ (by first | assumption | rfl) _).mono ?_; rintro _ _ ⟨rfl, rfl⟩) | (go_at_call 68; refine (l03Is_any _ _ _ _ (by first | assumption | rfl) (by omega) _).mono ?_; rintro _ _ ⟨rfl, rfl⟩) | (go_at_call 64; refine (length32_any _ _ _ _).mono ?_; rintro _ _ ⟨rfl, rfl⟩) | (go_at_call 108; refine (isFinite64_any _ _ _ (by assumption) (by first | assumption | rfl) _).mono ?_; rintro _ _ ⟨rfl, n, rfl⟩) | (go_at_call 105; refine (isFinite_any _ _ _ (by first | assumption | exact is_ofInt _ _ | exact is_self) (by first | assumption | rfl) _).mono ?_; rintro _ _ ⟨rfl, n, rfl⟩) | (go_at_call 101; refine (l01Finite_any _ _ _ (by first | assumption | exact is_ofInt _ _ | exact is_self) (by first | assumption | rfl) _).mono ?_; rintro _ _ ⟨rfl, n, rfl⟩) | (refine wl_bin rfl rfl rfl rfl rfl (by first | assumption | exact is_ofInt _ _ | exact is_self) (by first | assumption | exact is_ofInt _ _ | exact is_self) ?_; intro r n hr) | (refine wl_cmp rfl rfl rfl rfl rfl (by first | assumption | exact is_ofInt _ _ | exact is_self) (by first | assumption | exact is_ofInt _ _ | exact is_self) (by first | assumption | rfl) ?_) | (refine wl_widen rfl rfl rfl (by first | exact rfl | kernel_rfl) (by kernel_rfl) (by first | assumption | exact is_ofInt _ _ | exact is_self) ?_; intro r n hr) | (refine wl_neg rfl rfl rfl (by first | assumption | exact is_ofInt _ _ | exact is_self) ?_; intro r hr))
  go_ret2
  exact givesO_some hs.out hE hO HCL.out
end Go.Proofs.Ytkodneoncancdaa
