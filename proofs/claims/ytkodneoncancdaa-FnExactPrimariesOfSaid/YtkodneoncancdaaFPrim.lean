/- PrimariesOf: the reference's and the program's. -/
import Derived.Test.YtkodneoncancdaaAre
import Derived.Test.YtkodneoncancdaaFMirror
namespace Go.Proofs.Ytkodneoncancdaa
open Go.RowKit
set_option linter.unusedVariables false

/-- What has gone through k boundaries. -/
def primT (l : List Nat) : Nat → Nat
  | 0 => canon .f32 1065353216
  | k + 1 => fop .mul .f32 (primT l k) (fop .sub .f32 (canon .f32 1065353216) (fop .mul .f32 (el l k) (el l k)))
def primAt (l : List Nat) (k : Nat) : Nat := if k < l.length then fop .mul .f32 (el l k) (primT l k) else 0
def primO (l : List Nat) (n : Int) : Option (List Nat) := if areB l && inB n 1 128 then some (tabP (primAt l) n.toNat) else none
theorem primO_len (l : List Nat) (n : Int) : ((primO l n).getD []).length ≤ 1048576 :=
  gate_len (n := 128) (fun h => by simp only [Bool.and_eq_true] at h; have := inB_yes h.2; rw [tabP_len]; omega) (by omega)
theorem prim_rest {l : List Nat} {n k : Nat} (hk : l.length ≤ k) (h : k ≤ n) : tabP (primAt l) k ++ List.drop k (List.replicate n 0) = tabP (primAt l) n := by
  refine el_ext (by simp [tabP_len]; omega) fun i hi => ?_
  simp [tabP_len] at hi
  rw [el_tabP _ _ _ (by omega)]
  by_cases h1 : i < k
  · rw [el_append_left (by rw [tabP_len]; exact h1), el_tabP _ _ _ h1]
  · unfold primAt
    rw [if_neg (by omega)]
    unfold el
    rw [List.getD_eq_getElem?_getD, List.getElem?_append_right (by rw [tabP_len]; omega), List.getElem?_drop, List.getElem?_replicate]
    split <;> rfl
set_option maxHeartbeats 2000000 in
theorem specPrim_any (ao : Option Addr) (cap : Nat) (xs : List Nat) (n : Int) (w : World) (hc : FR w ao xs) (hl : xs.length ≤ 1048576) (_ : -9223372036854775808 ≤ n) (_ : n ≤ 9223372036854775807) :
    Calls Try.prog 52 #[.slice ao xs.length cap, .int .i64 n] w (GivesO (primO (cl xs) n) w) := by
  obtain ⟨i0, hi0, hz0, hs0, hb0⟩ := info_parts info32
  cases ht0 : areB (cl xs) with
  | false =>
    have hn : Hid (primO (cl xs) n = none) := by unfold Hid primO; rw [ht0]; rfl
    go_enter Try.func52, Try.ntmps52
    go_wp2_with (first | (go_at_call 62; refine (l03Are_any _ _ _ _ _ hc hl (by assumption)).mono ?_; rintro _ _ ⟨rfl, rfl⟩) | (go_at_call 63; refine (within_any _ _ _ _ (by first | assumption | rfl) _).mono ?_; rintro _ _ ⟨rfl, rfl⟩) | (go_at_call 69; refine (l00In_any _ _ _ _ (by first | assumption | rfl) _).mono ?_; rintro _ _ ⟨rfl, rfl⟩) | (go_at_call 71; refine (isCount_any _ _ (by first | assumption | rfl) _).mono ?_; rintro _ _ ⟨rfl, rfl⟩) | (go_at_call 79; refine (isFilter_any _ _ (by first | assumption | rfl) _).mono ?_; rintro _ _ ⟨rfl, rfl⟩) | (go_at_call 70; refine (isTrace_any _ _ _ _ (by first | assumption | rfl) _).mono ?_; rintro _ _ ⟨rfl, rfl⟩) | (go_at_call 68; refine (l03Is_any _ _ _ _ (by first | assumption | rfl) (by omega) _).mono ?_; rintro _ _ ⟨rfl, rfl⟩) | (go_at_call 64; refine (length32_any _ _ _ _).mono ?_; rintro _ _ ⟨rfl, rfl⟩) | (go_at_call 108; refine (isFinite64_any _ _ _ (by assumption) (by first | assumption | rfl) _).mono ?_; rintro _ _ ⟨rfl, n, rfl⟩) | (go_at_call 105; refine (isFinite_any _ _ _ (by first | assumption | exact is_ofInt _ _ | exact is_self) (by first | assumption | rfl) _).mono ?_; rintro _ _ ⟨rfl, n, rfl⟩) | (go_at_call 101; refine (l01Finite_any _ _ _ (by first | assumption | exact is_ofInt _ _ | exact is_self) (by first | assumption | rfl) _).mono ?_; rintro _ _ ⟨rfl, n, rfl⟩))
    go_ret2
    exact givesO_none hn.out (by repeat (first | assumption | exact Ext.refl _ | apply Ext.drewN | apply Ext.alloc | (refine Ext.setCell ?_ (by first | assumption | exact Nat.le_refl _) _)))
  | true =>
  cases ht1 : inB n 1 128 with
  | false =>
    have hn : Hid (primO (cl xs) n = none) := by unfold Hid primO; rw [ht0, ht1]; rfl
    go_enter Try.func52, Try.ntmps52
    go_wp2_with (first | (go_at_call 62; refine (l03Are_any _ _ _ _ _ hc hl (by assumption)).mono ?_; rintro _ _ ⟨rfl, rfl⟩) | (go_at_call 63; refine (within_any _ _ _ _ (by first | assumption | rfl) _).mono ?_; rintro _ _ ⟨rfl, rfl⟩) | (go_at_call 69; refine (l00In_any _ _ _ _ (by first | assumption | rfl) _).mono ?_; rintro _ _ ⟨rfl, rfl⟩) | (go_at_call 71; refine (isCount_any _ _ (by first | assumption | rfl) _).mono ?_; rintro _ _ ⟨rfl, rfl⟩) | (go_at_call 79; refine (isFilter_any _ _ (by first | assumption | rfl) _).mono ?_; rintro _ _ ⟨rfl, rfl⟩) | (go_at_call 70; refine (isTrace_any _ _ _ _ (by first | assumption | rfl) _).mono ?_; rintro _ _ ⟨rfl, rfl⟩) | (go_at_call 68; refine (l03Is_any _ _ _ _ (by first | assumption | rfl) (by omega) _).mono ?_; rintro _ _ ⟨rfl, rfl⟩) | (go_at_call 64; refine (length32_any _ _ _ _).mono ?_; rintro _ _ ⟨rfl, rfl⟩) | (go_at_call 108; refine (isFinite64_any _ _ _ (by assumption) (by first | assumption | rfl) _).mono ?_; rintro _ _ ⟨rfl, n, rfl⟩) | (go_at_call 105; refine (isFinite_any _ _ _ (by first | assumption | exact is_ofInt _ _ | exact is_self) (by first | assumption | rfl) _).mono ?_; rintro _ _ ⟨rfl, n, rfl⟩) | (go_at_call 101; refine (l01Finite_any _ _ _ (by first | assumption | exact is_ofInt _ _ | exact is_self) (by first | assumption | rfl) _).mono ?_; rintro _ _ ⟨rfl, n, rfl⟩))
    go_ret2
    exact givesO_none hn.out (by repeat (first | assumption | exact Ext.refl _ | apply Ext.drewN | apply Ext.alloc | (refine Ext.setCell ?_ (by first | assumption | exact Nat.le_refl _) _)))
  | true =>
  have hI1 := inB_yes ht1
  have h24 : 1 ≤ xs.length ∧ xs.length ≤ 24 := by
    have h := ht0
    unfold areB at h
    simp only [Bool.and_eq_true, cl_length] at h
    have := inB_yes h.1
    omega
  obtain ⟨m, rfl⟩ := Int.eq_ofNat_of_zero_le (show 0 ≤ n by omega)
  have hs : Hid (primO (cl xs) m = some (tabP (primAt (cl xs)) m)) := by unfold Hid primO; rw [ht0, ht1]; rfl
  obtain ⟨b, off, rfl, _⟩ := hc 0 (by omega)
  go_enter Try.func52, Try.ntmps52
  go_wp2_with (first | (at_make; refine wl_make1 rfl Try.underlying22 hi0 hz0 hs0 hb0 rfl rfl rfl rfl rfl (by omega) ?_; intro w1 hO1 hE1) | (go_at_call 62; refine (l03Are_any _ _ _ _ _ hc hl (by assumption)).mono ?_; rintro _ _ ⟨rfl, rfl⟩) | (go_at_call 63; refine (within_any _ _ _ _ (by first | assumption | rfl) _).mono ?_; rintro _ _ ⟨rfl, rfl⟩) | (go_at_call 69; refine (l00In_any _ _ _ _ (by first | assumption | rfl) _).mono ?_; rintro _ _ ⟨rfl, rfl⟩) | (go_at_call 71; refine (isCount_any _ _ (by first | assumption | rfl) _).mono ?_; rintro _ _ ⟨rfl, rfl⟩) | (go_at_call 79; refine (isFilter_any _ _ (by first | assumption | rfl) _).mono ?_; rintro _ _ ⟨rfl, rfl⟩) | (go_at_call 70; refine (isTrace_any _ _ _ _ (by first | assumption | rfl) _).mono ?_; rintro _ _ ⟨rfl, rfl⟩) | (go_at_call 68; refine (l03Is_any _ _ _ _ (by first | assumption | rfl) (by omega) _).mono ?_; rintro _ _ ⟨rfl, rfl⟩) | (go_at_call 64; refine (length32_any _ _ _ _).mono ?_; rintro _ _ ⟨rfl, rfl⟩) | (go_at_call 108; refine (isFinite64_any _ _ _ (by assumption) (by first | assumption | rfl) _).mono ?_; rintro _ _ ⟨rfl, n, rfl⟩) | (go_at_call 105; refine (isFinite_any _ _ _ (by first | assumption | exact is_ofInt _ _ | exact is_self) (by first | assumption | rfl) _).mono ?_; rintro _ _ ⟨rfl, n, rfl⟩) | (go_at_call 101; refine (l01Finite_any _ _ _ (by first | assumption | exact is_ofInt _ _ | exact is_self) (by first | assumption | rfl) _).mono ?_; rintro _ _ ⟨rfl, n, rfl⟩))
  clear ht0 ht1
  go_loopw [7, 21] (fun t i wr => ∃ (k tb : Nat) (ys : List Nat), k ≤ xs.length ∧ i = .int .i64 k ∧ t = .float .f32 tb ∧ Is .f32 tb (primT (cl xs) k) ∧ OwnF wr w.heap.size (.slice (some ⟨w.heap.size, 0, none⟩) m m) ys ∧ Hid (ys.length = m) ∧ Hid (cl ys = tabP (primAt (cl xs)) (min k m) ++ List.drop (min k m) (List.replicate m 0)) ∧ Ext w wr) (fun _ i _ => xs.length - (intOf i).toNat)
  case atStart => exact ⟨0, 1065353216, _, Nat.zero_le _, rfl, rfl, rfl, hO1, by simp [Hid], by rw [show min 0 m = 0 by omega]; exact set_start _ _ (cl_zeros _), (by first | exact hE1 | exact Ext.of_drewN hE1)⟩
  case round =>
    have hg1 : w.heap.size ≤ w.heap.size := Nat.le_refl _
    obtain ⟨k, tb, ys, hk, rfl, rfl, htb, hO, hyl, hcl, hE⟩ := hrel
    clear hO1 hE1
    by_cases hlt : k < xs.length
    · have hcA := FR.cellW hc hlt
      have hA := is_el hlt
      by_cases hkm : k < m
      · obtain ⟨hcur, hfz⟩ := OwnF.at' hO (k := k) (by rw [hyl.out]; exact hkm)
        have hcAw := hcA wr hE
        have HM : Hid (min k m = k ∧ min (k + 1) m = k + 1) := by unfold Hid; omega
        have HP : Hid (primAt (cl xs) k = fop .mul .f32 (el (cl xs) k) (primT (cl xs) k)) := by unfold Hid primAt; rw [cl_length, if_pos hlt]
        go_wp2_with (first | (refine wl_bin rfl rfl rfl rfl rfl (by first | assumption | exact is_ofInt _ _ | exact is_self) (by first | assumption | exact is_ofInt _ _ | exact is_self) ?_; intro r n hr) | (refine wl_cmp rfl rfl rfl rfl rfl (by first | assumption | exact is_ofInt _ _ | exact is_self) (by first | assumption | exact is_ofInt _ _ | exact is_self) (by first | assumption | rfl) ?_) | (refine wl_widen rfl rfl rfl (by first | exact rfl | kernel_rfl) (by kernel_rfl) (by first | assumption | exact is_ofInt _ _ | exact is_self) ?_; intro r n hr) | (refine wl_neg rfl rfl rfl (by first | assumption | exact is_ofInt _ _ | exact is_self) ?_; intro r hr))
        have HR := Lib.hid hr
        have HO := Lib.hid (hO.stored k r).1
        clear hr
        refine wp_region_mix (fun _ => Ext w) (fun i => false) (fun _ _ => True) (by kernel_rfl) (by kernel_rfl) (by kernel_rfl) (fun _ _ _ h => h.drewN _) (fun _ => (by repeat (first | assumption | exact Ext.refl _ | apply Ext.drewN | apply Ext.alloc | (refine Ext.setCell ?_ (by first | assumption | exact Nat.le_refl _) _)))) (fun n0 => ?_)
        repeat (first
          | (refine lx_nil ?_; intro nq)
          | (refine lx_skip rfl ?_; go_simp)
          | (refine lx_move rfl rfl rfl rfl ?_; go_simp)
          | (refine lx_assign rfl rfl rfl rfl ?_; go_simp)
          | (refine lx_bin rfl rfl rfl rfl rfl rfl (by first | assumption | exact is_ofInt _ _ | exact is_self) (by first | assumption | exact is_ofInt _ _ | exact is_self) ?_; intro r hr; go_simp)
          | (refine lx_cmp rfl rfl rfl rfl rfl rfl (by first | assumption | exact is_ofInt _ _ | exact is_self) (by first | assumption | exact is_ofInt _ _ | exact is_self) (by first | assumption | rfl) ?_; go_simp)
          | (refine lx_widen rfl rfl rfl rfl (by first | exact rfl | kernel_rfl) (by kernel_rfl) (by first | assumption | exact is_ofInt _ _ | exact is_self) ?_; intro r hr; go_simp)
          | (refine lx_val rfl rfl (fun w' hw' => by go_simp; rfl) ?_; go_simp))
        have HR2 := Lib.hid hr
        clear hr
        go_wp2
        go_roundw
        case rel => exact ⟨k + 1, _, _, by omega, by go_num, rfl, HR2.out, HO.out, by unfold Hid; rw [List.length_set]; exact hyl.out, by rw [HM.out.2]; exact set_step (by rw [← HM.out.1]; exact hcl.out) (by simp; omega) (by rw [HP.out]; exact HR.out), (by repeat (first | assumption | exact Ext.refl _ | apply Ext.drewN | apply Ext.alloc | (refine Ext.setCell ?_ (by first | assumption | exact Nat.le_refl _) _)))⟩
        case measure => simp [intOf]; omega
      · have HM : Hid (min (k + 1) m = min k m) := by unfold Hid; omega
        have hcAw := hcA wr hE
        go_wp2
        refine wp_region_mix (fun _ => Ext w) (fun i => false) (fun _ _ => True) (by kernel_rfl) (by kernel_rfl) (by kernel_rfl) (fun _ _ _ h => h.drewN _) (fun _ => (by repeat (first | assumption | exact Ext.refl _ | apply Ext.drewN | apply Ext.alloc | (refine Ext.setCell ?_ (by first | assumption | exact Nat.le_refl _) _)))) (fun n0 => ?_)
        repeat (first
          | (refine lx_nil ?_; intro nq)
          | (refine lx_skip rfl ?_; go_simp)
          | (refine lx_move rfl rfl rfl rfl ?_; go_simp)
          | (refine lx_assign rfl rfl rfl rfl ?_; go_simp)
          | (refine lx_bin rfl rfl rfl rfl rfl rfl (by first | assumption | exact is_ofInt _ _ | exact is_self) (by first | assumption | exact is_ofInt _ _ | exact is_self) ?_; intro r hr; go_simp)
          | (refine lx_cmp rfl rfl rfl rfl rfl rfl (by first | assumption | exact is_ofInt _ _ | exact is_self) (by first | assumption | exact is_ofInt _ _ | exact is_self) (by first | assumption | rfl) ?_; go_simp)
          | (refine lx_widen rfl rfl rfl rfl (by first | exact rfl | kernel_rfl) (by kernel_rfl) (by first | assumption | exact is_ofInt _ _ | exact is_self) ?_; intro r hr; go_simp)
          | (refine lx_val rfl rfl (fun w' hw' => by go_simp; rfl) ?_; go_simp))
        have HR2 := Lib.hid hr
        clear hr
        go_wp2
        go_roundw
        case rel => exact ⟨k + 1, _, _, by omega, by go_num, rfl, HR2.out, hO, hyl, by rw [HM.out]; exact hcl, (by repeat (first | assumption | exact Ext.refl _ | apply Ext.drewN | apply Ext.alloc | (refine Ext.setCell ?_ (by first | assumption | exact Nat.le_refl _) _)))⟩
        case measure => simp [intOf]; omega
    · have HF : Hid (cl ys = tabP (primAt (cl xs)) m) := by
        unfold Hid
        rw [hcl.out]
        by_cases h1 : k ≤ m
        · rw [show min k m = k by omega]; exact prim_rest (by rw [cl_length]; omega) h1
        · rw [show min k m = m by omega, List.drop_of_length_le (by simp), List.append_nil]
      go_wp2
      go_ret2
      exact givesO_some hs.out hE hO HF.out
set_option maxHeartbeats 2000000 in
theorem implPrim_any (ao : Option Addr) (cap : Nat) (xs : List Nat) (n : Int) (w : World) (hc : FR w ao xs) (hl : xs.length ≤ 1048576) (_ : -9223372036854775808 ≤ n) (_ : n ≤ 9223372036854775807) :
    Calls Try.prog 53 #[.slice ao xs.length cap, .int .i64 n] w (GivesO (primO (cl xs) n) w) := by
  obtain ⟨i0, hi0, hz0, hs0, hb0⟩ := info_parts info32
  cases ht0 : areB (cl xs) with
  | false =>
    have hn : Hid (primO (cl xs) n = none) := by unfold Hid primO; rw [ht0]; rfl
    go_enter Try.func53, Try.ntmps53
    go_wp2_with (first | (go_at_call 23; refine (are_any _ _ _ _ _ hc hl (by assumption)).mono ?_; rintro _ _ ⟨rfl, n1, rfl⟩) | (go_at_call 63; refine (within_any _ _ _ _ (by first | assumption | rfl) _).mono ?_; rintro _ _ ⟨rfl, rfl⟩) | (go_at_call 69; refine (l00In_any _ _ _ _ (by first | assumption | rfl) _).mono ?_; rintro _ _ ⟨rfl, rfl⟩) | (go_at_call 71; refine (isCount_any _ _ (by first | assumption | rfl) _).mono ?_; rintro _ _ ⟨rfl, rfl⟩) | (go_at_call 79; refine (isFilter_any _ _ (by first | assumption | rfl) _).mono ?_; rintro _ _ ⟨rfl, rfl⟩) | (go_at_call 70; refine (isTrace_any _ _ _ _ (by first | assumption | rfl) _).mono ?_; rintro _ _ ⟨rfl, rfl⟩) | (go_at_call 68; refine (l03Is_any _ _ _ _ (by first | assumption | rfl) (by omega) _).mono ?_; rintro _ _ ⟨rfl, rfl⟩) | (go_at_call 64; refine (length32_any _ _ _ _).mono ?_; rintro _ _ ⟨rfl, rfl⟩) | (go_at_call 108; refine (isFinite64_any _ _ _ (by assumption) (by first | assumption | rfl) _).mono ?_; rintro _ _ ⟨rfl, n, rfl⟩) | (go_at_call 105; refine (isFinite_any _ _ _ (by first | assumption | exact is_ofInt _ _ | exact is_self) (by first | assumption | rfl) _).mono ?_; rintro _ _ ⟨rfl, n, rfl⟩) | (go_at_call 101; refine (l01Finite_any _ _ _ (by first | assumption | exact is_ofInt _ _ | exact is_self) (by first | assumption | rfl) _).mono ?_; rintro _ _ ⟨rfl, n, rfl⟩))
    go_ret2
    exact givesO_none hn.out (by repeat (first | assumption | exact Ext.refl _ | apply Ext.drewN | apply Ext.alloc | (refine Ext.setCell ?_ (by first | assumption | exact Nat.le_refl _) _)))
  | true =>
  cases ht1 : inB n 1 128 with
  | false =>
    have hn : Hid (primO (cl xs) n = none) := by unfold Hid primO; rw [ht0, ht1]; rfl
    go_enter Try.func53, Try.ntmps53
    go_wp2_with (first | (go_at_call 23; refine (are_any _ _ _ _ _ hc hl (by assumption)).mono ?_; rintro _ _ ⟨rfl, n1, rfl⟩) | (go_at_call 63; refine (within_any _ _ _ _ (by first | assumption | rfl) _).mono ?_; rintro _ _ ⟨rfl, rfl⟩) | (go_at_call 69; refine (l00In_any _ _ _ _ (by first | assumption | rfl) _).mono ?_; rintro _ _ ⟨rfl, rfl⟩) | (go_at_call 71; refine (isCount_any _ _ (by first | assumption | rfl) _).mono ?_; rintro _ _ ⟨rfl, rfl⟩) | (go_at_call 79; refine (isFilter_any _ _ (by first | assumption | rfl) _).mono ?_; rintro _ _ ⟨rfl, rfl⟩) | (go_at_call 70; refine (isTrace_any _ _ _ _ (by first | assumption | rfl) _).mono ?_; rintro _ _ ⟨rfl, rfl⟩) | (go_at_call 68; refine (l03Is_any _ _ _ _ (by first | assumption | rfl) (by omega) _).mono ?_; rintro _ _ ⟨rfl, rfl⟩) | (go_at_call 64; refine (length32_any _ _ _ _).mono ?_; rintro _ _ ⟨rfl, rfl⟩) | (go_at_call 108; refine (isFinite64_any _ _ _ (by assumption) (by first | assumption | rfl) _).mono ?_; rintro _ _ ⟨rfl, n, rfl⟩) | (go_at_call 105; refine (isFinite_any _ _ _ (by first | assumption | exact is_ofInt _ _ | exact is_self) (by first | assumption | rfl) _).mono ?_; rintro _ _ ⟨rfl, n, rfl⟩) | (go_at_call 101; refine (l01Finite_any _ _ _ (by first | assumption | exact is_ofInt _ _ | exact is_self) (by first | assumption | rfl) _).mono ?_; rintro _ _ ⟨rfl, n, rfl⟩))
    go_ret2
    exact givesO_none hn.out (by repeat (first | assumption | exact Ext.refl _ | apply Ext.drewN | apply Ext.alloc | (refine Ext.setCell ?_ (by first | assumption | exact Nat.le_refl _) _)))
  | true =>
  have hI1 := inB_yes ht1
  have h24 : 1 ≤ xs.length ∧ xs.length ≤ 24 := by
    have h := ht0
    unfold areB at h
    simp only [Bool.and_eq_true, cl_length] at h
    have := inB_yes h.1
    omega
  obtain ⟨m, rfl⟩ := Int.eq_ofNat_of_zero_le (show 0 ≤ n by omega)
  have hs : Hid (primO (cl xs) m = some (tabP (primAt (cl xs)) m)) := by unfold Hid primO; rw [ht0, ht1]; rfl
  obtain ⟨b, off, rfl, _⟩ := hc 0 (by omega)
  go_enter Try.func53, Try.ntmps53
  go_wp2_with (first | (at_make; refine wl_make1 rfl Try.underlying22 hi0 hz0 hs0 hb0 rfl rfl rfl rfl rfl (by omega) ?_; intro w1 hO1 hE1) | (go_at_call 23; refine (are_any _ _ _ _ _ hc hl (by assumption)).mono ?_; rintro _ _ ⟨rfl, n1, rfl⟩) | (go_at_call 63; refine (within_any _ _ _ _ (by first | assumption | rfl) _).mono ?_; rintro _ _ ⟨rfl, rfl⟩) | (go_at_call 69; refine (l00In_any _ _ _ _ (by first | assumption | rfl) _).mono ?_; rintro _ _ ⟨rfl, rfl⟩) | (go_at_call 71; refine (isCount_any _ _ (by first | assumption | rfl) _).mono ?_; rintro _ _ ⟨rfl, rfl⟩) | (go_at_call 79; refine (isFilter_any _ _ (by first | assumption | rfl) _).mono ?_; rintro _ _ ⟨rfl, rfl⟩) | (go_at_call 70; refine (isTrace_any _ _ _ _ (by first | assumption | rfl) _).mono ?_; rintro _ _ ⟨rfl, rfl⟩) | (go_at_call 68; refine (l03Is_any _ _ _ _ (by first | assumption | rfl) (by omega) _).mono ?_; rintro _ _ ⟨rfl, rfl⟩) | (go_at_call 64; refine (length32_any _ _ _ _).mono ?_; rintro _ _ ⟨rfl, rfl⟩) | (go_at_call 108; refine (isFinite64_any _ _ _ (by assumption) (by first | assumption | rfl) _).mono ?_; rintro _ _ ⟨rfl, n, rfl⟩) | (go_at_call 105; refine (isFinite_any _ _ _ (by first | assumption | exact is_ofInt _ _ | exact is_self) (by first | assumption | rfl) _).mono ?_; rintro _ _ ⟨rfl, n, rfl⟩) | (go_at_call 101; refine (l01Finite_any _ _ _ (by first | assumption | exact is_ofInt _ _ | exact is_self) (by first | assumption | rfl) _).mono ?_; rintro _ _ ⟨rfl, n, rfl⟩))
  clear ht0 ht1
  go_loopw [7, 22] (fun t i wr => ∃ (k tb : Nat) (ys : List Nat), k ≤ xs.length ∧ i = .int .i64 k ∧ t = .float .f32 tb ∧ Is .f32 tb (primT (cl xs) k) ∧ OwnF wr w.heap.size (.slice (some ⟨w.heap.size, 0, none⟩) m m) ys ∧ Hid (ys.length = m) ∧ Hid (cl ys = tabP (primAt (cl xs)) (min k m) ++ List.drop (min k m) (List.replicate m 0)) ∧ Ext w wr) (fun _ i _ => xs.length - (intOf i).toNat)
  case atStart => exact ⟨0, 1065353216, _, Nat.zero_le _, rfl, rfl, rfl, hO1, by simp [Hid], by rw [show min 0 m = 0 by omega]; exact set_start _ _ (cl_zeros _), (by first | exact hE1 | exact Ext.of_drewN hE1)⟩
  case round =>
    have hg1 : w.heap.size ≤ w.heap.size := Nat.le_refl _
    obtain ⟨k, tb, ys, hk, rfl, rfl, htb, hO, hyl, hcl, hE⟩ := hrel
    clear hO1 hE1
    by_cases hlt : k < xs.length
    · have hcA := FR.cellW hc hlt
      have hA := is_el hlt
      by_cases hkm : k < m
      · obtain ⟨hcur, hfz⟩ := OwnF.at' hO (k := k) (by rw [hyl.out]; exact hkm)
        have hcAw := hcA wr hE
        have HM : Hid (min k m = k ∧ min (k + 1) m = k + 1) := by unfold Hid; omega
        have HP : Hid (primAt (cl xs) k = fop .mul .f32 (el (cl xs) k) (primT (cl xs) k)) := by unfold Hid primAt; rw [cl_length, if_pos hlt]
        go_wp2_with (first | (refine wl_bin rfl rfl rfl rfl rfl hA htb ?_; intro r n hr; (have HR := Lib.hid hr); (have HO := Lib.hid (hO.stored k r).1); clear hr) | (refine wl_bin rfl rfl rfl rfl rfl (by first | assumption | exact is_ofInt _ _ | exact is_self) (by first | assumption | exact is_ofInt _ _ | exact is_self) ?_; intro r n hr) | (refine wl_cmp rfl rfl rfl rfl rfl (by first | assumption | exact is_ofInt _ _ | exact is_self) (by first | assumption | exact is_ofInt _ _ | exact is_self) (by first | assumption | rfl) ?_) | (refine wl_widen rfl rfl rfl (by first | exact rfl | kernel_rfl) (by kernel_rfl) (by first | assumption | exact is_ofInt _ _ | exact is_self) ?_; intro r n hr) | (refine wl_neg rfl rfl rfl (by first | assumption | exact is_ofInt _ _ | exact is_self) ?_; intro r hr))
        have HR2 := Lib.hid hr
        clear hr
        go_roundw
        case rel => exact ⟨k + 1, _, _, by omega, by go_num, rfl, HR2.out, HO.out, by unfold Hid; rw [List.length_set]; exact hyl.out, by rw [HM.out.2]; exact set_step (by rw [← HM.out.1]; exact hcl.out) (by simp; omega) (by rw [HP.out]; exact HR.out), (by repeat (first | assumption | exact Ext.refl _ | apply Ext.drewN | apply Ext.alloc | (refine Ext.setCell ?_ (by first | assumption | exact Nat.le_refl _) _)))⟩
        case measure => simp [intOf]; omega
      · have HM : Hid (min (k + 1) m = min k m) := by unfold Hid; omega
        have hcAw := hcA wr hE
        go_wp2_with (first | (refine wl_bin rfl rfl rfl rfl rfl (by first | assumption | exact is_ofInt _ _ | exact is_self) (by first | assumption | exact is_ofInt _ _ | exact is_self) ?_; intro r n hr) | (refine wl_cmp rfl rfl rfl rfl rfl (by first | assumption | exact is_ofInt _ _ | exact is_self) (by first | assumption | exact is_ofInt _ _ | exact is_self) (by first | assumption | rfl) ?_) | (refine wl_widen rfl rfl rfl (by first | exact rfl | kernel_rfl) (by kernel_rfl) (by first | assumption | exact is_ofInt _ _ | exact is_self) ?_; intro r n hr) | (refine wl_neg rfl rfl rfl (by first | assumption | exact is_ofInt _ _ | exact is_self) ?_; intro r hr))
        have HR2 := Lib.hid hr
        clear hr
        go_roundw
        case rel => exact ⟨k + 1, _, _, by omega, by go_num, rfl, HR2.out, hO, hyl, by rw [HM.out]; exact hcl, (by repeat (first | assumption | exact Ext.refl _ | apply Ext.drewN | apply Ext.alloc | (refine Ext.setCell ?_ (by first | assumption | exact Nat.le_refl _) _)))⟩
        case measure => simp [intOf]; omega
    · have HF : Hid (cl ys = tabP (primAt (cl xs)) m) := by
        unfold Hid
        rw [hcl.out]
        by_cases h1 : k ≤ m
        · rw [show min k m = k by omega]; exact prim_rest (by rw [cl_length]; omega) h1
        · rw [show min k m = m by omega, List.drop_of_length_le (by simp), List.append_nil]
      go_wp2
      go_ret2
      exact givesO_some hs.out hE hO HF.out
end Go.Proofs.Ytkodneoncancdaa
