/- MirrorTrace, ShiftTrace: the reference's and the program's. -/
import Derived.Test.YtkodneoncancdaaFCross
namespace Go.Proofs.Ytkodneoncancdaa
open Go.RowKit
set_option linter.unusedVariables false

def mirAt (l : List Nat) (k : Nat) : Nat := el l (l.length - 1 - k)
def mirO (l : List Nat) : Option (List Nat) := if isTr l then some (tabP (mirAt l) l.length) else none
theorem mirO_len (l : List Nat) : ((mirO l).getD []).length ≤ 1048576 :=
  gate_len (n := 128) (fun h => by rw [tabP_len]; exact isTr_le h) (by omega)
/-- k of the numbers at each end swapped. -/
def revK (l : List Nat) (k : Nat) : List Nat := tabP (fun i => if i < k ∨ l.length ≤ i + k then el l (l.length - 1 - i) else el l i) l.length
theorem revK_len (l : List Nat) (k : Nat) : (revK l k).length = l.length := tabP_len _ _
theorem revK_zero (l : List Nat) : revK l 0 = l := by
  unfold revK
  refine el_ext (tabP_len _ _) fun i hi => ?_
  rw [tabP_len] at hi
  rw [el_tabP _ _ _ hi, if_neg (by omega)]
theorem revK_mid (l : List Nat) (k i : Nat) (h1 : k ≤ i) (h2 : i + k < l.length) : el (revK l k) i = el l i := by
  unfold revK
  rw [el_tabP _ _ _ (by omega), if_neg (by omega)]
theorem revK_succ (l : List Nat) (k : Nat) (h : k < l.length - 1 - k) : ((revK l k).set k (el l (l.length - 1 - k))).set (l.length - 1 - k) (el l k) = revK l (k + 1) := by
  refine el_ext (by simp [revK_len]) fun i hi => ?_
  simp [revK_len] at hi
  rw [el_set _ _ _ _ (by simp [revK_len]; omega), el_set _ _ _ _ (by rw [revK_len]; omega)]
  unfold revK
  rw [el_tabP _ _ _ hi, el_tabP _ _ _ hi]
  by_cases h1 : l.length - 1 - k = i
  · rw [if_pos h1, if_pos (by omega), show l.length - 1 - i = k by omega]
  · rw [if_neg h1]
    by_cases h2 : k = i
    · subst h2; rw [if_pos rfl, if_pos (by omega)]
    · rw [if_neg h2]
      by_cases h3 : i < k ∨ l.length ≤ i + k
      · rw [if_pos h3, if_pos (by omega)]
      · rw [if_neg h3, if_neg (by omega)]
theorem revK_end (l : List Nat) (k : Nat) (h : ¬ k < l.length - 1 - k) (h2 : k ≤ l.length) : revK l k = tabP (mirAt l) l.length := by
  refine el_ext (by simp [revK_len, tabP_len]) fun i hi => ?_
  rw [revK_len] at hi
  unfold revK
  rw [el_tabP _ _ _ hi, el_tabP _ _ _ hi]
  unfold mirAt
  by_cases h3 : i < k ∨ l.length ≤ i + k
  · rw [if_pos h3]
  · rw [if_neg h3]; congr 1; omega
theorem cl_mir (l : List Nat) : cl (tabP (mirAt l) l.length) = tabP (mirAt (cl l)) l.length := by
  refine el_ext (by simp [cl_length, tabP_len]) fun i hi => ?_
  rw [cl_length, tabP_len] at hi
  rw [cl_el _ _ (by rw [tabP_len]; exact hi), el_tabP _ _ _ hi, el_tabP _ _ _ hi]
  unfold mirAt
  rw [cl_length, cl_el _ _ (by omega)]

set_option maxHeartbeats 2000000 in
theorem specMirror_any (ao : Option Addr) (cap : Nat) (xs : List Nat) (w : World) (hc : FR w ao xs) (hl : xs.length ≤ 1048576) :
    Calls Try.prog 33 #[.slice ao xs.length cap] w (GivesO (mirO (cl xs)) w) := by
  obtain ⟨i0, hi0, hz0, hs0, hb0⟩ := info_parts info32
  cases ht0 : inB (xs.length : Int) 1 128 with
  | false =>
    have hn : Hid (mirO (cl xs) = none) := by unfold Hid mirO; rw [isTr_cl, ht0]; rfl
    go_enter Try.func33, Try.ntmps33
    go_wp2_with (first | (go_at_call 63; refine (within_any _ _ _ _ (by first | assumption | rfl) _).mono ?_; rintro _ _ ⟨rfl, rfl⟩) | (go_at_call 69; refine (l00In_any _ _ _ _ (by first | assumption | rfl) _).mono ?_; rintro _ _ ⟨rfl, rfl⟩) | (go_at_call 71; refine (isCount_any _ _ (by first | assumption | rfl) _).mono ?_; rintro _ _ ⟨rfl, rfl⟩) | (go_at_call 79; refine (isFilter_any _ _ (by first | assumption | rfl) _).mono ?_; rintro _ _ ⟨rfl, rfl⟩) | (go_at_call 70; refine (isTrace_any _ _ _ _ (by first | assumption | rfl) _).mono ?_; rintro _ _ ⟨rfl, rfl⟩) | (go_at_call 68; refine (l03Is_any _ _ _ _ (by first | assumption | rfl) (by omega) _).mono ?_; rintro _ _ ⟨rfl, rfl⟩) | (go_at_call 64; refine (length32_any _ _ _ _).mono ?_; rintro _ _ ⟨rfl, rfl⟩) | (go_at_call 108; refine (isFinite64_any _ _ _ (by assumption) (by first | assumption | rfl) _).mono ?_; rintro _ _ ⟨rfl, n, rfl⟩) | (go_at_call 105; refine (isFinite_any _ _ _ (by first | assumption | exact is_ofInt _ _ | exact is_self) (by first | assumption | rfl) _).mono ?_; rintro _ _ ⟨rfl, n, rfl⟩) | (go_at_call 101; refine (l01Finite_any _ _ _ (by first | assumption | exact is_ofInt _ _ | exact is_self) (by first | assumption | rfl) _).mono ?_; rintro _ _ ⟨rfl, n, rfl⟩) | (refine wl_bin rfl rfl rfl rfl rfl (by first | assumption | exact is_ofInt _ _ | exact is_self) (by first | assumption | exact is_ofInt _ _ | exact is_self) ?_; intro r n hr) | (refine wl_cmp rfl rfl rfl rfl rfl (by first | assumption | exact is_ofInt _ _ | exact is_self) (by first | assumption | exact is_ofInt _ _ | exact is_self) (by first | assumption | rfl) ?_) | (refine wl_widen rfl rfl rfl (by first | exact rfl | kernel_rfl) (by kernel_rfl) (by first | assumption | exact is_ofInt _ _ | exact is_self) ?_; intro r n hr) | (refine wl_neg rfl rfl rfl (by first | assumption | exact is_ofInt _ _ | exact is_self) ?_; intro r hr))
    go_ret2
    exact givesO_none hn.out (Ext.refl _)
  | true =>
  have hs : Hid (mirO (cl xs) = some (tabP (mirAt (cl xs)) xs.length)) := by unfold Hid mirO; rw [isTr_cl, ht0, cl_length]; rfl
  have hI0 := inB_yes ht0
  obtain ⟨b, off, rfl, _⟩ := hc 0 (by omega)
  go_enter Try.func33, Try.ntmps33
  go_wp2_with (first | (go_at_call 63; refine (within_any _ _ _ _ (by first | assumption | rfl) _).mono ?_; rintro _ _ ⟨rfl, rfl⟩) | (go_at_call 69; refine (l00In_any _ _ _ _ (by first | assumption | rfl) _).mono ?_; rintro _ _ ⟨rfl, rfl⟩) | (go_at_call 71; refine (isCount_any _ _ (by first | assumption | rfl) _).mono ?_; rintro _ _ ⟨rfl, rfl⟩) | (go_at_call 79; refine (isFilter_any _ _ (by first | assumption | rfl) _).mono ?_; rintro _ _ ⟨rfl, rfl⟩) | (go_at_call 70; refine (isTrace_any _ _ _ _ (by first | assumption | rfl) _).mono ?_; rintro _ _ ⟨rfl, rfl⟩) | (go_at_call 68; refine (l03Is_any _ _ _ _ (by first | assumption | rfl) (by omega) _).mono ?_; rintro _ _ ⟨rfl, rfl⟩) | (go_at_call 64; refine (length32_any _ _ _ _).mono ?_; rintro _ _ ⟨rfl, rfl⟩) | (go_at_call 108; refine (isFinite64_any _ _ _ (by assumption) (by first | assumption | rfl) _).mono ?_; rintro _ _ ⟨rfl, n, rfl⟩) | (go_at_call 105; refine (isFinite_any _ _ _ (by first | assumption | exact is_ofInt _ _ | exact is_self) (by first | assumption | rfl) _).mono ?_; rintro _ _ ⟨rfl, n, rfl⟩) | (go_at_call 101; refine (l01Finite_any _ _ _ (by first | assumption | exact is_ofInt _ _ | exact is_self) (by first | assumption | rfl) _).mono ?_; rintro _ _ ⟨rfl, n, rfl⟩) | (refine wl_bin rfl rfl rfl rfl rfl (by first | assumption | exact is_ofInt _ _ | exact is_self) (by first | assumption | exact is_ofInt _ _ | exact is_self) ?_; intro r n hr) | (refine wl_cmp rfl rfl rfl rfl rfl (by first | assumption | exact is_ofInt _ _ | exact is_self) (by first | assumption | exact is_ofInt _ _ | exact is_self) (by first | assumption | rfl) ?_) | (refine wl_widen rfl rfl rfl (by first | exact rfl | kernel_rfl) (by kernel_rfl) (by first | assumption | exact is_ofInt _ _ | exact is_self) ?_; intro r n hr) | (refine wl_neg rfl rfl rfl (by first | assumption | exact is_ofInt _ _ | exact is_self) ?_; intro r hr))
  go_loopw [4, 5] (fun v i wr => ∃ (k : Nat) (ys : List Nat), k ≤ xs.length ∧ i = .int .i64 ((xs.length : Int) - 1 - (k : Int)) ∧ OwnF wr w.heap.size v ys ∧ ys.length ≤ k ∧ Hid (cl ys = tabP (mirAt (cl xs)) k) ∧ Ext w wr) (fun _ i _ => (intOf i + 1).toNat)
  case atStart => exact ⟨0, [], Nat.zero_le _, by simp, ownF_empty _ _ (by repeat (first | assumption | exact Ext.refl _ | apply Ext.drewN | apply Ext.alloc | (refine Ext.setCell ?_ (by first | assumption | exact Nat.le_refl _) _))), Nat.le_refl _, rfl, (by repeat (first | assumption | exact Ext.refl _ | apply Ext.drewN | apply Ext.alloc | (refine Ext.setCell ?_ (by first | assumption | exact Nat.le_refl _) _)))⟩
  case round =>
    obtain ⟨k, ys, hk, rfl, hO, hyl, hcl, hE⟩ := hrel
    by_cases hlt : k < xs.length
    · have hcA := FR.cellW hc (show xs.length - 1 - k < xs.length by omega) wr hE
      have hA := is_el (show xs.length - 1 - k < xs.length by omega)
      have e2 : (0 : Int) ≤ (xs.length : Int) - 1 - (k : Int) := by omega
      have e3 : ((xs.length : Int) - 1 - (k : Int)).toNat = xs.length - 1 - k := by omega
      have e5 : (xs.length : Int) - 1 - (k : Int) < (xs.length : Int) := by omega
      have e6 : (k : Int) ≤ (xs.length : Int) - 1 := by omega
      have HA : Hid (Is .f32 (el xs (xs.length - 1 - k)) (mirAt (cl xs) k)) := by unfold Hid mirAt; rw [cl_length]; exact hA
      clear hA
      go_wp2_with (first | (at_builtin; refine wl_append1 _ rfl Try.underlying22 hi0 hz0 hs0 hb0 rfl rfl rfl (by repeat (first | assumption | apply OwnF.drewN | apply OwnF.alloc)) (by repeat (first | assumption | exact Ext.refl _ | apply Ext.drewN | apply Ext.alloc | (refine Ext.setCell ?_ (by first | assumption | exact Nat.le_refl _) _))) (by omega) (by first | exact cell_new _ _ _ | exact cell_newD _ _ _ _) ?_; intro v2 w2 hO2 hE2))
      clear e3
      go_roundw
      case rel => exact ⟨k + 1, _, by omega, by congr 1; omega, (by repeat (first | assumption | apply OwnF.drewN | apply OwnF.alloc)), by simp; omega, app_step hcl.out HA.out, (by repeat (first | assumption | exact Ext.refl _ | apply Ext.drewN | apply Ext.alloc | (refine Ext.setCell ?_ (by first | assumption | exact Nat.le_refl _) _)))⟩
      case measure => simp [intOf]; omega
    · obtain rfl : xs.length = k := by omega
      have e7 : decide ((0 : Int) ≤ (xs.length : Int) - 1 - (xs.length : Int)) = false := by simp; omega
      go_wp2
      go_ret2
      exact givesO_some hs.out hE hO hcl.out
theorem reverse_any (base g n c : Nat) (xs : List Nat) (w : World) (hO : OwnF w base (.slice (some ⟨g, 0, none⟩) n c) xs) (hn : n = xs.length) (hl : xs.length ≤ 128) (hl1 : 1 ≤ xs.length) (hg : base ≤ g) :
    Calls Try.prog 77 #[.slice (some ⟨g, 0, none⟩) n c] w fun e w' => e = .returned (.tuple #[]) ∧ w.grownBy w' (some g) ∧ OwnF w' base (.slice (some ⟨g, 0, none⟩) n c) (tabP (mirAt xs) xs.length) := by
  subst hn
  go_enter Try.func77, Try.ntmps77
  go_wp2
  go_loopw [2, 3] (fun i j wr => ∃ k : Nat, k ≤ xs.length ∧ i = .int .i64 k ∧ j = .int .i64 ((xs.length : Int) - 1 - (k : Int)) ∧ w.grownBy wr (some g) ∧ OwnF wr base (.slice (some ⟨g, 0, none⟩) xs.length c) (revK xs k)) (fun _ j _ => (intOf j + 1).toNat)
  case atStart => exact ⟨0, Nat.zero_le _, rfl, by simp, grownBy_refl _ _, by rw [revK_zero]; exact hO⟩
  case round =>
    obtain ⟨k, hk, rfl, rfl, hG, hO⟩ := hrel
    by_cases hlt : k < xs.length - 1 - k
    · have hX1 : el (revK xs k) (xs.length - 1 - k) = el xs (xs.length - 1 - k) := revK_mid _ _ _ (by omega) (by omega)
      have hX2 : el (revK xs k) k = el xs k := revK_mid _ _ _ (Nat.le_refl _) (by omega)
      obtain ⟨hc1, hf1⟩ := OwnF.at' hO (k := k) (by rw [revK_len]; omega)
      obtain ⟨hc2, hf2⟩ := OwnF.at' hO (k := xs.length - 1 - k) (by rw [revK_len]; omega)
      rw [hX2] at hc1
      rw [hX1] at hc2
      have hst1 := hO.stored k (el xs (xs.length - 1 - k))
      have hst2 := hst1.1.stored (xs.length - 1 - k) (el xs k)
      rw [revK_succ _ _ hlt] at hst2
      have hf3 := hst1.1.frozen (xs.length - 1 - k)
      have hG2 := Lib.hid (grownBy_trans hG (grownBy_trans hst1.2 hst2.2))
      have hO2 := Lib.hid hst2.1
      clear hst1 hst2 hX1 hX2
      have e4 : decide ((k : Int) < (xs.length : Int) - 1 - (k : Int)) = true := by simp; omega
      have e6 : (k : Int) < (xs.length : Int) - 1 - (k : Int) := by omega
      go_wp2
      have e2 : (0 : Int) ≤ (xs.length : Int) - 1 - (k : Int) := by omega
      have e3 : ((xs.length : Int) - 1 - (k : Int)).toNat = xs.length - 1 - k := by omega
      have e5 : (xs.length : Int) - 1 - (k : Int) < (xs.length : Int) := by omega
      have e7 : (k : Int) ≤ (xs.length : Int) - 1 := by omega
      have e8 : k < xs.length := by omega
      refine wp_region_mix (ownU [7, 11] (Drawn wr) (fun _ => True)) (fun i => i == 13 || i == 15) (fun _ _ => True) (by kernel_rfl) (by kernel_rfl) (by kernel_rfl) (ownU_drew (drawn_more _) (fun _ _ h => h)) (ownU_all (drawn_self _) trivial) (fun n0 => ?_)
      repeat (first
          | (refine lx_nil ?_; intro nq)
          | (refine lx_skip rfl ?_; go_simp)
          | (refine lx_move rfl rfl rfl rfl ?_; go_simp)
          | (refine lx_assign rfl rfl rfl rfl ?_; go_simp)
          | (refine lx_bin rfl rfl rfl rfl rfl rfl (by first | assumption | exact is_ofInt _ _ | exact is_self) (by first | assumption | exact is_ofInt _ _ | exact is_self) ?_; intro r hr; go_simp)
          | (refine lx_val rfl rfl (fun w' _ => by go_simp; rfl) ?_; go_simp)
          | (refine lx_val rfl rfl (fun w' hw' => by (obtain ⟨mm, rfl⟩ : Drawn wr w' := hw'); go_simp; rfl) ?_; go_simp))
      refine lx_effS rfl rfl (fun n => by go_simp; rfl) (fun n => ownU_aft (by kernel_rfl) trivial) (fun n1 => ?_)
      go_simp
      repeat (first
          | (refine lx_nil ?_; intro nq)
          | (refine lx_skip rfl ?_; go_simp)
          | (refine lx_move rfl rfl rfl rfl ?_; go_simp)
          | (refine lx_assign rfl rfl rfl rfl ?_; go_simp)
          | (refine lx_bin rfl rfl rfl rfl rfl rfl (by first | assumption | exact is_ofInt _ _ | exact is_self) (by first | assumption | exact is_ofInt _ _ | exact is_self) ?_; intro r hr; go_simp)
          | (refine lx_val rfl rfl (fun w' _ => by go_simp; rfl) ?_; go_simp)
          | (refine lx_val rfl rfl (fun w' hw' => by (obtain ⟨mm, rfl⟩ : Drawn wr w' := hw'); go_simp; rfl) ?_; go_simp))
      refine lx_effS rfl rfl (fun n => by go_simp; rfl) (fun n => ownU_aft (by kernel_rfl) trivial) (fun n2 => ?_)
      go_simp
      repeat (first
          | (refine lx_nil ?_; intro nq)
          | (refine lx_skip rfl ?_; go_simp)
          | (refine lx_move rfl rfl rfl rfl ?_; go_simp)
          | (refine lx_assign rfl rfl rfl rfl ?_; go_simp)
          | (refine lx_bin rfl rfl rfl rfl rfl rfl (by first | assumption | exact is_ofInt _ _ | exact is_self) (by first | assumption | exact is_ofInt _ _ | exact is_self) ?_; intro r hr; go_simp)
          | (refine lx_val rfl rfl (fun w' _ => by go_simp; rfl) ?_; go_simp)
          | (refine lx_val rfl rfl (fun w' hw' => by (obtain ⟨mm, rfl⟩ : Drawn wr w' := hw'); go_simp; rfl) ?_; go_simp))
      clear e2 e3 e4 e5 e6 e7
      go_wp2
      go_roundw
      case rel => exact ⟨k + 1, by omega, by go_num, by congr 1; omega, ⟨hG2.out.os, hG2.out.tape, hG2.out.output, hG2.out.size, hG2.out.block⟩, hO2.out⟩
      case measure => simp [intOf]; omega
    · have HE := Lib.hid (revK_end xs k hlt hk)
      have e4 : decide ((k : Int) < (xs.length : Int) - 1 - (k : Int)) = false := by simp; omega
      clear hlt
      go_wp2
      first | go_end0 | go_ret
      exact ⟨rfl, hG, by rw [← HE.out]; exact hO⟩
theorem mirror_any (ao : Option Addr) (cap : Nat) (xs : List Nat) (w : World) (hc : FR w ao xs) (hl : xs.length ≤ 1048576) :
    Calls Try.prog 34 #[.slice ao xs.length cap] w (GivesO (mirO (cl xs)) w) := by
  cases ht0 : inB (xs.length : Int) 1 128 with
  | false =>
    have hn : Hid (mirO (cl xs) = none) := by unfold Hid mirO; rw [isTr_cl, ht0]; rfl
    go_enter Try.func34, Try.ntmps34
    go_wp2_with (first | (go_at_call 63; refine (within_any _ _ _ _ (by first | assumption | rfl) _).mono ?_; rintro _ _ ⟨rfl, rfl⟩) | (go_at_call 69; refine (l00In_any _ _ _ _ (by first | assumption | rfl) _).mono ?_; rintro _ _ ⟨rfl, rfl⟩) | (go_at_call 71; refine (isCount_any _ _ (by first | assumption | rfl) _).mono ?_; rintro _ _ ⟨rfl, rfl⟩) | (go_at_call 79; refine (isFilter_any _ _ (by first | assumption | rfl) _).mono ?_; rintro _ _ ⟨rfl, rfl⟩) | (go_at_call 70; refine (isTrace_any _ _ _ _ (by first | assumption | rfl) _).mono ?_; rintro _ _ ⟨rfl, rfl⟩) | (go_at_call 68; refine (l03Is_any _ _ _ _ (by first | assumption | rfl) (by omega) _).mono ?_; rintro _ _ ⟨rfl, rfl⟩) | (go_at_call 64; refine (length32_any _ _ _ _).mono ?_; rintro _ _ ⟨rfl, rfl⟩) | (go_at_call 108; refine (isFinite64_any _ _ _ (by assumption) (by first | assumption | rfl) _).mono ?_; rintro _ _ ⟨rfl, n, rfl⟩) | (go_at_call 105; refine (isFinite_any _ _ _ (by first | assumption | exact is_ofInt _ _ | exact is_self) (by first | assumption | rfl) _).mono ?_; rintro _ _ ⟨rfl, n, rfl⟩) | (go_at_call 101; refine (l01Finite_any _ _ _ (by first | assumption | exact is_ofInt _ _ | exact is_self) (by first | assumption | rfl) _).mono ?_; rintro _ _ ⟨rfl, n, rfl⟩) | (refine wl_bin rfl rfl rfl rfl rfl (by first | assumption | exact is_ofInt _ _ | exact is_self) (by first | assumption | exact is_ofInt _ _ | exact is_self) ?_; intro r n hr) | (refine wl_cmp rfl rfl rfl rfl rfl (by first | assumption | exact is_ofInt _ _ | exact is_self) (by first | assumption | exact is_ofInt _ _ | exact is_self) (by first | assumption | rfl) ?_) | (refine wl_widen rfl rfl rfl (by first | exact rfl | kernel_rfl) (by kernel_rfl) (by first | assumption | exact is_ofInt _ _ | exact is_self) ?_; intro r n hr) | (refine wl_neg rfl rfl rfl (by first | assumption | exact is_ofInt _ _ | exact is_self) ?_; intro r hr))
    go_ret2
    exact givesO_none hn.out (Ext.refl _)
  | true =>
  have hs : Hid (mirO (cl xs) = some (tabP (mirAt (cl xs)) xs.length)) := by unfold Hid mirO; rw [isTr_cl, ht0, cl_length]; rfl
  have hI0 := inB_yes ht0
  go_enter Try.func34, Try.ntmps34
  go_wp2_with (first | (go_at_call 76; refine (clone_any _ _ _ _ hc hl).mono ?_; rintro _ w1 ⟨v, rfl, hE1, hO1⟩; obtain ⟨a1, c1, rfl, _⟩ := OwnF.fr hO1; obtain ⟨g, rfl, hg1, hg2, _⟩ := OwnF.at hO1 (k := 0) (by omega)) | (go_at_call 77; refine (reverse_any _ _ _ _ _ _ hO1 rfl (by omega) (by omega) (by omega)).mono ?_; rintro _ w2 ⟨rfl, hG, hO2⟩) | (go_at_call 63; refine (within_any _ _ _ _ (by first | assumption | rfl) _).mono ?_; rintro _ _ ⟨rfl, rfl⟩) | (go_at_call 69; refine (l00In_any _ _ _ _ (by first | assumption | rfl) _).mono ?_; rintro _ _ ⟨rfl, rfl⟩) | (go_at_call 71; refine (isCount_any _ _ (by first | assumption | rfl) _).mono ?_; rintro _ _ ⟨rfl, rfl⟩) | (go_at_call 79; refine (isFilter_any _ _ (by first | assumption | rfl) _).mono ?_; rintro _ _ ⟨rfl, rfl⟩) | (go_at_call 70; refine (isTrace_any _ _ _ _ (by first | assumption | rfl) _).mono ?_; rintro _ _ ⟨rfl, rfl⟩) | (go_at_call 68; refine (l03Is_any _ _ _ _ (by first | assumption | rfl) (by omega) _).mono ?_; rintro _ _ ⟨rfl, rfl⟩) | (go_at_call 64; refine (length32_any _ _ _ _).mono ?_; rintro _ _ ⟨rfl, rfl⟩) | (go_at_call 108; refine (isFinite64_any _ _ _ (by assumption) (by first | assumption | rfl) _).mono ?_; rintro _ _ ⟨rfl, n, rfl⟩) | (go_at_call 105; refine (isFinite_any _ _ _ (by first | assumption | exact is_ofInt _ _ | exact is_self) (by first | assumption | rfl) _).mono ?_; rintro _ _ ⟨rfl, n, rfl⟩) | (go_at_call 101; refine (l01Finite_any _ _ _ (by first | assumption | exact is_ofInt _ _ | exact is_self) (by first | assumption | rfl) _).mono ?_; rintro _ _ ⟨rfl, n, rfl⟩))
  go_ret2
  exact givesO_some hs.out (hE1.grown hG (fun k hk => by injection hk with hk; omega)) hO2 (cl_mir xs)
def atF (l : List Nat) (n : Int) : Nat := if 0 ≤ n ∧ n < (l.length : Int) then el l n.toNat else 0
def shAt (l : List Nat) (d : Int) (k : Nat) : Nat := atF l ((k : Int) + d)
def shO (l : List Nat) (n : Int) : Option (List Nat) := if isTr l && inB n (-128) 128 then some (tabP (shAt l (-n)) l.length) else none
theorem shO_len (l : List Nat) (n : Int) : ((shO l n).getD []).length ≤ 1048576 :=
  gate_len (n := 128) (fun h => by simp only [Bool.and_eq_true] at h; rw [tabP_len]; exact isTr_le h.1) (by omega)
theorem at_any (ao : Option Addr) (cap : Nat) (xs : List Nat) (n : Int) (w : World) (hc : FR w ao xs) (hl : xs.length ≤ 128) (h1 : -1000 ≤ n) (h2 : n ≤ 1000) :
    Calls Try.prog 100 #[.slice ao xs.length cap, .int .i64 n] w fun e w' => e = .returned (.float .f32 (atF xs n)) ∧ w = w' := by
  cases ht : inB n 0 ((xs.length : Int) - 1) with
  | false =>
    have hn : Hid (atF xs n = 0) := by unfold Hid atF; have := inB_no ht; rw [if_neg (by omega)]
    go_enter Try.func100, Try.ntmps100
    go_wp2_with (first | (go_at_call 63; refine (within_any _ _ _ _ (by first | assumption | rfl) _).mono ?_; rintro _ _ ⟨rfl, rfl⟩) | (go_at_call 69; refine (l00In_any _ _ _ _ (by first | assumption | rfl) _).mono ?_; rintro _ _ ⟨rfl, rfl⟩) | (go_at_call 71; refine (isCount_any _ _ (by first | assumption | rfl) _).mono ?_; rintro _ _ ⟨rfl, rfl⟩) | (go_at_call 79; refine (isFilter_any _ _ (by first | assumption | rfl) _).mono ?_; rintro _ _ ⟨rfl, rfl⟩) | (go_at_call 70; refine (isTrace_any _ _ _ _ (by first | assumption | rfl) _).mono ?_; rintro _ _ ⟨rfl, rfl⟩) | (go_at_call 68; refine (l03Is_any _ _ _ _ (by first | assumption | rfl) (by omega) _).mono ?_; rintro _ _ ⟨rfl, rfl⟩) | (go_at_call 64; refine (length32_any _ _ _ _).mono ?_; rintro _ _ ⟨rfl, rfl⟩) | (go_at_call 108; refine (isFinite64_any _ _ _ (by assumption) (by first | assumption | rfl) _).mono ?_; rintro _ _ ⟨rfl, n, rfl⟩) | (go_at_call 105; refine (isFinite_any _ _ _ (by first | assumption | exact is_ofInt _ _ | exact is_self) (by first | assumption | rfl) _).mono ?_; rintro _ _ ⟨rfl, n, rfl⟩) | (go_at_call 101; refine (l01Finite_any _ _ _ (by first | assumption | exact is_ofInt _ _ | exact is_self) (by first | assumption | rfl) _).mono ?_; rintro _ _ ⟨rfl, n, rfl⟩) | (refine wl_bin rfl rfl rfl rfl rfl (by first | assumption | exact is_ofInt _ _ | exact is_self) (by first | assumption | exact is_ofInt _ _ | exact is_self) ?_; intro r n hr) | (refine wl_cmp rfl rfl rfl rfl rfl (by first | assumption | exact is_ofInt _ _ | exact is_self) (by first | assumption | exact is_ofInt _ _ | exact is_self) (by first | assumption | rfl) ?_) | (refine wl_widen rfl rfl rfl (by first | exact rfl | kernel_rfl) (by kernel_rfl) (by first | assumption | exact is_ofInt _ _ | exact is_self) ?_; intro r n hr) | (refine wl_neg rfl rfl rfl (by first | assumption | exact is_ofInt _ _ | exact is_self) ?_; intro r hr))
    go_ret
    exact ⟨by rw [hn.out]; rfl, rfl⟩
  | true =>
    have h3 := inB_yes ht
    have hn : Hid (atF xs n = el xs n.toNat) := by unfold Hid atF; rw [if_pos (by omega)]
    obtain ⟨m, rfl⟩ := Int.eq_ofNat_of_zero_le h3.1
    obtain ⟨b, off, rfl, hcell⟩ := hc m (by omega)
    have hlt : m < xs.length := by omega
    go_enter Try.func100, Try.ntmps100
    go_wp2_with (first | (go_at_call 63; refine (within_any _ _ _ _ (by first | assumption | rfl) _).mono ?_; rintro _ _ ⟨rfl, rfl⟩) | (go_at_call 69; refine (l00In_any _ _ _ _ (by first | assumption | rfl) _).mono ?_; rintro _ _ ⟨rfl, rfl⟩) | (go_at_call 71; refine (isCount_any _ _ (by first | assumption | rfl) _).mono ?_; rintro _ _ ⟨rfl, rfl⟩) | (go_at_call 79; refine (isFilter_any _ _ (by first | assumption | rfl) _).mono ?_; rintro _ _ ⟨rfl, rfl⟩) | (go_at_call 70; refine (isTrace_any _ _ _ _ (by first | assumption | rfl) _).mono ?_; rintro _ _ ⟨rfl, rfl⟩) | (go_at_call 68; refine (l03Is_any _ _ _ _ (by first | assumption | rfl) (by omega) _).mono ?_; rintro _ _ ⟨rfl, rfl⟩) | (go_at_call 64; refine (length32_any _ _ _ _).mono ?_; rintro _ _ ⟨rfl, rfl⟩) | (go_at_call 108; refine (isFinite64_any _ _ _ (by assumption) (by first | assumption | rfl) _).mono ?_; rintro _ _ ⟨rfl, n, rfl⟩) | (go_at_call 105; refine (isFinite_any _ _ _ (by first | assumption | exact is_ofInt _ _ | exact is_self) (by first | assumption | rfl) _).mono ?_; rintro _ _ ⟨rfl, n, rfl⟩) | (go_at_call 101; refine (l01Finite_any _ _ _ (by first | assumption | exact is_ofInt _ _ | exact is_self) (by first | assumption | rfl) _).mono ?_; rintro _ _ ⟨rfl, n, rfl⟩) | (refine wl_bin rfl rfl rfl rfl rfl (by first | assumption | exact is_ofInt _ _ | exact is_self) (by first | assumption | exact is_ofInt _ _ | exact is_self) ?_; intro r n hr) | (refine wl_cmp rfl rfl rfl rfl rfl (by first | assumption | exact is_ofInt _ _ | exact is_self) (by first | assumption | exact is_ofInt _ _ | exact is_self) (by first | assumption | rfl) ?_) | (refine wl_widen rfl rfl rfl (by first | exact rfl | kernel_rfl) (by kernel_rfl) (by first | assumption | exact is_ofInt _ _ | exact is_self) ?_; intro r n hr) | (refine wl_neg rfl rfl rfl (by first | assumption | exact is_ofInt _ _ | exact is_self) ?_; intro r hr))
    go_ret
    exact ⟨by rw [hn.out]; rfl, rfl⟩
theorem is_atF (xs : List Nat) (n : Int) : Is .f32 (atF xs n) (atF (cl xs) n) := by
  unfold atF
  rw [cl_length]
  split
  · exact is_el (by omega)
  · exact canon_of_not (by decide +kernel)
theorem skip_zero {F : Nat → Nat} {k n : Nat} {ys : List Nat} (h : cl ys = tabP F k ++ List.drop k (List.replicate n 0)) (hk : k < n) (h0 : F k = 0) : Hid (cl ys = tabP F (k + 1) ++ List.drop (k + 1) (List.replicate n 0)) := by
  unfold Hid
  rw [h, tabP_succ, h0, List.drop_replicate, List.drop_replicate, show n - k = (n - (k + 1)) + 1 by omega, List.replicate_succ, List.append_assoc]
  rfl
set_option maxHeartbeats 2000000 in
theorem shifted_any (ao : Option Addr) (cap : Nat) (xs : List Nat) (d : Int) (w : World) (hc : FR w ao xs) (hl : xs.length ≤ 128) (h1 : -200 ≤ d) (h2 : d ≤ 200) :
    Calls Try.prog 93 #[.slice ao xs.length cap, .int .i64 d] w (GivesS (tabP (shAt (cl xs) d) xs.length) w) := by
  obtain ⟨i0, hi0, hz0, hs0, hb0⟩ := info_parts info32
  go_enter Try.func93, Try.ntmps93
  go_wp2_with (first | (at_make; refine wl_make1 rfl Try.underlying22 hi0 hz0 hs0 hb0 rfl rfl rfl rfl rfl (by omega) ?_; intro w1 hO1 hE1))
  have hg1 : w.heap.size ≤ w.heap.size := Nat.le_refl _
  go_loopw [12] (fun i wr => ∃ (k : Nat) (ys : List Nat), k ≤ xs.length ∧ i = .int .i64 k ∧ OwnF wr w.heap.size (.slice (some ⟨w.heap.size, 0, none⟩) (xs.length) (xs.length)) ys ∧ Hid (ys.length = xs.length) ∧ Hid (cl ys = tabP (shAt (cl xs) d) k ++ List.drop k (List.replicate (xs.length) 0)) ∧ Ext w wr) (fun i _ => xs.length - (intOf i).toNat)
  case atStart => exact ⟨0, _, Nat.zero_le _, rfl, hO1, by simp [Hid], set_start _ _ (cl_zeros _), hE1⟩
  case round =>
    obtain ⟨k, ys, hk, rfl, hO, hyl, hcl, hE⟩ := hrel
    clear hO1 hE1
    by_cases hlt : k < xs.length
    · obtain ⟨hcur, hfz⟩ := OwnF.at' hO (k := k) (by rw [hyl.out]; exact hlt)
      have hst := hO.stored k (atF xs ((k : Int) + d))
      have HO := Lib.hid hst.1
      clear hst
      have HS := set_step hcl.out (by simp; omega) (is_atF xs ((k : Int) + d))
      go_wp2_with (first | (go_at_call 100; refine (at_any _ _ _ _ _ (hc.ext hE) (by omega) (by omega) (by omega)).mono ?_; rintro _ _ ⟨rfl, rfl⟩))
      go_roundw
      case rel => exact ⟨k + 1, _, by omega, by go_num, HO.out, by unfold Hid; rw [List.length_set]; exact hyl.out, HS, (by repeat (first | assumption | exact Ext.refl _ | apply Ext.drewN | apply Ext.alloc | (refine Ext.setCell ?_ (by first | assumption | exact Nat.le_refl _) _)))⟩
      case measure => simp [intOf]; omega
    · go_wp2
      go_ret
      obtain rfl : xs.length = k := by omega
      exact ⟨_, _, rfl, hE, hO, set_done hcl.out (by simp)⟩
set_option maxHeartbeats 2000000 in
theorem l03Shift_any (ao : Option Addr) (cap : Nat) (xs : List Nat) (d : Int) (w : World) (hc : FR w ao xs) (hl : xs.length ≤ 128) (h1 : -200 ≤ d) (h2 : d ≤ 200) :
    Calls Try.prog 92 #[.slice ao xs.length cap, .int .i64 d] w (GivesS (tabP (shAt (cl xs) (-d)) xs.length) w) := by
  obtain ⟨i0, hi0, hz0, hs0, hb0⟩ := info_parts info32
  go_enter Try.func92, Try.ntmps92
  go_wp2_with (first | (at_make; refine wl_make1 rfl Try.underlying22 hi0 hz0 hs0 hb0 rfl rfl rfl rfl rfl (by omega) ?_; intro w1 hO1 hE1))
  have hg1 : w.heap.size ≤ w.heap.size := Nat.le_refl _
  go_loopw [13] (fun i wr => ∃ (k : Nat) (ys : List Nat), k ≤ xs.length ∧ i = .int .i64 k ∧ OwnF wr w.heap.size (.slice (some ⟨w.heap.size, 0, none⟩) (xs.length) (xs.length)) ys ∧ Hid (ys.length = xs.length) ∧ Hid (cl ys = tabP (shAt (cl xs) (-d)) k ++ List.drop k (List.replicate (xs.length) 0)) ∧ Ext w wr) (fun i _ => xs.length - (intOf i).toNat)
  case atStart => exact ⟨0, _, Nat.zero_le _, rfl, hO1, by simp [Hid], set_start _ _ (cl_zeros _), hE1⟩
  case round =>
    obtain ⟨k, ys, hk, rfl, hO, hyl, hcl, hE⟩ := hrel
    clear hO1 hE1
    by_cases hlt : k < xs.length
    · cases ht : inB ((k : Int) - d) 0 ((xs.length : Int) - 1) with
      | true =>
        have hI := inB_yes ht
        obtain ⟨q, hq⟩ := Int.eq_ofNat_of_zero_le hI.1
        have hlq : q < xs.length := by omega
        obtain ⟨b, off, rfl, hcell⟩ := hc.ext hE q hlq
        have HA : Hid (Is .f32 (el xs q) (shAt (cl xs) (-d) k)) := by
          unfold Hid shAt atF
          rw [cl_length, if_pos (by omega), show ((k : Int) + -d).toNat = q by omega]
          exact is_el hlq
        obtain ⟨hcur, hfz⟩ := OwnF.at' hO (k := k) (by rw [hyl.out]; exact hlt)
        have hst := hO.stored k (el xs q)
        have HO := Lib.hid hst.1
        clear hst
        have HS := set_step hcl.out (by simp; omega) HA.out
        have HQ := Lib.hid hq
        have e3 : ((k : Int) - d).toNat = q := by omega
        have e2 : d ≤ (k : Int) := by omega
        have e4 : (k : Int) - d < (xs.length : Int) := by omega
        clear hq
        go_wp2_with (first | (go_at_call 63; refine (within_any _ _ _ _ (by first | assumption | rfl) _).mono ?_; rintro _ _ ⟨rfl, rfl⟩) | (go_at_call 69; refine (l00In_any _ _ _ _ (by first | assumption | rfl) _).mono ?_; rintro _ _ ⟨rfl, rfl⟩) | (go_at_call 71; refine (isCount_any _ _ (by first | assumption | rfl) _).mono ?_; rintro _ _ ⟨rfl, rfl⟩) | (go_at_call 79; refine (isFilter_any _ _ (by first | assumption | rfl) _).mono ?_; rintro _ _ ⟨rfl, rfl⟩) | (go_at_call 70; refine (isTrace_any _ _ _ _ (by first | assumption | rfl) _).mono ?_; rintro _ _ ⟨rfl, rfl⟩) | (go_at_call 68; refine (l03Is_any _ _ _ _ (by first | assumption | rfl) (by omega) _).mono ?_; rintro _ _ ⟨rfl, rfl⟩) | (go_at_call 64; refine (length32_any _ _ _ _).mono ?_; rintro _ _ ⟨rfl, rfl⟩) | (go_at_call 108; refine (isFinite64_any _ _ _ (by assumption) (by first | assumption | rfl) _).mono ?_; rintro _ _ ⟨rfl, n, rfl⟩) | (go_at_call 105; refine (isFinite_any _ _ _ (by first | assumption | exact is_ofInt _ _ | exact is_self) (by first | assumption | rfl) _).mono ?_; rintro _ _ ⟨rfl, n, rfl⟩) | (go_at_call 101; refine (l01Finite_any _ _ _ (by first | assumption | exact is_ofInt _ _ | exact is_self) (by first | assumption | rfl) _).mono ?_; rintro _ _ ⟨rfl, n, rfl⟩))
        go_roundw
        case rel => exact ⟨k + 1, _, by omega, by go_num, HO.out, by unfold Hid; rw [List.length_set]; exact hyl.out, HS, (by repeat (first | assumption | exact Ext.refl _ | apply Ext.drewN | apply Ext.alloc | (refine Ext.setCell ?_ (by first | assumption | exact Nat.le_refl _) _)))⟩
        case measure => simp [intOf]; omega
      | false =>
        have hI := inB_no ht
        have HS := skip_zero hcl.out hlt (show shAt (cl xs) (-d) k = 0 by unfold shAt atF; rw [cl_length, if_neg (by omega)])
        go_wp2_with (first | (go_at_call 63; refine (within_any _ _ _ _ (by first | assumption | rfl) _).mono ?_; rintro _ _ ⟨rfl, rfl⟩) | (go_at_call 69; refine (l00In_any _ _ _ _ (by first | assumption | rfl) _).mono ?_; rintro _ _ ⟨rfl, rfl⟩) | (go_at_call 71; refine (isCount_any _ _ (by first | assumption | rfl) _).mono ?_; rintro _ _ ⟨rfl, rfl⟩) | (go_at_call 79; refine (isFilter_any _ _ (by first | assumption | rfl) _).mono ?_; rintro _ _ ⟨rfl, rfl⟩) | (go_at_call 70; refine (isTrace_any _ _ _ _ (by first | assumption | rfl) _).mono ?_; rintro _ _ ⟨rfl, rfl⟩) | (go_at_call 68; refine (l03Is_any _ _ _ _ (by first | assumption | rfl) (by omega) _).mono ?_; rintro _ _ ⟨rfl, rfl⟩) | (go_at_call 64; refine (length32_any _ _ _ _).mono ?_; rintro _ _ ⟨rfl, rfl⟩) | (go_at_call 108; refine (isFinite64_any _ _ _ (by assumption) (by first | assumption | rfl) _).mono ?_; rintro _ _ ⟨rfl, n, rfl⟩) | (go_at_call 105; refine (isFinite_any _ _ _ (by first | assumption | exact is_ofInt _ _ | exact is_self) (by first | assumption | rfl) _).mono ?_; rintro _ _ ⟨rfl, n, rfl⟩) | (go_at_call 101; refine (l01Finite_any _ _ _ (by first | assumption | exact is_ofInt _ _ | exact is_self) (by first | assumption | rfl) _).mono ?_; rintro _ _ ⟨rfl, n, rfl⟩))
        go_roundw
        case rel => exact ⟨k + 1, _, by omega, by go_num, hO, hyl, HS, (by repeat (first | assumption | exact Ext.refl _ | apply Ext.drewN | apply Ext.alloc | (refine Ext.setCell ?_ (by first | assumption | exact Nat.le_refl _) _)))⟩
        case measure => simp [intOf]; omega
    · go_wp2
      go_ret
      obtain rfl : xs.length = k := by omega
      exact ⟨_, _, rfl, hE, hO, set_done hcl.out (by simp)⟩
set_option maxHeartbeats 1000000 in
theorem specShift_any (ao : Option Addr) (cap : Nat) (xs : List Nat) (n : Int) (w : World) (hc : FR w ao xs) (hl : xs.length ≤ 1048576) (_ : -9223372036854775808 ≤ n) (_ : n ≤ 9223372036854775807) :
    Calls Try.prog 48 #[.slice ao xs.length cap, .int .i64 n] w (GivesO (shO (cl xs) n) w) := by
  cases ht0 : inB (xs.length : Int) 1 128 with
  | false =>
    have hn : Hid (shO (cl xs) n = none) := by unfold Hid shO; rw [isTr_cl, ht0]; rfl
    go_enter Try.func48, Try.ntmps48
    go_wp2_with (first | (go_at_call 63; refine (within_any _ _ _ _ (by first | assumption | rfl) _).mono ?_; rintro _ _ ⟨rfl, rfl⟩) | (go_at_call 69; refine (l00In_any _ _ _ _ (by first | assumption | rfl) _).mono ?_; rintro _ _ ⟨rfl, rfl⟩) | (go_at_call 71; refine (isCount_any _ _ (by first | assumption | rfl) _).mono ?_; rintro _ _ ⟨rfl, rfl⟩) | (go_at_call 79; refine (isFilter_any _ _ (by first | assumption | rfl) _).mono ?_; rintro _ _ ⟨rfl, rfl⟩) | (go_at_call 70; refine (isTrace_any _ _ _ _ (by first | assumption | rfl) _).mono ?_; rintro _ _ ⟨rfl, rfl⟩) | (go_at_call 68; refine (l03Is_any _ _ _ _ (by first | assumption | rfl) (by omega) _).mono ?_; rintro _ _ ⟨rfl, rfl⟩) | (go_at_call 64; refine (length32_any _ _ _ _).mono ?_; rintro _ _ ⟨rfl, rfl⟩) | (go_at_call 108; refine (isFinite64_any _ _ _ (by assumption) (by first | assumption | rfl) _).mono ?_; rintro _ _ ⟨rfl, n, rfl⟩) | (go_at_call 105; refine (isFinite_any _ _ _ (by first | assumption | exact is_ofInt _ _ | exact is_self) (by first | assumption | rfl) _).mono ?_; rintro _ _ ⟨rfl, n, rfl⟩) | (go_at_call 101; refine (l01Finite_any _ _ _ (by first | assumption | exact is_ofInt _ _ | exact is_self) (by first | assumption | rfl) _).mono ?_; rintro _ _ ⟨rfl, n, rfl⟩) | (refine wl_bin rfl rfl rfl rfl rfl (by first | assumption | exact is_ofInt _ _ | exact is_self) (by first | assumption | exact is_ofInt _ _ | exact is_self) ?_; intro r n hr) | (refine wl_cmp rfl rfl rfl rfl rfl (by first | assumption | exact is_ofInt _ _ | exact is_self) (by first | assumption | exact is_ofInt _ _ | exact is_self) (by first | assumption | rfl) ?_) | (refine wl_widen rfl rfl rfl (by first | exact rfl | kernel_rfl) (by kernel_rfl) (by first | assumption | exact is_ofInt _ _ | exact is_self) ?_; intro r n hr) | (refine wl_neg rfl rfl rfl (by first | assumption | exact is_ofInt _ _ | exact is_self) ?_; intro r hr))
    go_ret2
    exact givesO_none hn.out (Ext.refl _)
  | true =>
  cases ht1 : inB n (-128) 128 with
  | false =>
    have hn : Hid (shO (cl xs) n = none) := by unfold Hid shO; rw [isTr_cl, ht0, ht1]; first | rfl | (rw [cl_length]; rfl)
    go_enter Try.func48, Try.ntmps48
    go_wp2_with (first | (go_at_call 63; refine (within_any _ _ _ _ (by first | assumption | rfl) _).mono ?_; rintro _ _ ⟨rfl, rfl⟩) | (go_at_call 69; refine (l00In_any _ _ _ _ (by first | assumption | rfl) _).mono ?_; rintro _ _ ⟨rfl, rfl⟩) | (go_at_call 71; refine (isCount_any _ _ (by first | assumption | rfl) _).mono ?_; rintro _ _ ⟨rfl, rfl⟩) | (go_at_call 79; refine (isFilter_any _ _ (by first | assumption | rfl) _).mono ?_; rintro _ _ ⟨rfl, rfl⟩) | (go_at_call 70; refine (isTrace_any _ _ _ _ (by first | assumption | rfl) _).mono ?_; rintro _ _ ⟨rfl, rfl⟩) | (go_at_call 68; refine (l03Is_any _ _ _ _ (by first | assumption | rfl) (by omega) _).mono ?_; rintro _ _ ⟨rfl, rfl⟩) | (go_at_call 64; refine (length32_any _ _ _ _).mono ?_; rintro _ _ ⟨rfl, rfl⟩) | (go_at_call 108; refine (isFinite64_any _ _ _ (by assumption) (by first | assumption | rfl) _).mono ?_; rintro _ _ ⟨rfl, n, rfl⟩) | (go_at_call 105; refine (isFinite_any _ _ _ (by first | assumption | exact is_ofInt _ _ | exact is_self) (by first | assumption | rfl) _).mono ?_; rintro _ _ ⟨rfl, n, rfl⟩) | (go_at_call 101; refine (l01Finite_any _ _ _ (by first | assumption | exact is_ofInt _ _ | exact is_self) (by first | assumption | rfl) _).mono ?_; rintro _ _ ⟨rfl, n, rfl⟩) | (refine wl_bin rfl rfl rfl rfl rfl (by first | assumption | exact is_ofInt _ _ | exact is_self) (by first | assumption | exact is_ofInt _ _ | exact is_self) ?_; intro r n hr) | (refine wl_cmp rfl rfl rfl rfl rfl (by first | assumption | exact is_ofInt _ _ | exact is_self) (by first | assumption | exact is_ofInt _ _ | exact is_self) (by first | assumption | rfl) ?_) | (refine wl_widen rfl rfl rfl (by first | exact rfl | kernel_rfl) (by kernel_rfl) (by first | assumption | exact is_ofInt _ _ | exact is_self) ?_; intro r n hr) | (refine wl_neg rfl rfl rfl (by first | assumption | exact is_ofInt _ _ | exact is_self) ?_; intro r hr))
    go_ret2
    exact givesO_none hn.out (Ext.refl _)
  | true =>
  have hs : Hid (shO (cl xs) n = some (tabP (shAt (cl xs) (-n)) xs.length)) := by unfold Hid shO; rw [isTr_cl, ht0, ht1]; first | rfl | (rw [cl_length]; rfl)
  have hI0 := inB_yes ht0
  have hI1 := inB_yes ht1
  go_enter Try.func48, Try.ntmps48
  go_wp2_with (first | (go_at_call 92; refine (l03Shift_any _ _ _ _ _ hc (by omega) (by omega) (by omega)).mono ?_; rintro _ w1 ⟨v, ys, rfl, hE, hO, hcl⟩; (have HCL := Lib.hid hcl; clear hcl)) | (go_at_call 63; refine (within_any _ _ _ _ (by first | assumption | rfl) _).mono ?_; rintro _ _ ⟨rfl, rfl⟩) | (go_at_call 69; refine (l00In_any _ _ _ _ (by first | assumption | rfl) _).mono ?_; rintro _ _ ⟨rfl, rfl⟩) | (go_at_call 71; refine (isCount_any _ _ (by first | assumption | rfl) _).mono ?_; rintro _ _ ⟨rfl, rfl⟩) | (go_at_call 79; refine (isFilter_any _ _ (by first | assumption | rfl) _).mono ?_; rintro _ _ ⟨rfl, rfl⟩) | (go_at_call 70; refine (isTrace_any _ _ _ _ (by first | assumption | rfl) _).mono ?_; rintro _ _ ⟨rfl, rfl⟩) | (go_at_call 68; refine (l03Is_any _ _ _ _ (by first | assumption | rfl) (by omega) _).mono ?_; rintro _ _ ⟨rfl, rfl⟩) | (go_at_call 64; refine (length32_any _ _ _ _).mono ?_; rintro _ _ ⟨rfl, rfl⟩) | (go_at_call 108; refine (isFinite64_any _ _ _ (by assumption) (by first | assumption | rfl) _).mono ?_; rintro _ _ ⟨rfl, n, rfl⟩) | (go_at_call 105; refine (isFinite_any _ _ _ (by first | assumption | exact is_ofInt _ _ | exact is_self) (by first | assumption | rfl) _).mono ?_; rintro _ _ ⟨rfl, n, rfl⟩) | (go_at_call 101; refine (l01Finite_any _ _ _ (by first | assumption | exact is_ofInt _ _ | exact is_self) (by first | assumption | rfl) _).mono ?_; rintro _ _ ⟨rfl, n, rfl⟩) | (refine wl_bin rfl rfl rfl rfl rfl (by first | assumption | exact is_ofInt _ _ | exact is_self) (by first | assumption | exact is_ofInt _ _ | exact is_self) ?_; intro r n hr) | (refine wl_cmp rfl rfl rfl rfl rfl (by first | assumption | exact is_ofInt _ _ | exact is_self) (by first | assumption | exact is_ofInt _ _ | exact is_self) (by first | assumption | rfl) ?_) | (refine wl_widen rfl rfl rfl (by first | exact rfl | kernel_rfl) (by kernel_rfl) (by first | assumption | exact is_ofInt _ _ | exact is_self) ?_; intro r n hr) | (refine wl_neg rfl rfl rfl (by first | assumption | exact is_ofInt _ _ | exact is_self) ?_; intro r hr))
  go_ret2
  exact givesO_some hs.out hE hO HCL.out
set_option maxHeartbeats 1000000 in
theorem shift_any (ao : Option Addr) (cap : Nat) (xs : List Nat) (n : Int) (w : World) (hc : FR w ao xs) (hl : xs.length ≤ 1048576) (_ : -9223372036854775808 ≤ n) (_ : n ≤ 9223372036854775807) :
    Calls Try.prog 49 #[.slice ao xs.length cap, .int .i64 n] w (GivesO (shO (cl xs) n) w) := by
  cases ht0 : inB (xs.length : Int) 1 128 with
  | false =>
    have hn : Hid (shO (cl xs) n = none) := by unfold Hid shO; rw [isTr_cl, ht0]; rfl
    go_enter Try.func49, Try.ntmps49
    go_wp2_with (first | (go_at_call 63; refine (within_any _ _ _ _ (by first | assumption | rfl) _).mono ?_; rintro _ _ ⟨rfl, rfl⟩) | (go_at_call 69; refine (l00In_any _ _ _ _ (by first | assumption | rfl) _).mono ?_; rintro _ _ ⟨rfl, rfl⟩) | (go_at_call 71; refine (isCount_any _ _ (by first | assumption | rfl) _).mono ?_; rintro _ _ ⟨rfl, rfl⟩) | (go_at_call 79; refine (isFilter_any _ _ (by first | assumption | rfl) _).mono ?_; rintro _ _ ⟨rfl, rfl⟩) | (go_at_call 70; refine (isTrace_any _ _ _ _ (by first | assumption | rfl) _).mono ?_; rintro _ _ ⟨rfl, rfl⟩) | (go_at_call 68; refine (l03Is_any _ _ _ _ (by first | assumption | rfl) (by omega) _).mono ?_; rintro _ _ ⟨rfl, rfl⟩) | (go_at_call 64; refine (length32_any _ _ _ _).mono ?_; rintro _ _ ⟨rfl, rfl⟩) | (go_at_call 108; refine (isFinite64_any _ _ _ (by assumption) (by first | assumption | rfl) _).mono ?_; rintro _ _ ⟨rfl, n, rfl⟩) | (go_at_call 105; refine (isFinite_any _ _ _ (by first | assumption | exact is_ofInt _ _ | exact is_self) (by first | assumption | rfl) _).mono ?_; rintro _ _ ⟨rfl, n, rfl⟩) | (go_at_call 101; refine (l01Finite_any _ _ _ (by first | assumption | exact is_ofInt _ _ | exact is_self) (by first | assumption | rfl) _).mono ?_; rintro _ _ ⟨rfl, n, rfl⟩) | (refine wl_bin rfl rfl rfl rfl rfl (by first | assumption | exact is_ofInt _ _ | exact is_self) (by first | assumption | exact is_ofInt _ _ | exact is_self) ?_; intro r n hr) | (refine wl_cmp rfl rfl rfl rfl rfl (by first | assumption | exact is_ofInt _ _ | exact is_self) (by first | assumption | exact is_ofInt _ _ | exact is_self) (by first | assumption | rfl) ?_) | (refine wl_widen rfl rfl rfl (by first | exact rfl | kernel_rfl) (by kernel_rfl) (by first | assumption | exact is_ofInt _ _ | exact is_self) ?_; intro r n hr) | (refine wl_neg rfl rfl rfl (by first | assumption | exact is_ofInt _ _ | exact is_self) ?_; intro r hr))
    go_ret2
    exact givesO_none hn.out (Ext.refl _)
  | true =>
  cases ht1 : inB n (-128) 128 with
  | false =>
    have hn : Hid (shO (cl xs) n = none) := by unfold Hid shO; rw [isTr_cl, ht0, ht1]; first | rfl | (rw [cl_length]; rfl)
    go_enter Try.func49, Try.ntmps49
    go_wp2_with (first | (go_at_call 63; refine (within_any _ _ _ _ (by first | assumption | rfl) _).mono ?_; rintro _ _ ⟨rfl, rfl⟩) | (go_at_call 69; refine (l00In_any _ _ _ _ (by first | assumption | rfl) _).mono ?_; rintro _ _ ⟨rfl, rfl⟩) | (go_at_call 71; refine (isCount_any _ _ (by first | assumption | rfl) _).mono ?_; rintro _ _ ⟨rfl, rfl⟩) | (go_at_call 79; refine (isFilter_any _ _ (by first | assumption | rfl) _).mono ?_; rintro _ _ ⟨rfl, rfl⟩) | (go_at_call 70; refine (isTrace_any _ _ _ _ (by first | assumption | rfl) _).mono ?_; rintro _ _ ⟨rfl, rfl⟩) | (go_at_call 68; refine (l03Is_any _ _ _ _ (by first | assumption | rfl) (by omega) _).mono ?_; rintro _ _ ⟨rfl, rfl⟩) | (go_at_call 64; refine (length32_any _ _ _ _).mono ?_; rintro _ _ ⟨rfl, rfl⟩) | (go_at_call 108; refine (isFinite64_any _ _ _ (by assumption) (by first | assumption | rfl) _).mono ?_; rintro _ _ ⟨rfl, n, rfl⟩) | (go_at_call 105; refine (isFinite_any _ _ _ (by first | assumption | exact is_ofInt _ _ | exact is_self) (by first | assumption | rfl) _).mono ?_; rintro _ _ ⟨rfl, n, rfl⟩) | (go_at_call 101; refine (l01Finite_any _ _ _ (by first | assumption | exact is_ofInt _ _ | exact is_self) (by first | assumption | rfl) _).mono ?_; rintro _ _ ⟨rfl, n, rfl⟩) | (refine wl_bin rfl rfl rfl rfl rfl (by first | assumption | exact is_ofInt _ _ | exact is_self) (by first | assumption | exact is_ofInt _ _ | exact is_self) ?_; intro r n hr) | (refine wl_cmp rfl rfl rfl rfl rfl (by first | assumption | exact is_ofInt _ _ | exact is_self) (by first | assumption | exact is_ofInt _ _ | exact is_self) (by first | assumption | rfl) ?_) | (refine wl_widen rfl rfl rfl (by first | exact rfl | kernel_rfl) (by kernel_rfl) (by first | assumption | exact is_ofInt _ _ | exact is_self) ?_; intro r n hr) | (refine wl_neg rfl rfl rfl (by first | assumption | exact is_ofInt _ _ | exact is_self) ?_; intro r hr))
    go_ret2
    exact givesO_none hn.out (Ext.refl _)
  | true =>
  have hs : Hid (shO (cl xs) n = some (tabP (shAt (cl xs) (-n)) xs.length)) := by unfold Hid shO; rw [isTr_cl, ht0, ht1]; first | rfl | (rw [cl_length]; rfl)
  have hI0 := inB_yes ht0
  have hI1 := inB_yes ht1
  go_enter Try.func49, Try.ntmps49
  go_wp2_with (first | (go_at_call 93; refine (shifted_any _ _ _ _ _ hc (by omega) (by omega) (by omega)).mono ?_; rintro _ w1 ⟨v, ys, rfl, hE, hO, hcl⟩; (have HCL := Lib.hid hcl; clear hcl)) | (go_at_call 63; refine (within_any _ _ _ _ (by first | assumption | rfl) _).mono ?_; rintro _ _ ⟨rfl, rfl⟩) | (go_at_call 69; refine (l00In_any _ _ _ _ (by first | assumption | rfl) _).mono ?_; rintro _ _ ⟨rfl, rfl⟩) | (go_at_call 71; refine (isCount_any _ _ (by first | assumption | rfl) _).mono ?_; rintro _ _ ⟨rfl, rfl⟩) | (go_at_call 79; refine (isFilter_any _ _ (by first | assumption | rfl) _).mono ?_; rintro _ _ ⟨rfl, rfl⟩) | (go_at_call 70; refine (isTrace_any _ _ _ _ (by first | assumption | rfl) _).mono ?_; rintro _ _ ⟨rfl, rfl⟩) | (go_at_call 68; refine (l03Is_any _ _ _ _ (by first | assumption | rfl) (by omega) _).mono ?_; rintro _ _ ⟨rfl, rfl⟩) | (go_at_call 64; refine (length32_any _ _ _ _).mono ?_; rintro _ _ ⟨rfl, rfl⟩) | (go_at_call 108; refine (isFinite64_any _ _ _ (by assumption) (by first | assumption | rfl) _).mono ?_; rintro _ _ ⟨rfl, n, rfl⟩) | (go_at_call 105; refine (isFinite_any _ _ _ (by first | assumption | exact is_ofInt _ _ | exact is_self) (by first | assumption | rfl) _).mono ?_; rintro _ _ ⟨rfl, n, rfl⟩) | (go_at_call 101; refine (l01Finite_any _ _ _ (by first | assumption | exact is_ofInt _ _ | exact is_self) (by first | assumption | rfl) _).mono ?_; rintro _ _ ⟨rfl, n, rfl⟩) | (refine wl_bin rfl rfl rfl rfl rfl (by first | assumption | exact is_ofInt _ _ | exact is_self) (by first | assumption | exact is_ofInt _ _ | exact is_self) ?_; intro r n hr) | (refine wl_cmp rfl rfl rfl rfl rfl (by first | assumption | exact is_ofInt _ _ | exact is_self) (by first | assumption | exact is_ofInt _ _ | exact is_self) (by first | assumption | rfl) ?_) | (refine wl_widen rfl rfl rfl (by first | exact rfl | kernel_rfl) (by kernel_rfl) (by first | assumption | exact is_ofInt _ _ | exact is_self) ?_; intro r n hr) | (refine wl_neg rfl rfl rfl (by first | assumption | exact is_ofInt _ _ | exact is_self) ?_; intro r hr))
  go_ret2
  exact givesO_some hs.out hE hO HCL.out
end Go.Proofs.Ytkodneoncancdaa
