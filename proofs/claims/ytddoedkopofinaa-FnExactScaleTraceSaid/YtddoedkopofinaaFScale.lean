/- ScaleTrace: the reference's and the program's. -/
import Derived.Test.YtddoedkopofinaaTab
namespace Go.Proofs.Ytddoedkopofinaa
open Go.RowKit

def scaleAt (l : List Nat) (q k : Nat) : Nat := fop .mul .f32 (el l k) q
def scaleO (l : List Nat) (q : Nat) : Option (List Nat) := if isTr l then some (tabP (scaleAt l q) l.length) else none
theorem scaleO_len (l : List Nat) (q : Nat) : ((scaleO l q).getD []).length ≤ 1048576 :=
  gate_len (n := 128) (fun h => by rw [tabP_len]; exact isTr_le h) (by omega)
set_option maxHeartbeats 1000000 in
theorem scale_any (ao : Option Addr) (cap : Nat) (xs : List Nat) (m q : Nat) (w : World) (hc : FR w ao xs) (hl : xs.length ≤ 1048576) (hq : Is .f32 m q) :
    Calls Try.prog 38 #[.slice ao xs.length cap, .float .f32 m] w (GivesO (scaleO (cl xs) q) w) := by
  cases ht : inB (xs.length : Int) 1 128 with
  | false =>
    have hn : Hid (scaleO (cl xs) q = none) := by unfold scaleO Hid; rw [isTr_cl, ht]; rfl
    go_enter Try.func38, Try.ntmps38
    go_wp2_with (first | (go_at_call 97; refine (within_any _ _ _ _ (by first | assumption | rfl) _).mono ?_; rintro _ _ ⟨rfl, rfl⟩) | (go_at_call 69; refine (l00In_any _ _ _ _ (by first | assumption | rfl) _).mono ?_; rintro _ _ ⟨rfl, rfl⟩) | (go_at_call 71; refine (isCount_any _ _ (by first | assumption | rfl) _).mono ?_; rintro _ _ ⟨rfl, rfl⟩) | (go_at_call 82; refine (isFilter_any _ _ (by first | assumption | rfl) _).mono ?_; rintro _ _ ⟨rfl, rfl⟩) | (go_at_call 70; refine (isTrace_any _ _ _ _ (by first | assumption | rfl) _).mono ?_; rintro _ _ ⟨rfl, rfl⟩) | (go_at_call 68; refine (l03Is_any _ _ _ _ (by first | assumption | rfl) (by omega) _).mono ?_; rintro _ _ ⟨rfl, rfl⟩) | (go_at_call 90; refine (length32_any _ _ _ _).mono ?_; rintro _ _ ⟨rfl, rfl⟩) | (go_at_call 120; refine (isFinite64_any _ _ _ (by assumption) (by first | assumption | rfl) _).mono ?_; rintro _ _ ⟨rfl, n, rfl⟩) | (go_at_call 117; refine (isFinite_any _ _ _ (by first | assumption | exact is_ofInt _ _ | exact is_self) (by first | assumption | rfl) _).mono ?_; rintro _ _ ⟨rfl, n, rfl⟩) | (go_at_call 112; refine (l01Finite_any _ _ _ (by first | assumption | exact is_ofInt _ _ | exact is_self) (by first | assumption | rfl) _).mono ?_; rintro _ _ ⟨rfl, n, rfl⟩) | (go_at_call 75; refine (areEven_any _ _ _ _ _ _ _ (by assumption) _).mono ?_; rintro _ _ ⟨rfl, rfl⟩) | (go_at_call 74; refine (l03Two_any _ _ _ _ _ _ _ (by assumption) (by omega) _).mono ?_; rintro _ _ ⟨rfl, rfl⟩) | (refine wl_bin rfl rfl rfl rfl rfl (by first | assumption | exact is_ofInt _ _ | exact is_self) (by first | assumption | exact is_ofInt _ _ | exact is_self) ?_; intro r n hr) | (refine wl_cmp rfl rfl rfl rfl rfl (by first | assumption | exact is_ofInt _ _ | exact is_self) (by first | assumption | exact is_ofInt _ _ | exact is_self) (by first | assumption | rfl) ?_) | (refine wl_widen rfl rfl rfl (by first | exact rfl | kernel_rfl) (by kernel_rfl) (by first | assumption | exact is_ofInt _ _ | exact is_self) ?_; intro r n hr) | (refine wl_neg rfl rfl rfl (by first | assumption | exact is_ofInt _ _ | exact is_self) ?_; intro r hr))
    go_ret2
    exact givesO_none hn.out (Ext.refl _)
  | true =>
    have h3 := inB_yes ht
    have hs : Hid (scaleO (cl xs) q = some (tabP (scaleAt (cl xs) q) xs.length)) := by unfold scaleO Hid; rw [isTr_cl, ht, cl_length]; rfl
    go_enter Try.func38, Try.ntmps38
    go_wp2_with (first | (go_at_call 76; refine (clone_any _ _ _ _ hc hl).mono ?_; rintro _ w1 ⟨v, rfl, hE1, hO1⟩; obtain ⟨a1, c1, rfl, _⟩ := OwnF.fr hO1; obtain ⟨g, rfl, hg1, hg2, _⟩ := OwnF.at hO1 (k := 0) (by omega)) | (go_at_call 97; refine (within_any _ _ _ _ (by first | assumption | rfl) _).mono ?_; rintro _ _ ⟨rfl, rfl⟩) | (go_at_call 69; refine (l00In_any _ _ _ _ (by first | assumption | rfl) _).mono ?_; rintro _ _ ⟨rfl, rfl⟩) | (go_at_call 71; refine (isCount_any _ _ (by first | assumption | rfl) _).mono ?_; rintro _ _ ⟨rfl, rfl⟩) | (go_at_call 82; refine (isFilter_any _ _ (by first | assumption | rfl) _).mono ?_; rintro _ _ ⟨rfl, rfl⟩) | (go_at_call 70; refine (isTrace_any _ _ _ _ (by first | assumption | rfl) _).mono ?_; rintro _ _ ⟨rfl, rfl⟩) | (go_at_call 68; refine (l03Is_any _ _ _ _ (by first | assumption | rfl) (by omega) _).mono ?_; rintro _ _ ⟨rfl, rfl⟩) | (go_at_call 90; refine (length32_any _ _ _ _).mono ?_; rintro _ _ ⟨rfl, rfl⟩) | (go_at_call 120; refine (isFinite64_any _ _ _ (by assumption) (by first | assumption | rfl) _).mono ?_; rintro _ _ ⟨rfl, n, rfl⟩) | (go_at_call 117; refine (isFinite_any _ _ _ (by first | assumption | exact is_ofInt _ _ | exact is_self) (by first | assumption | rfl) _).mono ?_; rintro _ _ ⟨rfl, n, rfl⟩) | (go_at_call 112; refine (l01Finite_any _ _ _ (by first | assumption | exact is_ofInt _ _ | exact is_self) (by first | assumption | rfl) _).mono ?_; rintro _ _ ⟨rfl, n, rfl⟩) | (go_at_call 75; refine (areEven_any _ _ _ _ _ _ _ (by assumption) _).mono ?_; rintro _ _ ⟨rfl, rfl⟩) | (go_at_call 74; refine (l03Two_any _ _ _ _ _ _ _ (by assumption) (by omega) _).mono ?_; rintro _ _ ⟨rfl, rfl⟩))
    go_loopw [15] (fun i wr => ∃ (k : Nat) (ys : List Nat), k ≤ xs.length ∧ i = .int .i64 k ∧ OwnF wr w.heap.size (.slice (some ⟨g, 0, none⟩) (xs.length) c1) ys ∧ Hid (ys.length = xs.length) ∧ Hid (cl ys = tabP (scaleAt (cl xs) q) k ++ List.drop k (cl xs)) ∧ Ext w wr) (fun i _ => xs.length - (intOf i).toNat)
    case atStart => exact ⟨0, _, Nat.zero_le _, rfl, hO1, rfl, set_start _ _ rfl, hE1⟩
    case round =>
      obtain ⟨k, ys, hk, rfl, hO, hyl, hcl, hE⟩ := hrel
      clear hO1 hE1
      by_cases hlt : k < xs.length
      · have hA := set_read hcl.out (by rw [cl_length]; exact hlt)
        obtain ⟨hcur, hfz⟩ := OwnF.at' hO (k := k) (by rw [hyl.out]; exact hlt)
        go_wp2_with (first | (refine wl_bin rfl rfl rfl rfl rfl (by first | assumption | exact is_ofInt _ _ | exact is_self) (by first | assumption | exact is_ofInt _ _ | exact is_self) ?_; intro r n hr) | (refine wl_cmp rfl rfl rfl rfl rfl (by first | assumption | exact is_ofInt _ _ | exact is_self) (by first | assumption | exact is_ofInt _ _ | exact is_self) (by first | assumption | rfl) ?_) | (refine wl_widen rfl rfl rfl (by first | exact rfl | kernel_rfl) (by kernel_rfl) (by first | assumption | exact is_ofInt _ _ | exact is_self) ?_; intro r n hr) | (refine wl_neg rfl rfl rfl (by first | assumption | exact is_ofInt _ _ | exact is_self) ?_; intro r hr))
        have HR := Lib.hid hr
        clear hr
        have hst := hO.stored k r
        have HO := Lib.hid hst.1
        clear hst
        go_roundw
        case rel => exact ⟨k + 1, _, by omega, by go_num, HO.out, by unfold Hid; rw [List.length_set]; exact hyl.out, set_step hcl.out (by simp [cl_length]; omega) (by exact HR.out), (by repeat (first | assumption | exact Ext.refl _ | apply Ext.drewN | apply Ext.alloc | (refine Ext.setCell ?_ (by first | assumption | exact Nat.le_refl _) _)))⟩
        case measure => simp [intOf]; omega
      · go_wp2
        go_ret2
        obtain rfl : xs.length = k := by omega
        exact givesO_some hs.out hE hO (set_done hcl.out (by rw [cl_length]; exact Nat.le_refl _))
theorem l03Scale_any (ao : Option Addr) (cap : Nat) (xs : List Nat) (m q : Nat) (w : World) (hc : FR w ao xs) (hl : xs.length ≤ 1048576) (hq : Is .f32 m q) :
    Calls Try.prog 80 #[.slice ao xs.length cap, .float .f32 m] w (GivesS (tabP (scaleAt (cl xs) q) xs.length) w) := by
  obtain ⟨i0, hi0, hz0, hs0, hb0⟩ := info_parts info32
  go_enter Try.func80, Try.ntmps80
  go_wp2
  go_loopw [5, 10] (fun v i wr => ∃ (k : Nat) (ys : List Nat), k ≤ xs.length ∧ i = .int .i64 k ∧ OwnF wr w.heap.size v ys ∧ ys.length ≤ k ∧ Hid (cl ys = tabP (scaleAt (cl xs) q) k) ∧ Ext w wr) (fun _ i _ => xs.length - (intOf i).toNat)
  case atStart => exact ⟨0, [], Nat.zero_le _, rfl, (by first | exact OwnF.nil _ _ | exact ownF_empty _ _ (by repeat (first | assumption | exact Ext.refl _ | apply Ext.drewN | apply Ext.alloc | (refine Ext.setCell ?_ (by first | assumption | exact Nat.le_refl _) _)))), Nat.le_refl _, rfl, (by repeat (first | assumption | exact Ext.refl _ | apply Ext.drewN | apply Ext.alloc | (refine Ext.setCell ?_ (by first | assumption | exact Nat.le_refl _) _)))⟩
  case round =>
    obtain ⟨k, ys, hk, rfl, hO, hyl, hcl, hE⟩ := hrel
    by_cases hlt : k < xs.length
    · obtain ⟨b, off, rfl, hcell⟩ := hc.ext hE k hlt
      have hel := is_el hlt
      go_wp2_with (first | (at_builtin; refine wl_append1 _ rfl Try.underlying22 hi0 hz0 hs0 hb0 rfl rfl rfl (by repeat (first | assumption | apply OwnF.drewN | apply OwnF.alloc)) (by repeat (first | assumption | exact Ext.refl _ | apply Ext.drewN | apply Ext.alloc | (refine Ext.setCell ?_ (by first | assumption | exact Nat.le_refl _) _))) (by omega) (by first | exact cell_new _ _ _ | exact cell_newD _ _ _ _) ?_; intro v2 w2 hO2 hE2); (have HR := Lib.hid hr; clear hr) | (refine wl_bin rfl rfl rfl rfl rfl (by first | assumption | exact is_ofInt _ _ | exact is_self) (by first | assumption | exact is_ofInt _ _ | exact is_self) ?_; intro r n hr) | (refine wl_cmp rfl rfl rfl rfl rfl (by first | assumption | exact is_ofInt _ _ | exact is_self) (by first | assumption | exact is_ofInt _ _ | exact is_self) (by first | assumption | rfl) ?_) | (refine wl_widen rfl rfl rfl (by first | exact rfl | kernel_rfl) (by kernel_rfl) (by first | assumption | exact is_ofInt _ _ | exact is_self) ?_; intro r n hr) | (refine wl_neg rfl rfl rfl (by first | assumption | exact is_ofInt _ _ | exact is_self) ?_; intro r hr))
      go_roundw
      case rel => exact ⟨k + 1, _, by omega, by go_num, (by repeat (first | assumption | apply OwnF.drewN | apply OwnF.alloc)), by simp; omega, app_step hcl.out (by exact HR.out), (by repeat (first | assumption | exact Ext.refl _ | apply Ext.drewN | apply Ext.alloc | (refine Ext.setCell ?_ (by first | assumption | exact Nat.le_refl _) _)))⟩
      case measure => simp [intOf]; omega
    · go_wp2
      go_ret
      obtain rfl : xs.length = k := by omega
      exact ⟨_, _, rfl, hE, hO, hcl.out⟩
theorem specScale_any (ao : Option Addr) (cap : Nat) (xs : List Nat) (m q : Nat) (w : World) (hc : FR w ao xs) (hl : xs.length ≤ 1048576) (hq : Is .f32 m q) :
    Calls Try.prog 37 #[.slice ao xs.length cap, .float .f32 m] w (GivesO (scaleO (cl xs) q) w) := by
  cases ht : inB (xs.length : Int) 1 128 with
  | false =>
    have hn : Hid (scaleO (cl xs) q = none) := by unfold scaleO Hid; rw [isTr_cl, ht]; rfl
    go_enter Try.func37, Try.ntmps37
    go_wp2_with (first | (go_at_call 97; refine (within_any _ _ _ _ (by first | assumption | rfl) _).mono ?_; rintro _ _ ⟨rfl, rfl⟩) | (go_at_call 69; refine (l00In_any _ _ _ _ (by first | assumption | rfl) _).mono ?_; rintro _ _ ⟨rfl, rfl⟩) | (go_at_call 71; refine (isCount_any _ _ (by first | assumption | rfl) _).mono ?_; rintro _ _ ⟨rfl, rfl⟩) | (go_at_call 82; refine (isFilter_any _ _ (by first | assumption | rfl) _).mono ?_; rintro _ _ ⟨rfl, rfl⟩) | (go_at_call 70; refine (isTrace_any _ _ _ _ (by first | assumption | rfl) _).mono ?_; rintro _ _ ⟨rfl, rfl⟩) | (go_at_call 68; refine (l03Is_any _ _ _ _ (by first | assumption | rfl) (by omega) _).mono ?_; rintro _ _ ⟨rfl, rfl⟩) | (go_at_call 90; refine (length32_any _ _ _ _).mono ?_; rintro _ _ ⟨rfl, rfl⟩) | (go_at_call 120; refine (isFinite64_any _ _ _ (by assumption) (by first | assumption | rfl) _).mono ?_; rintro _ _ ⟨rfl, n, rfl⟩) | (go_at_call 117; refine (isFinite_any _ _ _ (by first | assumption | exact is_ofInt _ _ | exact is_self) (by first | assumption | rfl) _).mono ?_; rintro _ _ ⟨rfl, n, rfl⟩) | (go_at_call 112; refine (l01Finite_any _ _ _ (by first | assumption | exact is_ofInt _ _ | exact is_self) (by first | assumption | rfl) _).mono ?_; rintro _ _ ⟨rfl, n, rfl⟩) | (go_at_call 75; refine (areEven_any _ _ _ _ _ _ _ (by assumption) _).mono ?_; rintro _ _ ⟨rfl, rfl⟩) | (go_at_call 74; refine (l03Two_any _ _ _ _ _ _ _ (by assumption) (by omega) _).mono ?_; rintro _ _ ⟨rfl, rfl⟩) | (refine wl_bin rfl rfl rfl rfl rfl (by first | assumption | exact is_ofInt _ _ | exact is_self) (by first | assumption | exact is_ofInt _ _ | exact is_self) ?_; intro r n hr) | (refine wl_cmp rfl rfl rfl rfl rfl (by first | assumption | exact is_ofInt _ _ | exact is_self) (by first | assumption | exact is_ofInt _ _ | exact is_self) (by first | assumption | rfl) ?_) | (refine wl_widen rfl rfl rfl (by first | exact rfl | kernel_rfl) (by kernel_rfl) (by first | assumption | exact is_ofInt _ _ | exact is_self) ?_; intro r n hr) | (refine wl_neg rfl rfl rfl (by first | assumption | exact is_ofInt _ _ | exact is_self) ?_; intro r hr))
    go_ret2
    exact givesO_none hn.out (Ext.refl _)
  | true =>
    have hs : Hid (scaleO (cl xs) q = some (tabP (scaleAt (cl xs) q) xs.length)) := by unfold scaleO Hid; rw [isTr_cl, ht, cl_length]; rfl
    go_enter Try.func37, Try.ntmps37
    go_wp2_with (first | (go_at_call 80; refine (l03Scale_any _ _ _ _ _ _ hc hl hq).mono ?_; rintro _ w1 ⟨v, ys, rfl, hE, hO, hcl⟩; (have HCL := Lib.hid hcl; clear hcl)) | (go_at_call 97; refine (within_any _ _ _ _ (by first | assumption | rfl) _).mono ?_; rintro _ _ ⟨rfl, rfl⟩) | (go_at_call 69; refine (l00In_any _ _ _ _ (by first | assumption | rfl) _).mono ?_; rintro _ _ ⟨rfl, rfl⟩) | (go_at_call 71; refine (isCount_any _ _ (by first | assumption | rfl) _).mono ?_; rintro _ _ ⟨rfl, rfl⟩) | (go_at_call 82; refine (isFilter_any _ _ (by first | assumption | rfl) _).mono ?_; rintro _ _ ⟨rfl, rfl⟩) | (go_at_call 70; refine (isTrace_any _ _ _ _ (by first | assumption | rfl) _).mono ?_; rintro _ _ ⟨rfl, rfl⟩) | (go_at_call 68; refine (l03Is_any _ _ _ _ (by first | assumption | rfl) (by omega) _).mono ?_; rintro _ _ ⟨rfl, rfl⟩) | (go_at_call 90; refine (length32_any _ _ _ _).mono ?_; rintro _ _ ⟨rfl, rfl⟩) | (go_at_call 120; refine (isFinite64_any _ _ _ (by assumption) (by first | assumption | rfl) _).mono ?_; rintro _ _ ⟨rfl, n, rfl⟩) | (go_at_call 117; refine (isFinite_any _ _ _ (by first | assumption | exact is_ofInt _ _ | exact is_self) (by first | assumption | rfl) _).mono ?_; rintro _ _ ⟨rfl, n, rfl⟩) | (go_at_call 112; refine (l01Finite_any _ _ _ (by first | assumption | exact is_ofInt _ _ | exact is_self) (by first | assumption | rfl) _).mono ?_; rintro _ _ ⟨rfl, n, rfl⟩) | (go_at_call 75; refine (areEven_any _ _ _ _ _ _ _ (by assumption) _).mono ?_; rintro _ _ ⟨rfl, rfl⟩) | (go_at_call 74; refine (l03Two_any _ _ _ _ _ _ _ (by assumption) (by omega) _).mono ?_; rintro _ _ ⟨rfl, rfl⟩))
    go_ret2
    exact givesO_some hs.out hE hO HCL.out
end Go.Proofs.Ytddoedkopofinaa
