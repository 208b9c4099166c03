/- DifferTrace: the reference's and the program's. -/
import Derived.Test.YtgilngdbhkefcaaClone
namespace Go.Proofs.Ytgilngdbhkefcaa
open Go.RowKit

/-- Number k less the number before it. -/
def diffAt (l : List Nat) (k : Nat) : Nat := if k = 0 then el l 0 else fop .sub .f32 (el l k) (el l (k - 1))
def diffP (l : List Nat) (k : Nat) : List Nat := (List.range k).map (diffAt l)
theorem diffP_succ (l : List Nat) (k : Nat) : diffP l (k + 1) = diffP l k ++ [diffAt l k] := by simp [diffP, List.range_succ]
theorem diffP_len (l : List Nat) (k : Nat) : (diffP l k).length = k := by simp [diffP]
def diffO (l : List Nat) : Option (List Nat) := if isTr l then some (diffP l l.length) else none
theorem diffO_len (l : List Nat) : ((diffO l).getD []).length ≤ 1048576 := by
  unfold diffO
  cases h : isTr l with
  | false => simp
  | true => have := isTr_le h; simp [diffP_len]; omega
theorem head_tail (l : List Nat) (h : 0 < l.length) : l = [el l 0] ++ l.drop 1 := by
  cases l with
  | nil => simp at h
  | cons x l => simp [el]
theorem diffAt_pos (l : List Nat) (k : Nat) (h : 1 ≤ k) : diffAt l k = fop .sub .f32 (el l k) (el l (k - 1)) := by unfold diffAt; rw [if_neg (by omega)]

set_option maxHeartbeats 1000000 in
theorem specDiff_any (ao : Option Addr) (cap : Nat) (xs : List Nat) (w : World) (hc : FR w ao xs) (hl : xs.length ≤ 1048576) :
    Calls Try.prog 42 #[.slice ao xs.length cap] w (GivesO (diffO (cl xs)) w) := by
  obtain ⟨i0, hi0, hz0, hs0, hb0⟩ := info_parts info32
  cases ht : inB (xs.length : Int) 1 128 with
  | false =>
    have hn : Hid (diffO (cl xs) = none) := by unfold diffO Hid; rw [isTr_cl, ht]; rfl
    go_enter Try.func42, Try.ntmps42
    go_wp2_with (first | (go_at_call 48; refine (within_any _ _ _ _ (by first | assumption | rfl) _).mono ?_; rintro _ _ ⟨rfl, rfl⟩) | (go_at_call 47; refine (l00In_any _ _ _ _ (by first | assumption | rfl) _).mono ?_; rintro _ _ ⟨rfl, rfl⟩) | (go_at_call 45; refine (isCount_any _ _ (by first | assumption | rfl) _).mono ?_; rintro _ _ ⟨rfl, rfl⟩) | (go_at_call 59; refine (isFilter_any _ _ (by first | assumption | rfl) _).mono ?_; rintro _ _ ⟨rfl, rfl⟩) | (go_at_call 17; refine (isTrace_any _ _ _ _ (by first | assumption | rfl) _).mono ?_; rintro _ _ ⟨rfl, rfl⟩) | (go_at_call 44; refine (l03Is_any _ _ _ _ (by first | assumption | rfl) (by omega) _).mono ?_; rintro _ _ ⟨rfl, rfl⟩) | (go_at_call 46; refine (length32_any _ _ _ _).mono ?_; rintro _ _ ⟨rfl, rfl⟩) | (go_at_call 64; refine (isFinite64_any _ _ _ (by assumption) (by first | assumption | rfl) _).mono ?_; rintro _ _ ⟨rfl, n, rfl⟩) | (go_at_call 57; refine (isFinite_any _ _ _ (by first | assumption | exact is_ofInt _ _ | exact is_self) (by first | assumption | rfl) _).mono ?_; rintro _ _ ⟨rfl, n, rfl⟩) | (go_at_call 56; refine (l01Finite_any _ _ _ (by first | assumption | exact is_ofInt _ _ | exact is_self) (by first | assumption | rfl) _).mono ?_; rintro _ _ ⟨rfl, n, rfl⟩) | (refine wl_bin rfl rfl rfl rfl rfl (by first | assumption | exact is_ofInt _ _ | exact is_self) (by first | assumption | exact is_ofInt _ _ | exact is_self) ?_; intro r n hr) | (refine wl_cmp rfl rfl rfl rfl rfl (by first | assumption | exact is_ofInt _ _ | exact is_self) (by first | assumption | exact is_ofInt _ _ | exact is_self) (by first | assumption | rfl) ?_) | (refine wl_widen rfl rfl rfl (by first | exact rfl | kernel_rfl) (by kernel_rfl) (by first | assumption | exact is_ofInt _ _ | exact is_self) ?_; intro r n hr) | (refine wl_neg rfl rfl rfl (by first | assumption | exact is_ofInt _ _ | exact is_self) ?_; intro r hr))
    go_ret2
    exact givesO_none hn.out (Ext.refl _)
  | true =>
    have h3 := inB_yes ht
    have hs : Hid (diffO (cl xs) = some (diffP (cl xs) xs.length)) := by unfold diffO Hid; rw [isTr_cl, ht, cl_length]; rfl
    obtain ⟨b, off, rfl, hcell⟩ := hc 0 (by omega)
    have hcell0 : w.cell? ⟨b, off, none⟩ = some (.float .f32 (el xs 0)) := hcell
    clear hcell
    have hp0 : 0 < xs.length := by omega
    go_enter Try.func42, Try.ntmps42
    go_wp2_with (first | (go_at_call 48; refine (within_any _ _ _ _ (by first | assumption | rfl) _).mono ?_; rintro _ _ ⟨rfl, rfl⟩) | (go_at_call 47; refine (l00In_any _ _ _ _ (by first | assumption | rfl) _).mono ?_; rintro _ _ ⟨rfl, rfl⟩) | (go_at_call 45; refine (isCount_any _ _ (by first | assumption | rfl) _).mono ?_; rintro _ _ ⟨rfl, rfl⟩) | (go_at_call 59; refine (isFilter_any _ _ (by first | assumption | rfl) _).mono ?_; rintro _ _ ⟨rfl, rfl⟩) | (go_at_call 17; refine (isTrace_any _ _ _ _ (by first | assumption | rfl) _).mono ?_; rintro _ _ ⟨rfl, rfl⟩) | (go_at_call 44; refine (l03Is_any _ _ _ _ (by first | assumption | rfl) (by omega) _).mono ?_; rintro _ _ ⟨rfl, rfl⟩) | (go_at_call 46; refine (length32_any _ _ _ _).mono ?_; rintro _ _ ⟨rfl, rfl⟩) | (go_at_call 64; refine (isFinite64_any _ _ _ (by assumption) (by first | assumption | rfl) _).mono ?_; rintro _ _ ⟨rfl, n, rfl⟩) | (go_at_call 57; refine (isFinite_any _ _ _ (by first | assumption | exact is_ofInt _ _ | exact is_self) (by first | assumption | rfl) _).mono ?_; rintro _ _ ⟨rfl, n, rfl⟩) | (go_at_call 56; refine (l01Finite_any _ _ _ (by first | assumption | exact is_ofInt _ _ | exact is_self) (by first | assumption | rfl) _).mono ?_; rintro _ _ ⟨rfl, n, rfl⟩) | (refine wl_bin rfl rfl rfl rfl rfl (by first | assumption | exact is_ofInt _ _ | exact is_self) (by first | assumption | exact is_ofInt _ _ | exact is_self) ?_; intro r n hr) | (refine wl_cmp rfl rfl rfl rfl rfl (by first | assumption | exact is_ofInt _ _ | exact is_self) (by first | assumption | exact is_ofInt _ _ | exact is_self) (by first | assumption | rfl) ?_) | (refine wl_widen rfl rfl rfl (by first | exact rfl | kernel_rfl) (by kernel_rfl) (by first | assumption | exact is_ofInt _ _ | exact is_self) ?_; intro r n hr) | (refine wl_neg rfl rfl rfl (by first | assumption | exact is_ofInt _ _ | exact is_self) ?_; intro r hr))
    go_loopw [4, 5] (fun v i wr => ∃ (k : Nat) (ys : List Nat), 1 ≤ k ∧ k ≤ xs.length ∧ i = .int .i64 k ∧ OwnF wr w.heap.size v ys ∧ ys.length ≤ k ∧ Hid (cl ys = diffP (cl xs) k) ∧ Ext w wr) (fun _ i _ => xs.length - (intOf i).toNat)
    case atStart =>
      refine ⟨1, _, Nat.le_refl _, by omega, rfl, ownF_one _ _ (by repeat (first | assumption | exact Ext.refl _ | apply Ext.drewN | apply Ext.alloc | (refine Ext.setCell ?_ (by first | assumption | exact Nat.le_refl _) _))) _, by simp, ?_, (by repeat (first | assumption | exact Ext.refl _ | apply Ext.drewN | apply Ext.alloc | (refine Ext.setCell ?_ (by first | assumption | exact Nat.le_refl _) _)))⟩
      unfold Hid
      rw [diffP_succ]
      simp only [diffP, List.range_zero, List.map_nil, List.nil_append, diffAt, if_true]
      rw [cl_el xs 0 (by omega)]; rfl
    case round =>
      obtain ⟨k, ys, hk0, hk, rfl, hO, hyl, hcl, hE⟩ := hrel
      by_cases hlt : k < xs.length
      · have hcA : ∀ w', Ext w w' → w'.cell? ⟨b, off + k, none⟩ = some (.float .f32 (el xs k)) := fun w' h => by
          obtain ⟨b', o', e, h2⟩ := hc.ext h k hlt
          simp only [Option.some.injEq, Addr.mk.injEq, and_true] at e
          obtain ⟨rfl, rfl⟩ := e
          exact h2
        have hcB : ∀ w', Ext w w' → w'.cell? ⟨b, off + (k - 1), none⟩ = some (.float .f32 (el xs (k - 1))) := fun w' h => by
          obtain ⟨b', o', e, h2⟩ := hc.ext h (k - 1) (by omega)
          simp only [Option.some.injEq, Addr.mk.injEq, and_true] at e
          obtain ⟨rfl, rfl⟩ := e
          exact h2
        have hA := is_el hlt
        have hB := is_el (xs := xs) (i := k - 1) (by omega)
        go_wp2
        have e1 : IntKind.i64.wrap ((k : Int) - 1) = (k : Int) - 1 := IntWalk.i64_in _ (by omega)
        have e2 : (0 : Int) ≤ (k : Int) - 1 := by omega
        have e3 : ((k : Int) - 1).toNat = k - 1 := by omega
        have e4 : (1 : Int) ≤ (k : Int) := by omega
        have e5 : (k : Int) - 1 < (xs.length : Int) := by omega
        refine wp_region_mix (Ext w) (fun i => [11, 12].contains i) (fun _ _ => True) (by kernel_rfl) (by kernel_rfl) (by kernel_rfl) (fun _ _ h => h.drewN _) hE (fun n0 => ?_)
        repeat (first
          | (refine lx_nil ?_; intro nq)
          | (refine lx_skip rfl ?_; go_simp)
          | (refine lx_move rfl rfl rfl rfl ?_; go_simp)
          | (refine lx_assign rfl rfl rfl rfl ?_; go_simp)
          | (refine lx_bin rfl rfl rfl rfl rfl rfl (by first | assumption | exact is_ofInt _ _ | exact is_self) (by first | assumption | exact is_ofInt _ _ | exact is_self) ?_; intro r hr; go_simp)
          | (refine lx_cmp rfl rfl rfl rfl rfl rfl (by first | assumption | exact is_ofInt _ _ | exact is_self) (by first | assumption | exact is_ofInt _ _ | exact is_self) (by first | assumption | rfl) ?_; go_simp)
          | (refine lx_widen rfl rfl rfl rfl (by first | exact rfl | kernel_rfl) (by kernel_rfl) (by first | assumption | exact is_ofInt _ _ | exact is_self) ?_; intro r hr; go_simp)
          | (refine lx_val rfl rfl (fun w' hw' => by go_simp; rfl) ?_; go_simp))
        refine lx_effV rfl rfl (fun n => by go_simp; exact ⟨rfl, rfl⟩) (fun n => (by repeat (first | assumption | exact Ext.refl _ | apply Ext.drewN | apply Ext.alloc | (refine Ext.setCell ?_ (by first | assumption | exact Nat.le_refl _) _)))) (fun n1 => ?_)
        go_simp
        refine lx_append1 rfl rfl Try.underlying22 hi0 hz0 hs0 hb0 rfl rfl rfl (by repeat (first | assumption | apply OwnF.drewN | apply OwnF.alloc)) (by repeat (first | assumption | exact Ext.refl _ | apply Ext.drewN | apply Ext.alloc | (refine Ext.setCell ?_ (by first | assumption | exact Nat.le_refl _) _))) (by omega) (by first | exact cell_new _ _ _ | exact cell_newD _ _ _ _) ?_
        intro v2 w2 hO2 hE2
        have HR := Lib.hid hr
        clear hr
        go_simp
        repeat (first
          | (refine lx_nil ?_; intro nq)
          | (refine lx_skip rfl ?_; go_simp)
          | (refine lx_move rfl rfl rfl rfl ?_; go_simp)
          | (refine lx_assign rfl rfl rfl rfl ?_; go_simp)
          | (refine lx_bin rfl rfl rfl rfl rfl rfl (by first | assumption | exact is_ofInt _ _ | exact is_self) (by first | assumption | exact is_ofInt _ _ | exact is_self) ?_; intro r hr; go_simp)
          | (refine lx_cmp rfl rfl rfl rfl rfl rfl (by first | assumption | exact is_ofInt _ _ | exact is_self) (by first | assumption | exact is_ofInt _ _ | exact is_self) (by first | assumption | rfl) ?_; go_simp)
          | (refine lx_widen rfl rfl rfl rfl (by first | exact rfl | kernel_rfl) (by kernel_rfl) (by first | assumption | exact is_ofInt _ _ | exact is_self) ?_; intro r hr; go_simp)
          | (refine lx_val rfl rfl (fun w' hw' => by go_simp; rfl) ?_; go_simp))
        go_wp2
        go_roundw
        case rel => exact ⟨k + 1, _, by omega, by omega, by go_num, (by repeat (first | assumption | apply OwnF.drewN | apply OwnF.alloc)), by simp; omega, by unfold Hid; rw [cl_append, hcl.out, diffP_succ, diffAt_pos _ _ hk0]; simp only [cl, List.map_cons, List.map_nil, HR.out.out'], (by repeat (first | assumption | exact Ext.refl _ | apply Ext.drewN | apply Ext.alloc | (refine Ext.setCell ?_ (by first | assumption | exact Nat.le_refl _) _)))⟩
        case measure => simp [intOf]; omega
      · go_wp2
        go_ret2
        obtain rfl : xs.length = k := by omega
        exact givesO_some hs.out hE hO hcl.out

set_option maxHeartbeats 1000000 in
theorem diff_any (ao : Option Addr) (cap : Nat) (xs : List Nat) (w : World) (hc : FR w ao xs) (hl : xs.length ≤ 1048576) :
    Calls Try.prog 43 #[.slice ao xs.length cap] w (GivesO (diffO (cl xs)) w) := by
  cases ht : inB (xs.length : Int) 1 128 with
  | false =>
    have hn : Hid (diffO (cl xs) = none) := by unfold diffO Hid; rw [isTr_cl, ht]; rfl
    go_enter Try.func43, Try.ntmps43
    go_wp2_with (first | (go_at_call 48; refine (within_any _ _ _ _ (by first | assumption | rfl) _).mono ?_; rintro _ _ ⟨rfl, rfl⟩) | (go_at_call 47; refine (l00In_any _ _ _ _ (by first | assumption | rfl) _).mono ?_; rintro _ _ ⟨rfl, rfl⟩) | (go_at_call 45; refine (isCount_any _ _ (by first | assumption | rfl) _).mono ?_; rintro _ _ ⟨rfl, rfl⟩) | (go_at_call 59; refine (isFilter_any _ _ (by first | assumption | rfl) _).mono ?_; rintro _ _ ⟨rfl, rfl⟩) | (go_at_call 17; refine (isTrace_any _ _ _ _ (by first | assumption | rfl) _).mono ?_; rintro _ _ ⟨rfl, rfl⟩) | (go_at_call 44; refine (l03Is_any _ _ _ _ (by first | assumption | rfl) (by omega) _).mono ?_; rintro _ _ ⟨rfl, rfl⟩) | (go_at_call 46; refine (length32_any _ _ _ _).mono ?_; rintro _ _ ⟨rfl, rfl⟩) | (go_at_call 64; refine (isFinite64_any _ _ _ (by assumption) (by first | assumption | rfl) _).mono ?_; rintro _ _ ⟨rfl, n, rfl⟩) | (go_at_call 57; refine (isFinite_any _ _ _ (by first | assumption | exact is_ofInt _ _ | exact is_self) (by first | assumption | rfl) _).mono ?_; rintro _ _ ⟨rfl, n, rfl⟩) | (go_at_call 56; refine (l01Finite_any _ _ _ (by first | assumption | exact is_ofInt _ _ | exact is_self) (by first | assumption | rfl) _).mono ?_; rintro _ _ ⟨rfl, n, rfl⟩) | (refine wl_bin rfl rfl rfl rfl rfl (by first | assumption | exact is_ofInt _ _ | exact is_self) (by first | assumption | exact is_ofInt _ _ | exact is_self) ?_; intro r n hr) | (refine wl_cmp rfl rfl rfl rfl rfl (by first | assumption | exact is_ofInt _ _ | exact is_self) (by first | assumption | exact is_ofInt _ _ | exact is_self) (by first | assumption | rfl) ?_) | (refine wl_widen rfl rfl rfl (by first | exact rfl | kernel_rfl) (by kernel_rfl) (by first | assumption | exact is_ofInt _ _ | exact is_self) ?_; intro r n hr) | (refine wl_neg rfl rfl rfl (by first | assumption | exact is_ofInt _ _ | exact is_self) ?_; intro r hr))
    go_ret2
    exact givesO_none hn.out (Ext.refl _)
  | true =>
    have h3 := inB_yes ht
    have hs : Hid (diffO (cl xs) = some (diffP (cl xs) xs.length)) := by unfold diffO Hid; rw [isTr_cl, ht, cl_length]; rfl
    obtain ⟨b, off, rfl, _⟩ := hc 0 (by omega)
    go_enter Try.func43, Try.ntmps43
    go_wp2_with (first | (go_at_call 60; refine (clone_any _ _ _ _ hc hl).mono ?_; rintro _ w1 ⟨v, rfl, hE1, hO1⟩; obtain ⟨a1, c1, rfl, _⟩ := OwnF.fr hO1; obtain ⟨g, rfl, hg1, hg2, _⟩ := OwnF.at hO1 (k := 0) (by omega)) | (go_at_call 48; refine (within_any _ _ _ _ (by first | assumption | rfl) _).mono ?_; rintro _ _ ⟨rfl, rfl⟩) | (go_at_call 47; refine (l00In_any _ _ _ _ (by first | assumption | rfl) _).mono ?_; rintro _ _ ⟨rfl, rfl⟩) | (go_at_call 45; refine (isCount_any _ _ (by first | assumption | rfl) _).mono ?_; rintro _ _ ⟨rfl, rfl⟩) | (go_at_call 59; refine (isFilter_any _ _ (by first | assumption | rfl) _).mono ?_; rintro _ _ ⟨rfl, rfl⟩) | (go_at_call 17; refine (isTrace_any _ _ _ _ (by first | assumption | rfl) _).mono ?_; rintro _ _ ⟨rfl, rfl⟩) | (go_at_call 44; refine (l03Is_any _ _ _ _ (by first | assumption | rfl) (by omega) _).mono ?_; rintro _ _ ⟨rfl, rfl⟩) | (go_at_call 46; refine (length32_any _ _ _ _).mono ?_; rintro _ _ ⟨rfl, rfl⟩) | (go_at_call 64; refine (isFinite64_any _ _ _ (by assumption) (by first | assumption | rfl) _).mono ?_; rintro _ _ ⟨rfl, n, rfl⟩) | (go_at_call 57; refine (isFinite_any _ _ _ (by first | assumption | exact is_ofInt _ _ | exact is_self) (by first | assumption | rfl) _).mono ?_; rintro _ _ ⟨rfl, n, rfl⟩) | (go_at_call 56; refine (l01Finite_any _ _ _ (by first | assumption | exact is_ofInt _ _ | exact is_self) (by first | assumption | rfl) _).mono ?_; rintro _ _ ⟨rfl, n, rfl⟩))
    go_loopw [5] (fun i wr => ∃ (k : Nat) (ys : List Nat), 1 ≤ k ∧ k ≤ xs.length ∧ i = .int .i64 k ∧ OwnF wr w.heap.size (.slice (some ⟨g, 0, none⟩) xs.length c1) ys ∧ Hid (ys.length = xs.length) ∧ Hid (cl ys = diffP (cl xs) k ++ (cl xs).drop k) ∧ Ext w wr) (fun i _ => xs.length - (intOf i).toNat)
    case atStart =>
      refine ⟨1, _, Nat.le_refl _, by omega, rfl, hO1, rfl, ?_, hE1⟩
      unfold Hid
      rw [diffP_succ]
      simp only [diffP, List.range_zero, List.map_nil, List.nil_append, diffAt, if_true]
      exact head_tail _ (by rw [cl_length]; omega)
    case round =>
      obtain ⟨k, ys, hk0, hk, rfl, hO, hyl, hcl, hE⟩ := hrel
      clear hO1 hE1
      by_cases hlt : k < xs.length
      · have hcA : ∀ w', Ext w w' → w'.cell? ⟨b, off + k, none⟩ = some (.float .f32 (el xs k)) := fun w' h => by
          obtain ⟨b', o', e, h2⟩ := hc.ext h k hlt
          simp only [Option.some.injEq, Addr.mk.injEq, and_true] at e
          obtain ⟨rfl, rfl⟩ := e
          exact h2
        have hcB : ∀ w', Ext w w' → w'.cell? ⟨b, off + (k - 1), none⟩ = some (.float .f32 (el xs (k - 1))) := fun w' h => by
          obtain ⟨b', o', e, h2⟩ := hc.ext h (k - 1) (by omega)
          simp only [Option.some.injEq, Addr.mk.injEq, and_true] at e
          obtain ⟨rfl, rfl⟩ := e
          exact h2
        have hA := is_el hlt
        have hB := is_el (xs := xs) (i := k - 1) (by omega)
        obtain ⟨hcur, hfz⟩ := OwnF.at' hO (k := k) (by rw [hyl.out]; exact hlt)
        go_wp2
        have e1 : IntKind.i64.wrap ((k : Int) - 1) = (k : Int) - 1 := IntWalk.i64_in _ (by omega)
        have e2 : (0 : Int) ≤ (k : Int) - 1 := by omega
        have e3 : ((k : Int) - 1).toNat = k - 1 := by omega
        have e4 : (1 : Int) ≤ (k : Int) := by omega
        have e5 : (k : Int) - 1 < (xs.length : Int) := by omega
        refine wp_region_mix (Ext w) (fun i => i == 13) (fun _ _ => True) (by kernel_rfl) (by kernel_rfl) (by kernel_rfl) (fun _ _ h => h.drewN _) hE (fun n0 => ?_)
        repeat (first
          | (refine lx_nil ?_; intro nq)
          | (refine lx_skip rfl ?_; go_simp)
          | (refine lx_move rfl rfl rfl rfl ?_; go_simp)
          | (refine lx_assign rfl rfl rfl rfl ?_; go_simp)
          | (refine lx_bin rfl rfl rfl rfl rfl rfl (by first | assumption | exact is_ofInt _ _ | exact is_self) (by first | assumption | exact is_ofInt _ _ | exact is_self) ?_; intro r hr; go_simp)
          | (refine lx_cmp rfl rfl rfl rfl rfl rfl (by first | assumption | exact is_ofInt _ _ | exact is_self) (by first | assumption | exact is_ofInt _ _ | exact is_self) (by first | assumption | rfl) ?_; go_simp)
          | (refine lx_widen rfl rfl rfl rfl (by first | exact rfl | kernel_rfl) (by kernel_rfl) (by first | assumption | exact is_ofInt _ _ | exact is_self) ?_; intro r hr; go_simp)
          | (refine lx_val rfl rfl (fun w' hw' => by go_simp; rfl) ?_; go_simp))
        refine lx_effS rfl rfl (fun n => by go_simp; rfl) (fun n => (hE.drewN _).setCell hg1 _) (fun n1 => ?_)
        have hst := hO.stored k r
        have HO := Lib.hid hst.1
        have HR := Lib.hid hr
        clear hr hst
        go_simp
        repeat (first
          | (refine lx_nil ?_; intro nq)
          | (refine lx_skip rfl ?_; go_simp)
          | (refine lx_move rfl rfl rfl rfl ?_; go_simp)
          | (refine lx_assign rfl rfl rfl rfl ?_; go_simp)
          | (refine lx_bin rfl rfl rfl rfl rfl rfl (by first | assumption | exact is_ofInt _ _ | exact is_self) (by first | assumption | exact is_ofInt _ _ | exact is_self) ?_; intro r hr; go_simp)
          | (refine lx_cmp rfl rfl rfl rfl rfl rfl (by first | assumption | exact is_ofInt _ _ | exact is_self) (by first | assumption | exact is_ofInt _ _ | exact is_self) (by first | assumption | rfl) ?_; go_simp)
          | (refine lx_widen rfl rfl rfl rfl (by first | exact rfl | kernel_rfl) (by kernel_rfl) (by first | assumption | exact is_ofInt _ _ | exact is_self) ?_; intro r hr; go_simp)
          | (refine lx_val rfl rfl (fun w' hw' => by go_simp; rfl) ?_; go_simp))
        go_wp2
        go_roundw
        case rel =>
          refine ⟨k + 1, _, by omega, by omega, by go_num, HO.out, by unfold Hid; rw [List.length_set]; exact hyl.out, ?_, (by repeat (first | assumption | exact Ext.refl _ | apply Ext.drewN | apply Ext.alloc | (refine Ext.setCell ?_ (by first | assumption | exact Nat.le_refl _) _)))⟩
          unfold Hid
          rw [cl_set, hcl.out, HR.out.out', set_mid _ _ _ _ (diffP_len _ _) (by rw [List.length_drop, cl_length]; omega), diffP_succ, diffAt_pos _ _ hk0, List.drop_drop]
        case measure => simp [intOf]; omega
      · go_wp2
        go_ret2
        obtain rfl : xs.length = k := by omega
        exact givesO_some hs.out hE hO (by rw [hcl.out, List.drop_of_length_le (by rw [cl_length]; exact Nat.le_refl _), List.append_nil])
end Go.Proofs.Ytgilngdbhkefcaa
