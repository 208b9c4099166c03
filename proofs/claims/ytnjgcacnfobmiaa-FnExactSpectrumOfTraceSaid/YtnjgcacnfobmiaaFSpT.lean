/- SpectrumOfTrace: the reference's and the program's. -/
import Derived.Test.YtnjgcacnfobmiaaSpcT
import Derived.Test.YtnjgcacnfobmiaaFSpc
import Derived.Test.YtnjgcacnfobmiaaKom
namespace Go.Proofs.Ytnjgcacnfobmiaa.tr
open Go.RowKit Go.Proofs.Ytnjgcacnfobmiaa
set_option maxRecDepth 100000
set_option linter.unusedVariables false

set_option maxHeartbeats 4000000 in
theorem implSpt_any (ao : Option Addr) (cap : Nat) (xs : List Nat) (n : Int) (w : World) (hc : FR w ao xs) (hl : xs.length ≤ 1048576) (hi1 : -9223372036854775808 ≤ n) (hi2 : n ≤ 9223372036854775807) :
    Calls Try.prog 40 #[.slice ao xs.length cap, .int .i64 n] w (GivesKO (sptO (cl xs) n) w) := by
  cases ht : inB (xs.length : Int) 1 128 with
  | false =>
    have hn : Hid (sptO (cl xs) n = none) := by unfold Hid sptO; rw [isTr_cl, ht]; rfl
    go_enter Try.func40, Try.ntmps40
    go_wp2_with (go_at_call 88; refine (isTrace_any _ _ _ _ ht _).mono ?_; rintro _ _ ⟨rfl, rfl⟩)
    go_ret2
    exact givesKO_none hn.out (Ext.refl _)
  | true =>
  cases hf : inB n 1 128 with
  | false =>
    have hn : Hid (sptO (cl xs) n = none) := by unfold Hid sptO; rw [isTr_cl, ht, hf]; rfl
    go_enter Try.func40, Try.ntmps40
    go_wp2_with (first | (go_at_call 88; refine (isTrace_any _ _ _ _ ht _).mono ?_; rintro _ _ ⟨rfl, rfl⟩) | (go_at_call 96; refine (isCount_any _ _ hf _).mono ?_; rintro _ _ ⟨rfl, rfl⟩))
    go_ret2
    exact givesKO_none hn.out (Ext.refl _)
  | true =>
    have h128 := inB_128 ht
    obtain ⟨N, rfl⟩ : ∃ N : Nat, n = (N : Int) := ⟨n.toNat, by unfold inB at hf; simp at hf; omega⟩
    have hN := inB_128 hf
    have hn : Hid (sptO (cl xs) (N : Int) = some (spN (cl xs) N N)) := by unfold Hid sptO; rw [isTr_cl, ht, hf]; rfl
    obtain ⟨i0, ki0, kz0, ks0, kb0⟩ := info_parts info43
    go_enter Try.func40, Try.ntmps40
    go_wp2_with (first | (go_at_call 88; refine (isTrace_any _ _ _ _ ht _).mono ?_; rintro _ _ ⟨rfl, rfl⟩) | (go_at_call 96; refine (isCount_any _ _ hf _).mono ?_; rintro _ _ ⟨rfl, rfl⟩))
    go_loopw [6, 17] (fun v iv wr => ∃ (k : Nat) (ys : List (Nat × Nat)), k ≤ N ∧ iv = .int .i64 k ∧ OwnK wr w.heap.size v ys ∧ Hid (clz ys = spN (cl xs) N k) ∧ Hid (ys.length = k) ∧ Ext w wr) (fun _ iv _ => N - (intOf iv).toNat)
    case atStart => exact ⟨0, [], Nat.zero_le _, rfl, OwnV.nil _ _, rfl, rfl, Ext.refl _⟩
    case round =>
      obtain ⟨k, ys, hk, rfl, hO, hys, hyl, hE⟩ := hrel
      by_cases hlt : k < N
      · have hcw := hc.ext hE
        have ik := is_ofInt .f32 (k : Int)
        have iN := is_ofInt .f32 (N : Int)
        have hfin : finK .f32 (fop .quo .f32 (floatOfInt .f32 (k : Int)) (floatOfInt .f32 (N : Int))) = true := turn_fin hN hlt
        have HS := Lib.hid (spN_succ (cl xs) N k)
        have hyl2 : ys.length ≤ 1073741824 := by rw [hyl.out]; omega
        go_wp2_with (first | (refine wl_bin rfl rfl rfl rfl rfl ik iN ?_; intro rt nrt hrt) | (go_at_call 100; refine (spectrumI_any _ _ _ _ _ _ (hcw.ext (by repeat (first | assumption | exact Ext.refl _ | apply Ext.drewN | apply Ext.alloc | (refine Ext.setCell ?_ (by first | assumption | exact Nat.le_refl _) _)))) h128 hrt hfin).mono ?_; rintro _ _ ⟨zr, zi, n2, rfl, hzr, hzi, rfl⟩) | (at_builtin; refine wl_append1V (f := cx) (t := 43) (ts := 49) (z := (0, 0)) (r := (zr, zi)) cxCells w rfl underKS ki0 kz0 ks0 kb0 (by decide) (by decide) rfl rfl rfl (by repeat (first | assumption | apply OwnV.drewN | apply OwnV.alloc)) (by repeat (first | assumption | exact Ext.refl _ | apply Ext.drewN | apply Ext.alloc | (refine Ext.setCell ?_ (by first | assumption | exact Nat.le_refl _) _))) hyl2 (by first | exact cell_new _ _ _ | exact cell_newD _ _ _ _) ?_; intro v5 w5 hO5 hE5))
        go_roundw
        case rel => exact ⟨k + 1, _, by omega, by go_num, hO5, by unfold Hid; rw [clz_append, hys.out, HS.out]; simp only [clz, List.map_cons, List.map_nil, turnK, hzr.out', hzi.out', cl_length], by unfold Hid; rw [List.length_append, hyl.out]; rfl, hE5⟩
        case measure => simp [intOf]; omega
      · obtain rfl : k = N := by omega
        go_wp2
        go_ret2
        exact givesKO_some hn.out hE hO hys.out
set_option maxHeartbeats 4000000 in
theorem specSpt_any (ao : Option Addr) (cap : Nat) (xs : List Nat) (n : Int) (w : World) (hc : FR w ao xs) (hl : xs.length ≤ 1048576) (hi1 : -9223372036854775808 ≤ n) (hi2 : n ≤ 9223372036854775807) :
    Calls Try.prog 39 #[.slice ao xs.length cap, .int .i64 n] w (GivesKO (sptO (cl xs) n) w) := by
  cases ht : inB (xs.length : Int) 1 128 with
  | false =>
    have hn : Hid (sptO (cl xs) n = none) := by unfold Hid sptO; rw [isTr_cl, ht]; rfl
    go_enter Try.func39, Try.ntmps39
    go_wp2_with (go_at_call 85; refine (l03Is_any _ _ _ _ ht (by omega) _).mono ?_; rintro _ _ ⟨rfl, rfl⟩)
    go_ret2
    exact givesKO_none hn.out (Ext.refl _)
  | true =>
  cases hf : inB n 1 128 with
  | false =>
    have hn : Hid (sptO (cl xs) n = none) := by unfold Hid sptO; rw [isTr_cl, ht, hf]; rfl
    go_enter Try.func39, Try.ntmps39
    go_wp2_with (first | (go_at_call 85; refine (l03Is_any _ _ _ _ ht (by omega) _).mono ?_; rintro _ _ ⟨rfl, rfl⟩) | (go_at_call 90; refine (l00In_any _ _ _ _ hf _).mono ?_; rintro _ _ ⟨rfl, rfl⟩))
    go_ret2
    exact givesKO_none hn.out (Ext.refl _)
  | true =>
    have h128 := inB_128 ht
    obtain ⟨N, rfl⟩ : ∃ N : Nat, n = (N : Int) := ⟨n.toNat, by unfold inB at hf; simp at hf; omega⟩
    have hN := inB_128 hf
    have hn : Hid (sptO (cl xs) (N : Int) = some (spN (cl xs) N N)) := by unfold Hid sptO; rw [isTr_cl, ht, hf]; rfl
    obtain ⟨i0, ki0, kz0, ks0, kb0⟩ := info_parts info43
    go_enter Try.func39, Try.ntmps39
    go_wp2_with (first | (go_at_call 85; refine (l03Is_any _ _ _ _ ht (by omega) _).mono ?_; rintro _ _ ⟨rfl, rfl⟩) | (go_at_call 90; refine (l00In_any _ _ _ _ hf _).mono ?_; rintro _ _ ⟨rfl, rfl⟩))
    go_loopw [6, 7] (fun v iv wr => ∃ (k : Nat) (ys : List (Nat × Nat)), k ≤ N ∧ iv = .int .i64 k ∧ OwnK wr w.heap.size v ys ∧ Hid (clz ys = spN (cl xs) N k) ∧ Hid (ys.length = k) ∧ Ext w wr) (fun _ iv _ => N - (intOf iv).toNat)
    case atStart => exact ⟨0, [], Nat.zero_le _, rfl, ownV_empty _ _ (Ext.refl _), rfl, rfl, (Ext.refl _).alloc _⟩
    case round =>
      obtain ⟨k, ys, hk, rfl, hO, hys, hyl, hE⟩ := hrel
      by_cases hlt : k < N
      · have hcw := hc.ext hE
        have ik := is_ofInt .f32 (k : Int)
        have iN := is_ofInt .f32 (N : Int)
        have hfin : finK .f32 (fop .quo .f32 (floatOfInt .f32 (k : Int)) (floatOfInt .f32 (N : Int))) = true := turn_fin hN hlt
        have HS := Lib.hid (spN_succ (cl xs) N k)
        have hyl2 : ys.length ≤ 1073741824 := by rw [hyl.out]; omega
        go_wp2_with (first | (refine wl_bin rfl rfl rfl rfl rfl ik iN ?_; intro rt nrt hrt) | (go_at_call 98; refine (spectrumS_any _ _ _ _ _ _ (hcw.ext (by repeat (first | assumption | exact Ext.refl _ | apply Ext.drewN | apply Ext.alloc | (refine Ext.setCell ?_ (by first | assumption | exact Nat.le_refl _) _)))) h128 hrt hfin).mono ?_; rintro _ _ ⟨zr, zi, n2, rfl, hzr, hzi, rfl⟩) | (at_builtin; refine wl_append1V (f := cx) (t := 43) (ts := 49) (z := (0, 0)) (r := (zr, zi)) cxCells w rfl underKS ki0 kz0 ks0 kb0 (by decide) (by decide) rfl rfl rfl (by repeat (first | assumption | apply OwnV.drewN | apply OwnV.alloc)) (by repeat (first | assumption | exact Ext.refl _ | apply Ext.drewN | apply Ext.alloc | (refine Ext.setCell ?_ (by first | assumption | exact Nat.le_refl _) _))) hyl2 (by first | exact cell_new _ _ _ | exact cell_newD _ _ _ _) ?_; intro v5 w5 hO5 hE5))
        go_roundw
        case rel => exact ⟨k + 1, _, by omega, by go_num, hO5, by unfold Hid; rw [clz_append, hys.out, HS.out]; simp only [clz, List.map_cons, List.map_nil, turnK, hzr.out', hzi.out', cl_length], by unfold Hid; rw [List.length_append, hyl.out]; rfl, hE5⟩
        case measure => simp [intOf]; omega
      · obtain rfl : k = N := by omega
        go_wp2
        go_ret2
        exact givesKO_some hn.out hE hO hys.out
end Go.Proofs.Ytnjgcacnfobmiaa.tr
