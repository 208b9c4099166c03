/- SpectrumAt: the reference's and the program's. -/
import Derived.Test.YtnjgcacnfobmiaaSpc
import Derived.Test.YtnjgcacnfobmiaaCpx
namespace Go.Proofs.Ytnjgcacnfobmiaa.tr
open Go.RowKit Go.Proofs.Ytnjgcacnfobmiaa
set_option maxRecDepth 100000
set_option linter.unusedVariables false

set_option maxHeartbeats 4000000 in
theorem spectrumI_any (ao : Option Addr) (cap : Nat) (xs : List Nat) (sb s : Nat) (w : World) (hc : FR w ao xs) (hl : xs.length ≤ 128) (hs : Is .f32 sb s) (hf : finK .f32 s = true) :
    Calls Try.prog 100 #[.slice ao xs.length cap, .float .f32 sb] w (GivesC (spK (cl xs) s xs.length) w) := by
  go_enter Try.func100, Try.ntmps100
  go_wp2
  go_loopw [5, 10] (fun ov iv wr => ∃ (k n0 a b : Nat), k ≤ xs.length ∧ iv = .int .i64 k ∧ ov = .complex .f32 a b ∧ Is .f32 a (spK (cl xs) s k).1 ∧ Is .f32 b (spK (cl xs) s k).2 ∧ wr = w.drewN n0) (fun _ iv _ => xs.length - (intOf iv).toNat)
  case atStart => exact ⟨0, 0, 0, 0, Nat.zero_le _, rfl, rfl, is_zero, is_zero, rfl⟩
  case round =>
    obtain ⟨k, n0, a, b, hk, rfl, rfl, ha, hb, rfl⟩ := hrel
    by_cases hlt : k < xs.length
    · obtain ⟨bx, off, rfl, hcell⟩ := hc k hlt
      have hel := is_el hlt
      have hi64 := is_ofInt .f64 (k : Int)
      have hft : mg .f64 (spT s k) < inf .f64 := spT_fin hf (by omega)
      have HS := Lib.hid (spK_succ (cl xs) s k)
      go_wp2_with (first | (refine wl_widen rfl rfl rfl (by first | exact rfl | kernel_rfl) (by kernel_rfl) hs ?_; intro rw nrw hrw) | (refine wl_bin rfl rfl rfl rfl rfl hi64 hrw ?_; intro rm nrm hrm) | (refine wl_neg rfl rfl rfl hrm ?_; intro rn hrn) | (go_at_call 150; refine (phasorI_any _ _ hrn hft _).mono ?_; rintro _ _ ⟨pr, pi, np, rfl, hpr, hpi, rfl⟩) | (go_at_call 149; refine (scaleI_any _ _ _ (phF (spT s k)) _ _ hpr hpi hel).mono ?_; rintro _ _ ⟨qr, qi, nq, rfl, hqr, hqi, rfl⟩) | (go_at_call 141; refine (plusI_any _ _ _ _ (spK (cl xs) s k) _ _ ha hb hqr hqi).mono ?_; rintro _ _ ⟨ur, ui, nu, rfl, hur, hui, rfl⟩))
      go_roundw
      case rel => exact ⟨k + 1, _, ur, ui, by omega, by go_num, rfl, by rw [HS.out]; exact hur, by rw [HS.out]; exact hui, rfl⟩
      case measure => simp [intOf]; omega
    · go_wp2
      go_ret
      obtain rfl : k = xs.length := by omega
      exact ⟨a, b, _, rfl, ha, hb, rfl⟩
set_option maxHeartbeats 4000000 in
theorem spectrumS_any (ao : Option Addr) (cap : Nat) (xs : List Nat) (sb s : Nat) (w : World) (hc : FR w ao xs) (hl : xs.length ≤ 128) (hs : Is .f32 sb s) (hf : finK .f32 s = true) :
    Calls Try.prog 98 #[.slice ao xs.length cap, .float .f32 sb] w (GivesC (spK (cl xs) s xs.length) w) := by
  go_enter Try.func98, Try.ntmps98
  go_wp2
  go_loopw [5, 9] (fun ov iv wr => ∃ (k n0 a b : Nat), k ≤ xs.length ∧ iv = .int .i64 k ∧ ov = .complex .f32 a b ∧ Is .f32 a (spK (cl xs) s k).1 ∧ Is .f32 b (spK (cl xs) s k).2 ∧ wr = w.drewN n0) (fun _ iv _ => xs.length - (intOf iv).toNat)
  case atStart => exact ⟨0, 0, 0, 0, Nat.zero_le _, rfl, rfl, is_zero, is_zero, rfl⟩
  case round =>
    obtain ⟨k, n0, a, b, hk, rfl, rfl, ha, hb, rfl⟩ := hrel
    by_cases hlt : k < xs.length
    · obtain ⟨bx, off, rfl, hcell⟩ := hc k hlt
      have hel := is_el hlt
      have hi64 := is_ofInt .f64 (k : Int)
      have hft : mg .f64 (spT s k) < inf .f64 := spT_fin hf (by omega)
      have HS := Lib.hid (spK_succ (cl xs) s k)
      have hlt2 : (k : Int) < (xs.length : Int) := by omega
      go_wp2
      refine wp_region_lex (fun _ => Drawn (w.drewN n0)) (fun _ => false) (fun j v => (j = 7 → ∃ r i, v = .complex .f32 r i ∧ Is .f32 r (phF (spT s k)).1 ∧ Is .f32 i (phF (spT s k)).2) ∧ (j = 12 → ∃ r i, v = .complex .f32 r i ∧ Is .f32 r (scl (phF (spT s k)) (el (cl xs) k)).1 ∧ Is .f32 i (scl (phF (spT s k)) (el (cl xs) k)).2)) (by kernel_rfl) (by kernel_rfl) (by kernel_rfl) (fun _ => drawn_more _) (fun _ => ⟨0, rfl⟩) (fun nz => ?_)
      (refine lw_move rfl rfl rfl rfl ?_; go_simp)
      (refine lw_move rfl rfl rfl rfl ?_; go_simp)
      (refine lw_valD rfl rfl (fun nn => by go_simp; rfl) ?_; go_simp)
      (refine lw_move rfl rfl rfl rfl ?_; go_simp)
      (refine lw_widen rfl rfl rfl rfl (by first | exact rfl | kernel_rfl) (by kernel_rfl) hs ?_; intro rw hrw; go_simp)
      (refine lw_bin rfl rfl rfl rfl rfl rfl hi64 hrw ?_; intro rm hrm; go_simp)
      (refine lw_neg rfl rfl rfl rfl hrm ?_; intro rn hrn; go_simp)
      refine lw_call (args := #[.float .f64 rn]) rfl rfl (fun w' hw' => by go_simp; try rfl) (fun w' hw' => (phasorS_any _ _ hrn hft w').mono fun e w'' ⟨r, i, n, h1, h2, h3, h4⟩ => ⟨_, h1, ⟨fun _ => ⟨r, i, rfl, h2, h3⟩, fun h => absurd h (by decide)⟩, n, h4⟩) ?_
      rintro vP ⟨hvP, _⟩
      obtain ⟨pr, pi, rfl, hpr, hpi⟩ := hvP rfl
      clear hvP
      go_simp
      (refine lw_move rfl rfl rfl rfl ?_; go_simp)
      (refine lw_move rfl rfl rfl rfl ?_; go_simp)
      (refine lw_valD rfl rfl (fun nn => by go_simp; rfl) ?_; go_simp)
      (refine lw_valD rfl rfl (fun nn => by go_simp; rfl) ?_; go_simp)
      refine lw_call (args := #[.complex .f32 pr pi, .float .f32 (el xs k)]) rfl rfl (fun w' hw' => by go_simp; try rfl) (fun w' hw' => (scaleS_any _ _ _ (phF (spT s k)) _ w' hpr hpi hel).mono fun e w'' ⟨r, i, n, h1, h2, h3, h4⟩ => ⟨_, h1, ⟨fun h => absurd h (by decide), fun _ => ⟨r, i, rfl, h2, h3⟩⟩, n, h4⟩) ?_
      rintro vQ ⟨_, hvQ⟩
      obtain ⟨qr, qi, rfl, hqr, hqi⟩ := hvQ rfl
      clear hvQ
      go_simp
      (refine lw_cadd rfl rfl rfl rfl rfl (s := spK (cl xs) s k) (t := scl (phF (spT s k)) (el (cl xs) k)) ha hb hqr hqi ?_; intro ur ui hur hui; go_simp)
      (refine lw_assign rfl rfl rfl rfl ?_; go_simp)
      (refine lw_nil ?_; intro nq)
      go_wp2
      go_roundw
      case rel => exact ⟨k + 1, _, ur, ui, by omega, by go_num, rfl, by rw [HS.out]; exact hur, by rw [HS.out]; exact hui, by first | rfl | (simp only [drewN_drewN']; rfl)⟩
      case measure => simp [intOf]; omega
    · go_wp2
      go_ret
      obtain rfl : k = xs.length := by omega
      exact ⟨a, b, _, rfl, ha, hb, rfl⟩
theorem inB_128 {n : Nat} (h : inB (n : Int) 1 128 = true) : n ≤ 128 := by
  unfold inB at h
  simp at h
  omega
theorem implSpc_any (ao : Option Addr) (cap : Nat) (xs : List Nat) (sb s : Nat) (w : World) (hc : FR w ao xs) (hl : xs.length ≤ 1048576) (hs : Is .f32 sb s) :
    Calls Try.prog 37 #[.slice ao xs.length cap, .float .f32 sb] w (GivesCE (specO (cl xs) s) w) := by
  cases ht : inB (xs.length : Int) 1 128 with
  | false =>
    have hn : Hid (specO (cl xs) s = none) := by unfold Hid specO; rw [isTr_cl, ht]; rfl
    go_enter Try.func37, Try.ntmps37
    go_wp2_with (go_at_call 88; refine (isTrace_any _ _ _ _ ht _).mono ?_; rintro _ _ ⟨rfl, rfl⟩)
    go_ret2
    exact givesCE_none hn.out (Ext.refl _)
  | true =>
  cases hf : finK .f32 s with
  | false =>
    have hn : Hid (specO (cl xs) s = none) := by unfold Hid specO; rw [isTr_cl, ht, hf]; rfl
    go_enter Try.func37, Try.ntmps37
    go_wp2_with (first | (go_at_call 88; refine (isTrace_any _ _ _ _ ht _).mono ?_; rintro _ _ ⟨rfl, rfl⟩) | (go_at_call 99; refine (isFinite_any _ _ _ hs hf _).mono ?_; rintro _ _ ⟨rfl, n1, rfl⟩))
    go_ret2
    exact givesCE_none hn.out (by repeat (first | assumption | exact Ext.refl _ | apply Ext.drewN | apply Ext.alloc | (refine Ext.setCell ?_ (by first | assumption | exact Nat.le_refl _) _)))
  | true =>
    have h128 := inB_128 ht
    have hn : Hid (specO (cl xs) s = some (spK (cl xs) s xs.length)) := by unfold Hid specO; rw [isTr_cl, ht, hf, cl_length]; rfl
    go_enter Try.func37, Try.ntmps37
    go_wp2_with (first | (go_at_call 88; refine (isTrace_any _ _ _ _ ht _).mono ?_; rintro _ _ ⟨rfl, rfl⟩) | (go_at_call 99; refine (isFinite_any _ _ _ hs hf _).mono ?_; rintro _ _ ⟨rfl, n1, rfl⟩) | (go_at_call 100; refine (spectrumI_any _ _ _ _ _ _ (hc.ext (by repeat (first | assumption | exact Ext.refl _ | apply Ext.drewN | apply Ext.alloc | (refine Ext.setCell ?_ (by first | assumption | exact Nat.le_refl _) _)))) h128 hs hf).mono ?_; rintro _ _ ⟨zr, zi, n2, rfl, hzr, hzi, rfl⟩))
    go_ret2
    exact givesCE_some hn.out hzr hzi (by repeat (first | assumption | exact Ext.refl _ | apply Ext.drewN | apply Ext.alloc | (refine Ext.setCell ?_ (by first | assumption | exact Nat.le_refl _) _)))
theorem specSpc_any (ao : Option Addr) (cap : Nat) (xs : List Nat) (sb s : Nat) (w : World) (hc : FR w ao xs) (hl : xs.length ≤ 1048576) (hs : Is .f32 sb s) :
    Calls Try.prog 36 #[.slice ao xs.length cap, .float .f32 sb] w (GivesCE (specO (cl xs) s) w) := by
  cases ht : inB (xs.length : Int) 1 128 with
  | false =>
    have hn : Hid (specO (cl xs) s = none) := by unfold Hid specO; rw [isTr_cl, ht]; rfl
    go_enter Try.func36, Try.ntmps36
    go_wp2_with (go_at_call 85; refine (l03Is_any _ _ _ _ ht (by omega) _).mono ?_; rintro _ _ ⟨rfl, rfl⟩)
    go_ret2
    exact givesCE_none hn.out (Ext.refl _)
  | true =>
  cases hf : finK .f32 s with
  | false =>
    have hn : Hid (specO (cl xs) s = none) := by unfold Hid specO; rw [isTr_cl, ht, hf]; rfl
    go_enter Try.func36, Try.ntmps36
    go_wp2_with (first | (go_at_call 85; refine (l03Is_any _ _ _ _ ht (by omega) _).mono ?_; rintro _ _ ⟨rfl, rfl⟩) | (go_at_call 97; refine (l01Finite_any _ _ _ hs hf _).mono ?_; rintro _ _ ⟨rfl, n1, rfl⟩))
    go_ret2
    exact givesCE_none hn.out (by repeat (first | assumption | exact Ext.refl _ | apply Ext.drewN | apply Ext.alloc | (refine Ext.setCell ?_ (by first | assumption | exact Nat.le_refl _) _)))
  | true =>
    have h128 := inB_128 ht
    have hn : Hid (specO (cl xs) s = some (spK (cl xs) s xs.length)) := by unfold Hid specO; rw [isTr_cl, ht, hf, cl_length]; rfl
    go_enter Try.func36, Try.ntmps36
    go_wp2_with (first | (go_at_call 85; refine (l03Is_any _ _ _ _ ht (by omega) _).mono ?_; rintro _ _ ⟨rfl, rfl⟩) | (go_at_call 97; refine (l01Finite_any _ _ _ hs hf _).mono ?_; rintro _ _ ⟨rfl, n1, rfl⟩) | (go_at_call 98; refine (spectrumS_any _ _ _ _ _ _ (hc.ext (by repeat (first | assumption | exact Ext.refl _ | apply Ext.drewN | apply Ext.alloc | (refine Ext.setCell ?_ (by first | assumption | exact Nat.le_refl _) _)))) h128 hs hf).mono ?_; rintro _ _ ⟨zr, zi, n2, rfl, hzr, hzi, rfl⟩))
    go_ret2
    exact givesCE_some hn.out hzr hzi (by repeat (first | assumption | exact Ext.refl _ | apply Ext.drewN | apply Ext.alloc | (refine Ext.setCell ?_ (by first | assumption | exact Nat.le_refl _) _)))
end Go.Proofs.Ytnjgcacnfobmiaa.tr
