/- Grounds: boundaries, speeds, cosines. -/
import Derived.Test.YtnjgcacnfobmiaaGrdI
namespace Go.Proofs.Ytnjgcacnfobmiaa
open Go.RowKit
set_option maxRecDepth 100000
set_option linter.unusedVariables false

theorem OwnL.capN {w : World} {base m n cap : Nat} {ao : Option Addr} {ls : List Nat} (h : OwnL w base (.slice ao m cap) n ls) : m ≤ cap := by
  rcases h.2.2 with ⟨h1, h2⟩ | ⟨g, cp, cur, h1, h2, h3, h4, h5⟩
  · injection h1 with _ h1 h6; omega
  · injection h1 with _ h1 h6
    have := h.1
    omega
theorem grd_len {n : Nat} {l : List Nat} {s d : Nat} (h : grdB n l s d = true) : 1 ≤ n ∧ n ≤ 12 := by
  rw [grdB_eq] at h
  simp only [Bool.and_eq_true] at h
  have := inB_yes h.1
  omega
theorem bnd_parts {n : Nat} {l : List Nat} {s d : Nat} {k : Int} (h : bndB n l s d k = true) : grdB n l s d = true ∧ (1 ≤ n ∧ n ≤ 12) ∧ 0 ≤ k ∧ k < n := by
  unfold bndB at h
  simp only [Bool.and_eq_true] at h
  have h1 := inB_yes h.2
  exact ⟨h.1, grd_len h.1, h1.1, by omega⟩
theorem l02Bnd_any (B : Nat) (la : Option Addr) (lc n : Nat) (ls : List Nat) (sp de : Nat) (k : Int) (v : Bool) (w : World) (h0 : w.cell? ⟨B, 0, none⟩ = some (.slice la n lc)) (h1 : w.cell? ⟨B, 1, none⟩ = some (.float .f32 sp)) (h2 : w.cell? ⟨B, 2, none⟩ = some (.float .f32 de)) (hc : LR w la n ls) (hl : n ≤ 1048576) (hv : bndB n (cl ls) (canon .f32 sp) (canon .f32 de) k = v) :
    Calls Try.prog 117 #[.pointer (some ⟨B, 0, none⟩), .int .i64 k] w (Gives (.bool v) w) := by
  have HV := Lib.hid hv
  clear hv
  cases hg : grdB n (cl ls) (canon .f32 sp) (canon .f32 de) with
  | false =>
    have h : Hid (v = false) := by unfold Hid; rw [← HV.out]; unfold bndB; rw [hg]; rfl
    go_enter Try.func117, Try.ntmps117
    go_wp2_with (go_at_call 134; refine (l02Is_any _ _ _ _ _ _ _ _ _ h0 h1 h2 hc hl hg).mono ?_; rintro _ _ ⟨rfl, m2, rfl⟩)
    go_ret
    exact ⟨by rw [h.out]; rfl, _, rfl⟩
  | true =>
    have hn := grd_len hg
    cases hi : inB k 0 ((n : Int) - 1) with
    | false =>
      have h : Hid (v = false) := by unfold Hid; rw [← HV.out]; unfold bndB; rw [hg, hi]; rfl
      go_enter Try.func117, Try.ntmps117
      go_wp2_with (first | (go_at_call 134; refine (l02Is_any _ _ _ _ _ _ _ _ _ h0 h1 h2 hc hl hg).mono ?_; rintro _ _ ⟨rfl, m2, rfl⟩) | (go_at_call 77; refine (within_any _ _ _ _ (by first | assumption | rfl) _).mono ?_; rintro _ _ ⟨rfl, rfl⟩) | (go_at_call 90; refine (l00In_any _ _ _ _ (by first | assumption | rfl) _).mono ?_; rintro _ _ ⟨rfl, rfl⟩) | (go_at_call 96; refine (isCount_any _ _ (by first | assumption | rfl) _).mono ?_; rintro _ _ ⟨rfl, rfl⟩) | (go_at_call 88; refine (isTrace_any _ _ _ _ (by first | assumption | rfl) _).mono ?_; rintro _ _ ⟨rfl, rfl⟩) | (go_at_call 85; refine (l03Is_any _ _ _ _ (by first | assumption | rfl) (by omega) _).mono ?_; rintro _ _ ⟨rfl, rfl⟩) | (go_at_call 78; refine (length32_any _ _ _ _).mono ?_; rintro _ _ ⟨rfl, rfl⟩) | (go_at_call 148; refine (isFinite64_any _ _ _ (by assumption) (by first | assumption | rfl) _).mono ?_; rintro _ _ ⟨rfl, n, rfl⟩) | (go_at_call 99; refine (isFinite_any _ _ _ (by first | assumption | exact is_ofInt _ _ | exact is_self) (by first | assumption | rfl) _).mono ?_; rintro _ _ ⟨rfl, n, rfl⟩) | (go_at_call 97; refine (l01Finite_any _ _ _ (by first | assumption | exact is_ofInt _ _ | exact is_self) (by first | assumption | rfl) _).mono ?_; rintro _ _ ⟨rfl, n, rfl⟩))
      go_ret
      exact ⟨by rw [h.out]; rfl, _, rfl⟩
    | true =>
      have h : Hid (v = true) := by unfold Hid; rw [← HV.out]; unfold bndB; rw [hg, hi]; rfl
      go_enter Try.func117, Try.ntmps117
      go_wp2_with (first | (go_at_call 134; refine (l02Is_any _ _ _ _ _ _ _ _ _ h0 h1 h2 hc hl hg).mono ?_; rintro _ _ ⟨rfl, m2, rfl⟩) | (go_at_call 77; refine (within_any _ _ _ _ (by first | assumption | rfl) _).mono ?_; rintro _ _ ⟨rfl, rfl⟩) | (go_at_call 90; refine (l00In_any _ _ _ _ (by first | assumption | rfl) _).mono ?_; rintro _ _ ⟨rfl, rfl⟩) | (go_at_call 96; refine (isCount_any _ _ (by first | assumption | rfl) _).mono ?_; rintro _ _ ⟨rfl, rfl⟩) | (go_at_call 88; refine (isTrace_any _ _ _ _ (by first | assumption | rfl) _).mono ?_; rintro _ _ ⟨rfl, rfl⟩) | (go_at_call 85; refine (l03Is_any _ _ _ _ (by first | assumption | rfl) (by omega) _).mono ?_; rintro _ _ ⟨rfl, rfl⟩) | (go_at_call 78; refine (length32_any _ _ _ _).mono ?_; rintro _ _ ⟨rfl, rfl⟩) | (go_at_call 148; refine (isFinite64_any _ _ _ (by assumption) (by first | assumption | rfl) _).mono ?_; rintro _ _ ⟨rfl, n, rfl⟩) | (go_at_call 99; refine (isFinite_any _ _ _ (by first | assumption | exact is_ofInt _ _ | exact is_self) (by first | assumption | rfl) _).mono ?_; rintro _ _ ⟨rfl, n, rfl⟩) | (go_at_call 97; refine (l01Finite_any _ _ _ (by first | assumption | exact is_ofInt _ _ | exact is_self) (by first | assumption | rfl) _).mono ?_; rintro _ _ ⟨rfl, n, rfl⟩))
      go_ret
      exact ⟨by rw [h.out]; rfl, _, rfl⟩
set_option maxHeartbeats 1000000 in
theorem isBnd_any (la : Option Addr) (lc n : Nat) (ls : List Nat) (sp de : Nat) (k : Int) (v : Bool) (w : World) (hc : LR w la n ls) (hl : n ≤ 1048576) (hv : bndB n (cl ls) (canon .f32 sp) (canon .f32 de) k = v) :
    Calls Try.prog 121 #[.agg #[.slice la n lc, .float .f32 sp, .float .f32 de], .int .i64 k] w (GivesE (.bool v) w) := by
  have HV := Lib.hid hv
  clear hv
  generalize hA : w.alloc (.cells #[.slice la n lc, .float .f32 sp, .float .f32 de] 79) = w0
  have E0 : Ext w w0 := by rw [← hA]; exact (Ext.refl w).alloc _
  have c0 : w0.cell? ⟨w.heap.size, 0, none⟩ = some (.slice la n lc) := by rw [← hA]; exact boxed (Ext.refl _) rfl
  have c1 : w0.cell? ⟨w.heap.size, 1, none⟩ = some (.float .f32 sp) := by rw [← hA]; exact boxed (Ext.refl _) rfl
  have c2 : w0.cell? ⟨w.heap.size, 2, none⟩ = some (.float .f32 de) := by rw [← hA]; exact boxed (Ext.refl _) rfl
  have hcw := hc.ext E0
  have HA := Lib.hid hA
  clear hA
  cases hg : grdB n (cl ls) (canon .f32 sp) (canon .f32 de) with
  | false =>
    have h : Hid (v = false) := by unfold Hid; rw [← HV.out]; unfold bndB; rw [hg]; rfl
    go_enter Try.func121, Try.ntmps121
    go_wp2_with fail
    rw [HA.out]
    go_wp2_with (go_at_call 135; refine (implValidG_any _ _ _ _ _ _ _ _ hcw hl hg).mono ?_; rintro _ w1 ⟨rfl, E1⟩; (have c0 := E1.cell c0); (have c1 := E1.cell c1); (have c2 := E1.cell c2))
    go_ret
    exact ⟨by rw [h.out]; rfl, E0.trans E1⟩
  | true =>
    have hn := grd_len hg
    cases hi : inB k 0 ((n : Int) - 1) with
    | false =>
      have h : Hid (v = false) := by unfold Hid; rw [← HV.out]; unfold bndB; rw [hg, hi]; rfl
      go_enter Try.func121, Try.ntmps121
      go_wp2_with fail
      rw [HA.out]
      go_wp2_with (first | (go_at_call 135; refine (implValidG_any _ _ _ _ _ _ _ _ hcw hl hg).mono ?_; rintro _ w1 ⟨rfl, E1⟩; (have c0 := E1.cell c0); (have c1 := E1.cell c1); (have c2 := E1.cell c2)) | (go_at_call 136; refine (lengthL_any _ _ _ _).mono ?_; rintro _ _ ⟨rfl, rfl⟩) | (go_at_call 77; refine (within_any _ _ _ _ (by first | assumption | rfl) _).mono ?_; rintro _ _ ⟨rfl, rfl⟩) | (go_at_call 90; refine (l00In_any _ _ _ _ (by first | assumption | rfl) _).mono ?_; rintro _ _ ⟨rfl, rfl⟩) | (go_at_call 96; refine (isCount_any _ _ (by first | assumption | rfl) _).mono ?_; rintro _ _ ⟨rfl, rfl⟩) | (go_at_call 88; refine (isTrace_any _ _ _ _ (by first | assumption | rfl) _).mono ?_; rintro _ _ ⟨rfl, rfl⟩) | (go_at_call 85; refine (l03Is_any _ _ _ _ (by first | assumption | rfl) (by omega) _).mono ?_; rintro _ _ ⟨rfl, rfl⟩) | (go_at_call 78; refine (length32_any _ _ _ _).mono ?_; rintro _ _ ⟨rfl, rfl⟩) | (go_at_call 148; refine (isFinite64_any _ _ _ (by assumption) (by first | assumption | rfl) _).mono ?_; rintro _ _ ⟨rfl, n, rfl⟩) | (go_at_call 99; refine (isFinite_any _ _ _ (by first | assumption | exact is_ofInt _ _ | exact is_self) (by first | assumption | rfl) _).mono ?_; rintro _ _ ⟨rfl, n, rfl⟩) | (go_at_call 97; refine (l01Finite_any _ _ _ (by first | assumption | exact is_ofInt _ _ | exact is_self) (by first | assumption | rfl) _).mono ?_; rintro _ _ ⟨rfl, n, rfl⟩))
      go_ret
      exact ⟨by rw [h.out]; rfl, E0.trans E1⟩
    | true =>
      have h : Hid (v = true) := by unfold Hid; rw [← HV.out]; unfold bndB; rw [hg, hi]; rfl
      go_enter Try.func121, Try.ntmps121
      go_wp2_with fail
      rw [HA.out]
      go_wp2_with (first | (go_at_call 135; refine (implValidG_any _ _ _ _ _ _ _ _ hcw hl hg).mono ?_; rintro _ w1 ⟨rfl, E1⟩; (have c0 := E1.cell c0); (have c1 := E1.cell c1); (have c2 := E1.cell c2)) | (go_at_call 136; refine (lengthL_any _ _ _ _).mono ?_; rintro _ _ ⟨rfl, rfl⟩) | (go_at_call 77; refine (within_any _ _ _ _ (by first | assumption | rfl) _).mono ?_; rintro _ _ ⟨rfl, rfl⟩) | (go_at_call 90; refine (l00In_any _ _ _ _ (by first | assumption | rfl) _).mono ?_; rintro _ _ ⟨rfl, rfl⟩) | (go_at_call 96; refine (isCount_any _ _ (by first | assumption | rfl) _).mono ?_; rintro _ _ ⟨rfl, rfl⟩) | (go_at_call 88; refine (isTrace_any _ _ _ _ (by first | assumption | rfl) _).mono ?_; rintro _ _ ⟨rfl, rfl⟩) | (go_at_call 85; refine (l03Is_any _ _ _ _ (by first | assumption | rfl) (by omega) _).mono ?_; rintro _ _ ⟨rfl, rfl⟩) | (go_at_call 78; refine (length32_any _ _ _ _).mono ?_; rintro _ _ ⟨rfl, rfl⟩) | (go_at_call 148; refine (isFinite64_any _ _ _ (by assumption) (by first | assumption | rfl) _).mono ?_; rintro _ _ ⟨rfl, n, rfl⟩) | (go_at_call 99; refine (isFinite_any _ _ _ (by first | assumption | exact is_ofInt _ _ | exact is_self) (by first | assumption | rfl) _).mono ?_; rintro _ _ ⟨rfl, n, rfl⟩) | (go_at_call 97; refine (l01Finite_any _ _ _ (by first | assumption | exact is_ofInt _ _ | exact is_self) (by first | assumption | rfl) _).mono ?_; rintro _ _ ⟨rfl, n, rfl⟩))
      go_ret
      exact ⟨by rw [h.out]; rfl, E0.trans E1⟩

/-! ### Speeds -/
theorem l02Speed_any (B : Nat) (la : Option Addr) (lc n : Nat) (ls : List Nat) (sp de : Nat) (k : Nat) (w : World) (h0 : w.cell? ⟨B, 0, none⟩ = some (.slice la n lc)) (h1 : w.cell? ⟨B, 1, none⟩ = some (.float .f32 sp)) (h2 : w.cell? ⟨B, 2, none⟩ = some (.float .f32 de)) (hc : LR w la n ls) (hl : n ≤ 1048576) (hk : k ≤ n) :
    Calls Try.prog 161 #[.pointer (some ⟨B, 0, none⟩), .int .i64 (k : Int)] w (GivesF .f32 (spdG n (cl ls) (canon .f32 sp) k) w) := by
  by_cases hlt : k < n
  · obtain ⟨b, off, rfl, _, q0, q1, q2, q3⟩ := hc.at hlt
    have e1 : ¬ (k : Int) = (n : Int) := by omega
    go_enter Try.func161, Try.ntmps161
    go_wp2_with fail
    go_ret
    refine ⟨_, 0, rfl, ?_, rfl⟩
    unfold spdG
    rw [if_pos hlt]
    exact is_lay hc.1 hlt (by omega)
  · obtain rfl : k = n := by omega
    go_enter Try.func161, Try.ntmps161
    go_wp2_with fail
    go_ret
    refine ⟨_, 0, rfl, ?_, rfl⟩
    unfold spdG
    rw [if_neg hlt]
    exact is_self
theorem speed_any (la : Option Addr) (lc n : Nat) (ls : List Nat) (sp de : Nat) (k : Nat) (w : World) (hc : LR w la n ls) (hl : n ≤ 1048576) (hk : k ≤ n) :
    Calls Try.prog 131 #[.agg #[.slice la n lc, .float .f32 sp, .float .f32 de], .int .i64 (k : Int)] w (GivesFX (spdG n (cl ls) (canon .f32 sp) k) w) := by
  generalize hA : w.alloc (.cells #[.slice la n lc, .float .f32 sp, .float .f32 de] 79) = w0
  have E0 : Ext w w0 := by rw [← hA]; exact (Ext.refl w).alloc _
  have c0 : w0.cell? ⟨w.heap.size, 0, none⟩ = some (.slice la n lc) := by rw [← hA]; exact boxed (Ext.refl _) rfl
  have c1 : w0.cell? ⟨w.heap.size, 1, none⟩ = some (.float .f32 sp) := by rw [← hA]; exact boxed (Ext.refl _) rfl
  have c2 : w0.cell? ⟨w.heap.size, 2, none⟩ = some (.float .f32 de) := by rw [← hA]; exact boxed (Ext.refl _) rfl
  have hcw := hc.ext E0
  have HA := Lib.hid hA
  clear hA
  by_cases hlt : k < n
  · obtain ⟨b, off, rfl, _, q0, q1, q2, q3⟩ := hcw.at hlt
    have e1 : (k : Int) < (n : Int) := by omega
    go_enter Try.func131, Try.ntmps131
    go_wp2_with fail
    rw [HA.out]
    go_wp2_with (go_at_call 136; refine (lengthL_any _ _ _ _).mono ?_; rintro _ _ ⟨rfl, rfl⟩)
    go_ret
    refine ⟨_, rfl, ?_, E0⟩
    unfold spdG
    rw [if_pos hlt]
    exact is_lay hc.1 hlt (by omega)
  · have e1 : ¬ (k : Int) < (n : Int) := by omega
    go_enter Try.func131, Try.ntmps131
    go_wp2_with fail
    rw [HA.out]
    go_wp2_with (go_at_call 136; refine (lengthL_any _ _ _ _).mono ?_; rintro _ _ ⟨rfl, rfl⟩)
    go_ret
    refine ⟨_, rfl, ?_, E0⟩
    unfold spdG
    rw [if_neg hlt]
    exact is_self
/-! ### Sines and cosines -/
theorem l02Sine_any (B : Nat) (la : Option Addr) (lc n : Nat) (ls : List Nat) (sp de : Nat) (k : Nat) (pb p : Nat) (w : World) (h0 : w.cell? ⟨B, 0, none⟩ = some (.slice la n lc)) (h1 : w.cell? ⟨B, 1, none⟩ = some (.float .f32 sp)) (h2 : w.cell? ⟨B, 2, none⟩ = some (.float .f32 de)) (hc : LR w la n ls) (hl : n ≤ 1048576) (hk : k ≤ n) (hp : Is .f32 pb p) :
    Calls Try.prog 158 #[.pointer (some ⟨B, 0, none⟩), .int .i64 (k : Int), .float .f32 pb] w (GivesF .f32 (sinG n (cl ls) (canon .f32 sp) k p) w) := by
  go_enter Try.func158, Try.ntmps158
  go_wp2_with (first | (go_at_call 161; refine (l02Speed_any _ _ _ _ _ _ _ _ _ h0 h1 h2 hc hl hk).mono ?_; rintro _ w1 ⟨s, m, rfl, hs, rfl⟩) | (refine wl_bin rfl rfl rfl rfl rfl hp hs ?_; intro r n1 hr))
  go_ret
  exact ⟨_, _, rfl, hr, rfl⟩
theorem l02Cos_any (B : Nat) (la : Option Addr) (lc n : Nat) (ls : List Nat) (sp de : Nat) (k : Nat) (pb p : Nat) (w : World) (h0 : w.cell? ⟨B, 0, none⟩ = some (.slice la n lc)) (h1 : w.cell? ⟨B, 1, none⟩ = some (.float .f32 sp)) (h2 : w.cell? ⟨B, 2, none⟩ = some (.float .f32 de)) (hc : LR w la n ls) (hl : n ≤ 1048576) (hk : k ≤ n) (hp : Is .f32 pb p) :
    Calls Try.prog 157 #[.pointer (some ⟨B, 0, none⟩), .int .i64 (k : Int), .float .f32 pb] w (GivesFO (cosO n (cl ls) (canon .f32 sp) k p) w) := by
  cases hq : fcmp .lss .f32 (sinG n (cl ls) (canon .f32 sp) k p) (canon .f32 1065353216) with
  | false =>
    have h : Hid (cosO n (cl ls) (canon .f32 sp) k p = none) := by unfold Hid cosO; rw [hq]; rfl
    go_enter Try.func157, Try.ntmps157
    go_wp2_with (first | (go_at_call 158; refine (l02Sine_any _ _ _ _ _ _ _ _ _ _ _ h0 h1 h2 hc hl hk hp).mono ?_; rintro _ w1 ⟨s, m, rfl, hs, rfl⟩) | (refine wl_cmp rfl rfl rfl rfl rfl hs is_self hq ?_))
    go_ret2
    exact givesFO_none h.out
  | true =>
    have h : Hid (cosO n (cl ls) (canon .f32 sp) k p = some (cosV (sinG n (cl ls) (canon .f32 sp) k p))) := by unfold Hid cosO; rw [hq]; rfl
    go_enter Try.func157, Try.ntmps157
    go_wp2_with (first | (go_at_call 158; refine (l02Sine_any _ _ _ _ _ _ _ _ _ _ _ h0 h1 h2 hc hl hk hp).mono ?_; rintro _ w1 ⟨s, m, rfl, hs, rfl⟩) | (go_at_call 168; refine (l01Sqrt_any _ _ (by assumption) _).mono ?_; rintro _ w2 ⟨r, m3, rfl, hr, rfl⟩) | (refine wl_cmp rfl rfl rfl rfl rfl hs is_self hq ?_) | (refine wl_bin rfl rfl rfl rfl rfl (by first | assumption | exact is_ofInt _ _ | exact is_self) (by first | assumption | exact is_ofInt _ _ | exact is_self) ?_; intro r n hr) | (refine wl_cmp rfl rfl rfl rfl rfl (by first | assumption | exact is_ofInt _ _ | exact is_self) (by first | assumption | exact is_ofInt _ _ | exact is_self) (by first | assumption | rfl) ?_) | (refine wl_widen rfl rfl rfl (by first | exact rfl | kernel_rfl) (by kernel_rfl) (by first | assumption | exact is_ofInt _ _ | exact is_self) ?_; intro r n hr) | (refine wl_neg rfl rfl rfl (by first | assumption | exact is_ofInt _ _ | exact is_self) ?_; intro r hr))
    go_ret2
    exact ⟨_, _, by rw [h.out]; rfl, by rw [h.out]; assumption, rfl⟩
theorem cos_any (la : Option Addr) (lc n : Nat) (ls : List Nat) (sp de : Nat) (k : Nat) (pb p : Nat) (w : World) (hc : LR w la n ls) (hl : n ≤ 1048576) (hk : k ≤ n) (hp : Is .f32 pb p) :
    Calls Try.prog 132 #[.agg #[.slice la n lc, .float .f32 sp, .float .f32 de], .int .i64 (k : Int), .float .f32 pb] w (GivesFE (cosO n (cl ls) (canon .f32 sp) k p) w) := by
  generalize hA : w.alloc (.cells #[.slice la n lc, .float .f32 sp, .float .f32 de] 79) = w0
  have E0 : Ext w w0 := by rw [← hA]; exact (Ext.refl w).alloc _
  have c0 : w0.cell? ⟨w.heap.size, 0, none⟩ = some (.slice la n lc) := by rw [← hA]; exact boxed (Ext.refl _) rfl
  have c1 : w0.cell? ⟨w.heap.size, 1, none⟩ = some (.float .f32 sp) := by rw [← hA]; exact boxed (Ext.refl _) rfl
  have c2 : w0.cell? ⟨w.heap.size, 2, none⟩ = some (.float .f32 de) := by rw [← hA]; exact boxed (Ext.refl _) rfl
  have hcw := hc.ext E0
  have HA := Lib.hid hA
  clear hA
  cases hq : fcmp .lss .f32 (sinG n (cl ls) (canon .f32 sp) k p) (canon .f32 1065353216) with
  | false =>
    have h : Hid (cosO n (cl ls) (canon .f32 sp) k p = none) := by unfold Hid cosO; rw [hq]; rfl
    go_enter Try.func132, Try.ntmps132
    go_wp2_with fail
    rw [HA.out]
    go_wp2_with (first | (go_at_call 131; refine (speed_any _ _ _ _ _ _ _ _ hcw hl hk).mono ?_; rintro _ w1 ⟨s, rfl, hs, E1⟩) | (refine wl_bin rfl rfl rfl rfl rfl hp hs ?_; intro r n1 hr; (replace hr : Is .f32 r (sinG n (cl ls) (canon .f32 sp) k p) := hr)) | (refine wl_cmp rfl rfl rfl rfl rfl hr is_self hq ?_))
    go_ret2
    exact givesFE_none h.out (E0.trans (E1.drewN _))
  | true =>
    have h : Hid (cosO n (cl ls) (canon .f32 sp) k p = some (cosV (sinG n (cl ls) (canon .f32 sp) k p))) := by unfold Hid cosO; rw [hq]; rfl
    go_enter Try.func132, Try.ntmps132
    go_wp2_with fail
    rw [HA.out]
    go_wp2_with (first | (go_at_call 131; refine (speed_any _ _ _ _ _ _ _ _ hcw hl hk).mono ?_; rintro _ w1 ⟨s, rfl, hs, E1⟩) | (go_at_call 163; go_loud (refine (root_any _ _ (by assumption) _).mono ?_); rintro _ w2 ⟨r2, m3, rfl, hr2, rfl⟩) | (refine wl_cmp rfl rfl rfl rfl rfl (by assumption) is_self hq ?_) | (refine wl_bin rfl rfl rfl rfl rfl hp hs ?_; intro r n1 hr; (replace hr : Is .f32 r (sinG n (cl ls) (canon .f32 sp) k p) := hr); clear hs) | (refine wl_bin rfl rfl rfl rfl rfl (by first | assumption | exact is_ofInt _ _ | exact is_self) (by first | assumption | exact is_ofInt _ _ | exact is_self) ?_; intro r n hr) | (refine wl_cmp rfl rfl rfl rfl rfl (by first | assumption | exact is_ofInt _ _ | exact is_self) (by first | assumption | exact is_ofInt _ _ | exact is_self) (by first | assumption | rfl) ?_) | (refine wl_widen rfl rfl rfl (by first | exact rfl | kernel_rfl) (by kernel_rfl) (by first | assumption | exact is_ofInt _ _ | exact is_self) ?_; intro r n hr) | (refine wl_neg rfl rfl rfl (by first | assumption | exact is_ofInt _ _ | exact is_self) ?_; intro r hr))
    go_ret2
    exact ⟨_, by rw [h.out]; rfl, by rw [h.out]; exact hr2, (by repeat (first | assumption | exact E0.trans E1 | apply Ext.drewN))⟩
end Go.Proofs.Ytnjgcacnfobmiaa
