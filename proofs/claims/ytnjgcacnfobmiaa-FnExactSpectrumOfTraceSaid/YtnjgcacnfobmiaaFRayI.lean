/- RayTo: the program's. -/
import Derived.Test.YtnjgcacnfobmiaaFRayS
namespace Go.Proofs.Ytnjgcacnfobmiaa
open Go.RowKit
set_option maxRecDepth 100000
set_option linter.unusedVariables false

set_option maxHeartbeats 4000000 in
theorem implRay0_any (la : Option Addr) (lc n : Nat) (ls : List Nat) (sp de : Nat) (k : Nat) (pb p : Nat) (w : World) (hc : LR w la n ls) (hl : n ≤ 1048576) (hcap : n ≤ lc) (hk : k < n) (hp : Is .f32 pb p) :
    Calls Try.prog 122 #[.agg #[.slice la n lc, .float .f32 sp, .float .f32 de], .int .i64 (k : Int), .float .f32 pb] w (GivesFFE (rayG n (cl ls) (canon .f32 sp) k p) w) := by
  generalize hA : w.alloc (.cells #[.slice la n lc, .float .f32 sp, .float .f32 de] 79) = w0
  have E0 : Ext w w0 := by rw [← hA]; exact (Ext.refl w).alloc _
  have c0 : w0.cell? ⟨w.heap.size, 0, none⟩ = some (.slice la n lc) := by rw [← hA]; exact boxed (Ext.refl _) rfl
  have c1 : w0.cell? ⟨w.heap.size, 1, none⟩ = some (.float .f32 sp) := by rw [← hA]; exact boxed (Ext.refl _) rfl
  have c2 : w0.cell? ⟨w.heap.size, 2, none⟩ = some (.float .f32 de) := by rw [← hA]; exact boxed (Ext.refl _) rfl
  have hcw := hc.ext E0
  have HA := Lib.hid hA
  clear hA
  obtain ⟨b, off, rfl, _⟩ := hc.at hk
  have e1 : (k : Int) + 1 ≤ (lc : Int) := by omega
  go_enter Try.func122, Try.ntmps122
  go_wp2_with fail
  rw [HA.out]
  go_loopw [9, 10, 21] (fun t q i wr => ∃ (j tb wb : Nat) (x : Nat × Nat), j ≤ k + 1 ∧ i = .int .i64 j ∧ t = .float .f32 tb ∧ q = .float .f32 wb ∧ Hid (rayS n (cl ls) (canon .f32 sp) p j = some x) ∧ Is .f32 tb x.1 ∧ Is .f32 wb x.2 ∧ Ext w0 wr) (fun _ _ i _ => k + 1 - (intOf i).toNat)
  case atStart => exact ⟨0, 0, 0, (canon .f32 0, canon .f32 0), Nat.zero_le _, rfl, rfl, rfl, rfl, is_self, is_self, Ext.refl _⟩
  case round =>
    obtain ⟨j, tb, wb, x, hj, rfl, rfl, rfl, hx, ht, hw, hE⟩ := hrel
    by_cases hlt : j < k + 1
    · have hjl : j < n := by omega
      have hjn : j ≤ n := by omega
      have i0 := is_lay hc.1 hjl (j := 0) (by omega)
      have i1 := is_lay hc.1 hjl (j := 1) (by omega)
      obtain ⟨b', off', hbo, _, q0, q1, q2, q3⟩ := (hcw.ext hE).at hjl
      simp only [Option.some.injEq, Addr.mk.injEq, and_true] at hbo
      obtain ⟨rfl, rfl⟩ := hbo
      have EA := hE.alloc (.cells #[.float .f32 (lay ls j 0), .float .f32 (lay ls j 1), .float .f32 (lay ls j 2), .float .f32 (lay ls j 3)] 125)
      have d0 := EA.cell c0
      have d1 := EA.cell c1
      have d2 := EA.cell c2
      clear c0 c1 c2
      cases hco : cosO n (cl ls) (canon .f32 sp) j p with
      | none =>
        have h : Hid (rayG n (cl ls) (canon .f32 sp) k p = none) := by unfold Hid rayG; rw [rayS_no hco _ (by omega)]; rfl
        go_wp2_with (go_at_call 132; refine (cos_any _ _ _ _ _ _ _ _ _ _ (by exact hcw.ext EA) hl hjn hp).mono ?_; intro e w3 hg; obtain ⟨cb, rfl, E3⟩ := GivesFE.no hco hg; clear hg)
        go_ret3
        exact givesFFE_none h.out (E0.trans (EA.trans E3))
      | some c =>
        have HS0 := rayS_yes hx.out hco hjl
        rw [sinG_lay hjl] at HS0
        have HS := Lib.hid HS0
        clear HS0
        go_wp2_with (first | (go_at_call 132; refine (cos_any _ _ _ _ _ _ _ _ _ _ (by exact hcw.ext EA) hl hjn hp).mono ?_; intro e w3 hg; obtain ⟨cb, rfl, hcb, E3⟩ := GivesFE.yes hco hg; (have f0 := boxed E3 (i := 0) rfl); (have f1 := boxed E3 (i := 1) rfl); clear hg) | (refine wl_bin rfl rfl rfl rfl rfl (by first | assumption | exact is_ofInt _ _ | exact is_self) (by first | assumption | exact is_ofInt _ _ | exact is_self) ?_; intro r n hr) | (refine wl_cmp rfl rfl rfl rfl rfl (by first | assumption | exact is_ofInt _ _ | exact is_self) (by first | assumption | exact is_ofInt _ _ | exact is_self) (by first | assumption | rfl) ?_) | (refine wl_widen rfl rfl rfl (by first | exact rfl | kernel_rfl) (by kernel_rfl) (by first | assumption | exact is_ofInt _ _ | exact is_self) ?_; intro r n hr) | (refine wl_neg rfl rfl rfl (by first | assumption | exact is_ofInt _ _ | exact is_self) ?_; intro r hr))
        go_roundw
        case rel => exact ⟨j + 1, _, _, _, by omega, by go_num, rfl, rfl, HS, by assumption, by assumption, (by repeat (first | exact EA.trans E3 | apply Ext.drewN))⟩
        case measure => simp [intOf]; omega
    · obtain rfl : j = k + 1 := by omega
      have h : Hid (rayG n (cl ls) (canon .f32 sp) k p = fin2B true x.1 x.2) := by unfold Hid rayG fin2B; rw [hx.out]; rfl
      go_wp2_with (go_at_call 125; refine (finTwoG_any _ _ _ _ _ ht hw _).mono ?_; rintro _ w3 ⟨r, q, rfl, hr1, hr2, E3⟩)
      go_ret3
      exact ⟨r, q, by rw [h.out]; rfl, by rw [h.out]; exact hr1, by rw [h.out]; exact hr2, E0.trans (hE.trans E3)⟩
set_option maxHeartbeats 1000000 in
theorem implRay_any (la : Option Addr) (lc n : Nat) (ls : List Nat) (sp de : Nat) (k : Int) (pb p : Nat) (w : World) (hc : LR w la n ls) (hl : n ≤ 1048576) (hcap : n ≤ lc) (hk1 : -9223372036854775808 ≤ k) (hk2 : k ≤ 9223372036854775807) (hp : Is .f32 pb p) :
    Calls Try.prog 61 #[.agg #[.slice la n lc, .float .f32 sp, .float .f32 de], .int .i64 k, .float .f32 pb] w (GivesFFE (rayO n (cl ls) (canon .f32 sp) (canon .f32 de) k p) w) := by
  generalize hA : w.alloc (.cells #[.slice la n lc, .float .f32 sp, .float .f32 de] 79) = w0
  have E0 : Ext w w0 := by rw [← hA]; exact (Ext.refl w).alloc _
  have c0 : w0.cell? ⟨w.heap.size, 0, none⟩ = some (.slice la n lc) := by rw [← hA]; exact boxed (Ext.refl _) rfl
  have c1 : w0.cell? ⟨w.heap.size, 1, none⟩ = some (.float .f32 sp) := by rw [← hA]; exact boxed (Ext.refl _) rfl
  have c2 : w0.cell? ⟨w.heap.size, 2, none⟩ = some (.float .f32 de) := by rw [← hA]; exact boxed (Ext.refl _) rfl
  have hcw := hc.ext E0
  have HA := Lib.hid hA
  clear hA
  cases hb : bndB n (cl ls) (canon .f32 sp) (canon .f32 de) k with
  | false =>
    have h : Hid (rayO n (cl ls) (canon .f32 sp) (canon .f32 de) k p = none) := by unfold Hid rayO; rw [hb]; rfl
    go_enter Try.func61, Try.ntmps61
    go_wp2_with fail
    rw [HA.out]
    go_wp2_with (go_at_call 121; refine (isBnd_any _ _ _ _ _ _ _ _ _ hcw hl hb).mono ?_; rintro _ w1 ⟨rfl, E1⟩; (have c0 := E1.cell c0); (have c1 := E1.cell c1); (have c2 := E1.cell c2))
    go_ret3
    exact givesFFE_none h.out (E0.trans E1)
  | true =>
  obtain ⟨_, hn, hk0, hkn'⟩ := bnd_parts hb
  obtain ⟨k, rfl⟩ := Int.eq_ofNat_of_zero_le hk0
  have hkn : k < n := by omega
  cases hs : slowB p with
  | false =>
    have h : Hid (rayO n (cl ls) (canon .f32 sp) (canon .f32 de) k p = none) := by unfold Hid rayO; rw [hb, hs]; rfl
    unfold slowB at hs
    go_enter Try.func61, Try.ntmps61
    go_wp2_with fail
    rw [HA.out]
    go_wp2_with (first | (go_at_call 121; refine (isBnd_any _ _ _ _ _ _ _ _ _ hcw hl hb).mono ?_; rintro _ w1 ⟨rfl, E1⟩; (have c0 := E1.cell c0); (have c1 := E1.cell c1); (have c2 := E1.cell c2)) | (refine wl_cmp rfl rfl rfl rfl rfl hp is_self hs ?_))
    go_ret3
    exact givesFFE_none h.out (E0.trans E1)
  | true =>
    have h : Hid (rayO n (cl ls) (canon .f32 sp) (canon .f32 de) k p = rayG n (cl ls) (canon .f32 sp) k p) := by unfold Hid rayO; rw [hb, hs]; rfl
    unfold slowB at hs
    go_enter Try.func61, Try.ntmps61
    go_wp2_with fail
    rw [HA.out]
    go_wp2_with (first | (go_at_call 121; refine (isBnd_any _ _ _ _ _ _ _ _ _ hcw hl hb).mono ?_; rintro _ w1 ⟨rfl, E1⟩; (have c0 := E1.cell c0); (have c1 := E1.cell c1); (have c2 := E1.cell c2)) | (refine wl_cmp rfl rfl rfl rfl rfl hp is_self hs ?_) | (go_at_call 122; refine (implRay0_any _ _ _ _ _ _ _ _ _ _ (by exact hcw.ext E1) hl hcap hkn hp).mono ?_; rintro _ w3 ⟨r, q, rfl, hr1, hr2, E3⟩))
    go_ret3
    exact ⟨r, q, by rw [h.out]; rfl, by rw [h.out]; exact hr1, by rw [h.out]; exact hr2, E0.trans (E1.trans E3)⟩
end Go.Proofs.Ytnjgcacnfobmiaa
