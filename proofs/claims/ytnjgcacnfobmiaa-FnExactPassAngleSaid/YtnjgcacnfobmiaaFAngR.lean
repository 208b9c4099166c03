/- ReflectAngle and PassAngle: the reference's. -/
import Derived.Test.YtnjgcacnfobmiaaFAngS
namespace Go.Proofs.Ytnjgcacnfobmiaa
open Go.RowKit
set_option maxRecDepth 100000
set_option linter.unusedVariables false

set_option maxHeartbeats 1000000 in
theorem specRef_any (la : Option Addr) (lc n : Nat) (ls : List Nat) (sp de : Nat) (k : Int) (pb p : Nat) (w : World) (hc : LR w la n ls) (hl : n ≤ 1048576) (hk1 : -9223372036854775808 ≤ k) (hk2 : k ≤ 9223372036854775807) (hp : Is .f32 pb p) :
    Calls Try.prog 71 #[.agg #[.slice la n lc, .float .f32 sp, .float .f32 de], .int .i64 k, .float .f32 pb] w (GivesCE (angO n (cl ls) (canon .f32 sp) (canon .f32 de) k p) w) := by
  generalize hA : w.alloc (.cells #[.slice la n lc, .float .f32 sp, .float .f32 de] 79) = w0
  have E0 : Ext w w0 := by rw [← hA]; exact (Ext.refl w).alloc _
  have c0 : w0.cell? ⟨w.heap.size, 0, none⟩ = some (.slice la n lc) := by rw [← hA]; exact boxed (Ext.refl _) rfl
  have c1 : w0.cell? ⟨w.heap.size, 1, none⟩ = some (.float .f32 sp) := by rw [← hA]; exact boxed (Ext.refl _) rfl
  have c2 : w0.cell? ⟨w.heap.size, 2, none⟩ = some (.float .f32 de) := by rw [← hA]; exact boxed (Ext.refl _) rfl
  have hcw := hc.ext E0
  have HA := Lib.hid hA
  clear hA
  cases hb : bndB n (cl ls) (canon .f32 sp) (canon .f32 de) k with
  | false =>
    have h : Hid (angO n (cl ls) (canon .f32 sp) (canon .f32 de) k p = none) := by unfold Hid angO; rw [hb]; rfl
    go_enter Try.func71, Try.ntmps71
    go_wp2_with fail
    rw [HA.out]
    go_wp2_with (go_at_call 117; refine (l02Bnd_any _ _ _ _ _ _ _ _ _ _ c0 c1 c2 hcw hl hb).mono ?_; rintro _ w2 ⟨rfl, m, rfl⟩)
    go_ret2
    exact givesCE_none h.out (E0.drewN _)
  | true =>
  obtain ⟨hgr, hn, hk0, hkn'⟩ := bnd_parts hb
  obtain ⟨k, rfl⟩ := Int.eq_ofNat_of_zero_le hk0
  have hkn : k < n := by omega
  cases hs : slowB p with
  | false =>
    have h : Hid (angO n (cl ls) (canon .f32 sp) (canon .f32 de) k p = none) := by unfold Hid angO; rw [hb, hs]; rfl
    go_enter Try.func71, Try.ntmps71
    go_wp2_with fail
    rw [HA.out]
    go_wp2_with (first | (go_at_call 117; refine (l02Bnd_any _ _ _ _ _ _ _ _ _ _ c0 c1 c2 hcw hl hb).mono ?_; rintro _ w2 ⟨rfl, m, rfl⟩) | (go_at_call 118; refine (slowG_any _ _ _ hp hs _).mono ?_; rintro _ _ ⟨rfl, m2, rfl⟩))
    go_ret2
    exact givesCE_none h.out (by repeat (first | assumption | apply Ext.drewN))
  | true =>
  cases hr : angG n (cl ls) (canon .f32 sp) (canon .f32 de) k p with
  | none =>
    have h : Hid (angO n (cl ls) (canon .f32 sp) (canon .f32 de) k p = none) := by unfold Hid angO; rw [hb, hs]; exact hr
    go_enter Try.func71, Try.ntmps71
    go_wp2_with fail
    rw [HA.out]
    go_wp2_with (first | (go_at_call 117; refine (l02Bnd_any _ _ _ _ _ _ _ _ _ _ c0 c1 c2 hcw hl hb).mono ?_; rintro _ w2 ⟨rfl, m, rfl⟩) | (go_at_call 118; refine (slowG_any _ _ _ hp hs _).mono ?_; rintro _ _ ⟨rfl, m2, rfl⟩) | (go_at_call 137; refine (l02Angle_any _ _ _ _ _ _ _ _ _ _ _ (by exact c0) (by exact c1) (by exact c2) (by exact hcw) hl hkn hgr hs hp).mono ?_; intro e w3 hg; obtain ⟨r, q, m3, rfl, rfl⟩ := GivesCQ.no hr hg; clear hg))
    go_ret2
    exact givesCE_none h.out (by repeat (first | assumption | apply Ext.drewN))
  | some x =>
    have h : Hid (angO n (cl ls) (canon .f32 sp) (canon .f32 de) k p = some x) := by unfold Hid angO; rw [hb, hs]; exact hr
    go_enter Try.func71, Try.ntmps71
    go_wp2_with fail
    rw [HA.out]
    go_wp2_with (first | (go_at_call 117; refine (l02Bnd_any _ _ _ _ _ _ _ _ _ _ c0 c1 c2 hcw hl hb).mono ?_; rintro _ w2 ⟨rfl, m, rfl⟩) | (go_at_call 118; refine (slowG_any _ _ _ hp hs _).mono ?_; rintro _ _ ⟨rfl, m2, rfl⟩) | (go_at_call 137; refine (l02Angle_any _ _ _ _ _ _ _ _ _ _ _ (by exact c0) (by exact c1) (by exact c2) (by exact hcw) hl hkn hgr hs hp).mono ?_; intro e w3 hg; obtain ⟨r, q, m3, rfl, hr1, hr2, rfl⟩ := GivesCQ.yes hr hg; clear hg))
    go_ret2
    exact givesCE_some h.out hr1 hr2 (by repeat (first | assumption | apply Ext.drewN))
set_option maxHeartbeats 1000000 in
theorem specPas_any (la : Option Addr) (lc n : Nat) (ls : List Nat) (sp de : Nat) (k : Int) (pb p : Nat) (w : World) (hc : LR w la n ls) (hl : n ≤ 1048576) (hk1 : -9223372036854775808 ≤ k) (hk2 : k ≤ 9223372036854775807) (hp : Is .f32 pb p) :
    Calls Try.prog 73 #[.agg #[.slice la n lc, .float .f32 sp, .float .f32 de], .int .i64 k, .float .f32 pb] w (GivesCE (pasO n (cl ls) (canon .f32 sp) (canon .f32 de) k p) w) := by
  generalize hA : w.alloc (.cells #[.slice la n lc, .float .f32 sp, .float .f32 de] 79) = w0
  have E0 : Ext w w0 := by rw [← hA]; exact (Ext.refl w).alloc _
  have c0 : w0.cell? ⟨w.heap.size, 0, none⟩ = some (.slice la n lc) := by rw [← hA]; exact boxed (Ext.refl _) rfl
  have c1 : w0.cell? ⟨w.heap.size, 1, none⟩ = some (.float .f32 sp) := by rw [← hA]; exact boxed (Ext.refl _) rfl
  have c2 : w0.cell? ⟨w.heap.size, 2, none⟩ = some (.float .f32 de) := by rw [← hA]; exact boxed (Ext.refl _) rfl
  have hcw := hc.ext E0
  have HA := Lib.hid hA
  clear hA
  cases hr : angO n (cl ls) (canon .f32 sp) (canon .f32 de) k p with
  | none =>
    have h : Hid (pasO n (cl ls) (canon .f32 sp) (canon .f32 de) k p = none) := by unfold Hid pasO; rw [hr]; rfl
    go_enter Try.func73, Try.ntmps73
    go_wp2_with fail
    rw [HA.out]
    go_wp2_with (go_at_call 71; refine (specRef_any _ _ _ _ _ _ _ _ _ _ hcw hl hk1 hk2 hp).mono ?_; intro e w3 hg; obtain ⟨r, q, rfl, hr1, hr2, E3⟩ := GivesCE.no hr hg; clear hg)
    go_ret2
    exact givesCE_none h.out (E0.trans E3)
  | some x =>
    have h : Hid (pasO n (cl ls) (canon .f32 sp) (canon .f32 de) k p = some (cadd one1 x)) := by unfold Hid pasO; rw [hr]; rfl
    go_enter Try.func73, Try.ntmps73
    go_wp2_with fail
    rw [HA.out]
    go_wp2_with (first | (go_at_call 71; refine (specRef_any _ _ _ _ _ _ _ _ _ _ hcw hl hk1 hk2 hp).mono ?_; intro e w3 hg; obtain ⟨r, q, rfl, hr1, hr2, E3⟩ := GivesCE.yes hr hg; clear hg) | (refine wl_cbin rfl rfl (.inl rfl) rfl rfl (s := one1) (t := x) is_self is_self hr1 hr2 ?_; intro ur ui n7 hur hui))
    go_ret2
    exact givesCE_some h.out hur hui (E0.trans (E3.drewN _))
end Go.Proofs.Ytnjgcacnfobmiaa
