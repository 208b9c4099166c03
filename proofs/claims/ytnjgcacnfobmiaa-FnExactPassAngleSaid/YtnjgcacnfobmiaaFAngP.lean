/- ReflectAngle and PassAngle: the program's. -/
import Derived.Test.YtnjgcacnfobmiaaFAngI
namespace Go.Proofs.Ytnjgcacnfobmiaa
open Go.RowKit
set_option maxRecDepth 100000
set_option linter.unusedVariables false

theorem csn_no {n k p : Nat} {l : List Nat} {s d : Nat} (hb : bndB n l s d (k : Int) = true) (h : csnO n l s k p = none) : angO n l s d (k : Int) p = none := by
  unfold csnO at h
  unfold angO
  rw [hb]
  cases hs : slowB p with
  | false => rfl
  | true =>
    rw [hs] at h
    replace h : cosO n l s k p = none := h
    show angG n l s d k p = none
    unfold angG
    rw [h]
theorem csn_yes {n k p c : Nat} {l : List Nat} {s : Nat} (h : csnO n l s k p = some c) : slowB p = true ∧ cosO n l s k p = some c := by
  unfold csnO at h
  cases hs : slowB p with
  | false => rw [hs] at h; cases h
  | true => rw [hs] at h; exact ⟨rfl, h⟩
set_option maxHeartbeats 1000000 in
theorem implRef_any (la : Option Addr) (lc n : Nat) (ls : List Nat) (sp de : Nat) (k : Int) (pb p : Nat) (w : World) (hc : LR w la n ls) (hl : n ≤ 1048576) (hk1 : -9223372036854775808 ≤ k) (hk2 : k ≤ 9223372036854775807) (hp : Is .f32 pb p) :
    Calls Try.prog 72 #[.agg #[.slice la n lc, .float .f32 sp, .float .f32 de], .int .i64 k, .float .f32 pb] w (GivesCE (angO n (cl ls) (canon .f32 sp) (canon .f32 de) k p) w) := by
  generalize hA : w.alloc (.cells #[.slice la n lc, .float .f32 sp, .float .f32 de] 79) = w0
  have E0 : Ext w w0 := by rw [← hA]; exact (Ext.refl w).alloc _
  have c0 : w0.cell? ⟨w.heap.size, 0, none⟩ = some (.slice la n lc) := by rw [← hA]; exact boxed (Ext.refl _) rfl
  have c1 : w0.cell? ⟨w.heap.size, 1, none⟩ = some (.float .f32 sp) := by rw [← hA]; exact boxed (Ext.refl _) rfl
  have c2 : w0.cell? ⟨w.heap.size, 2, none⟩ = some (.float .f32 de) := by rw [← hA]; exact boxed (Ext.refl _) rfl
  have hcw := hc.ext E0
  have HA := Lib.hid hA
  clear hA
  cases hb : bndB n (cl ls) (canon .f32 sp) (canon .f32 de) k with
  | false =>
    have h : Hid (angO n (cl ls) (canon .f32 sp) (canon .f32 de) k p = none) := by unfold Hid angO; rw [hb]; rfl
    go_enter Try.func72, Try.ntmps72
    go_wp2_with fail
    rw [HA.out]
    go_wp2_with (go_at_call 121; refine (isBnd_any _ _ _ _ _ _ _ _ _ hcw hl hb).mono ?_; rintro _ w1 ⟨rfl, E1⟩; (have c0 := E1.cell c0); (have c1 := E1.cell c1); (have c2 := E1.cell c2))
    go_ret2
    exact givesCE_none h.out (E0.trans E1)
  | true =>
  obtain ⟨hgr, hn, hk0, hkn'⟩ := bnd_parts hb
  obtain ⟨k, rfl⟩ := Int.eq_ofNat_of_zero_le hk0
  have hk : k < n := by omega
  have hkn : k ≤ n := by omega
  cases hco : csnO n (cl ls) (canon .f32 sp) k p with
  | none =>
    have h : Hid (angO n (cl ls) (canon .f32 sp) (canon .f32 de) k p = none) := by unfold Hid; exact csn_no hb hco
    go_enter Try.func72, Try.ntmps72
    go_wp2_with fail
    rw [HA.out]
    go_wp2_with (first | (go_at_call 121; refine (isBnd_any _ _ _ _ _ _ _ _ _ hcw hl hb).mono ?_; rintro _ w1 ⟨rfl, E1⟩; (have c0 := E1.cell c0); (have c1 := E1.cell c1); (have c2 := E1.cell c2)) | (go_at_call 138; refine (cosIn_any _ _ _ _ _ _ _ _ _ _ (by exact hcw.ext E1) hl hgr hkn hp).mono ?_; intro e w3 hg; obtain ⟨cb, rfl, E3⟩ := GivesFE.no hco hg; clear hg))
    go_ret2
    exact givesCE_none h.out (E0.trans (E1.trans E3))
  | some c =>
    obtain ⟨hsl, hcc⟩ := csn_yes hco
    have hsc : sinG n (cl ls) (canon .f32 sp) (k + 1) p ≤ inf .f32 ∨ sinG n (cl ls) (canon .f32 sp) (k + 1) p = 2147483648 := sin_cases hsl (spd_pos hgr)
    have hok := ang_ok hgr hsl hcc (bhdC (sinG n (cl ls) (canon .f32 sp) (k + 1) p)) (beh_nn hsc)
    have h : Hid (angO n (cl ls) (canon .f32 sp) (canon .f32 de) k p = cfinO true (angZ c (hdG n (cl ls) (canon .f32 sp) (canon .f32 de) (k + 1)) (bhdC (sinG n (cl ls) (canon .f32 sp) (k + 1) p)) (hdG n (cl ls) (canon .f32 sp) (canon .f32 de) k))) := by
      unfold Hid angO
      rw [hb, hsl]
      exact angG_eq hcc _ rfl
    go_enter Try.func72, Try.ntmps72
    go_wp2_with fail
    rw [HA.out]
    go_wp2_with (first | (go_at_call 121; refine (isBnd_any _ _ _ _ _ _ _ _ _ hcw hl hb).mono ?_; rintro _ w1 ⟨rfl, E1⟩; (have c0 := E1.cell c0); (have c1 := E1.cell c1); (have c2 := E1.cell c2)) | (go_at_call 138; refine (cosIn_any _ _ _ _ _ _ _ _ _ _ (by exact hcw.ext E1) hl hgr hkn hp).mono ?_; intro e w3 hg; obtain ⟨cb, rfl, hcb, E3⟩ := GivesFE.yes hco hg; (have c0 := E3.cell c0); (have c1 := E3.cell c1); (have c2 := E3.cell c2); clear hg) | (go_at_call 140; refine (reflect_any _ _ _ _ _ _ _ _ _ _ _ _ (by exact hcw.ext (E1.trans E3)) hl hk hp hcb hsc hok).mono ?_; rintro _ w4 ⟨zr, zi, rfl, hzr, hzi, E4⟩) | (go_at_call 139; refine (finCI_any _ _ (angZ c (hdG n (cl ls) (canon .f32 sp) (canon .f32 de) (k + 1)) (bhdC (sinG n (cl ls) (canon .f32 sp) (k + 1) p)) (hdG n (cl ls) (canon .f32 sp) (canon .f32 de) k)) _ _ hzr hzi).mono ?_; rintro _ w5 ⟨ur, ui, rfl, hur, hui, E5⟩))
    go_ret2
    exact ⟨ur, ui, by rw [h.out]; rfl, by rw [h.out]; exact hur, by rw [h.out]; exact hui, E0.trans (E1.trans (E3.trans (E4.trans E5)))⟩
theorem ang_fin {n p : Nat} {l : List Nat} {s d : Nat} {k : Int} {x : Nat × Nat} (h : angO n l s d k p = some x) : finK .f32 x.1 = true ∧ finK .f32 x.2 = true := by
  unfold angO at h
  split at h
  · unfold angG at h
    split at h
    · split at h
      · rename_i h2
        injection h with h
        subst h
        simpa only [Bool.and_eq_true] using h2
      · cases h
    · cases h
  · cases h
theorem pas_fin {x : Nat × Nat} (h : finK .f32 x.1 = true ∧ finK .f32 x.2 = true) : cfin (cadd one1 x) = true := by
  unfold cfin cadd one1
  simp only [(plus_fin h.1).1, (plus_fin h.2).2]
  rfl
set_option maxHeartbeats 1000000 in
theorem implPas_any (la : Option Addr) (lc n : Nat) (ls : List Nat) (sp de : Nat) (k : Int) (pb p : Nat) (w : World) (hc : LR w la n ls) (hl : n ≤ 1048576) (hk1 : -9223372036854775808 ≤ k) (hk2 : k ≤ 9223372036854775807) (hp : Is .f32 pb p) :
    Calls Try.prog 74 #[.agg #[.slice la n lc, .float .f32 sp, .float .f32 de], .int .i64 k, .float .f32 pb] w (GivesCE (pasO n (cl ls) (canon .f32 sp) (canon .f32 de) k p) w) := by
  generalize hA : w.alloc (.cells #[.slice la n lc, .float .f32 sp, .float .f32 de] 79) = w0
  have E0 : Ext w w0 := by rw [← hA]; exact (Ext.refl w).alloc _
  have c0 : w0.cell? ⟨w.heap.size, 0, none⟩ = some (.slice la n lc) := by rw [← hA]; exact boxed (Ext.refl _) rfl
  have c1 : w0.cell? ⟨w.heap.size, 1, none⟩ = some (.float .f32 sp) := by rw [← hA]; exact boxed (Ext.refl _) rfl
  have c2 : w0.cell? ⟨w.heap.size, 2, none⟩ = some (.float .f32 de) := by rw [← hA]; exact boxed (Ext.refl _) rfl
  have hcw := hc.ext E0
  have HA := Lib.hid hA
  clear hA
  cases hr : angO n (cl ls) (canon .f32 sp) (canon .f32 de) k p with
  | none =>
    have h : Hid (pasO n (cl ls) (canon .f32 sp) (canon .f32 de) k p = none) := by unfold Hid pasO; rw [hr]; rfl
    go_enter Try.func74, Try.ntmps74
    go_wp2_with fail
    rw [HA.out]
    go_wp2_with (first | (go_at_call 72; refine (implRef_any _ _ _ _ _ _ _ _ _ _ hcw hl hk1 hk2 hp).mono ?_; intro e w3 hg; obtain ⟨r, q, rfl, hr1, hr2, E3⟩ := GivesCE.no hr hg; clear hg) | (go_at_call 141; refine (plusI_any _ _ _ _ one1 (0, 0) _ is_self is_self hr1 hr2).mono ?_; rintro _ w4 ⟨ur, ui, m4, rfl, hur, hui, rfl⟩) | (go_at_call 139; refine (finCI_any _ _ (cadd one1 (0, 0)) _ _ hur hui).mono ?_; rintro _ w5 ⟨vr, vi, rfl, hvr, hvi, E5⟩))
    go_ret2
    exact ⟨vr, vi, by rw [h.out]; rfl, by rw [h.out]; exact hvr, by rw [h.out]; exact hvi, E0.trans (E3.trans (Ext.trans ((Ext.refl _).drewN _) E5))⟩
  | some x =>
    have hf := pas_fin (ang_fin hr)
    have h : Hid (pasO n (cl ls) (canon .f32 sp) (canon .f32 de) k p = cfinO true (cadd one1 x)) := by unfold Hid pasO cfinO; rw [hr, hf]; rfl
    go_enter Try.func74, Try.ntmps74
    go_wp2_with fail
    rw [HA.out]
    go_wp2_with (first | (go_at_call 72; refine (implRef_any _ _ _ _ _ _ _ _ _ _ hcw hl hk1 hk2 hp).mono ?_; intro e w3 hg; obtain ⟨r, q, rfl, hr1, hr2, E3⟩ := GivesCE.yes hr hg; clear hg) | (go_at_call 141; refine (plusI_any _ _ _ _ one1 x _ is_self is_self hr1 hr2).mono ?_; rintro _ w4 ⟨ur, ui, m4, rfl, hur, hui, rfl⟩) | (go_at_call 139; refine (finCI_any _ _ (cadd one1 x) _ _ hur hui).mono ?_; rintro _ w5 ⟨vr, vi, rfl, hvr, hvi, E5⟩))
    go_ret2
    exact ⟨vr, vi, by rw [h.out]; rfl, by rw [h.out]; exact hvr, by rw [h.out]; exact hvi, E0.trans (E3.trans (Ext.trans ((Ext.refl _).drewN _) E5))⟩
end Go.Proofs.Ytnjgcacnfobmiaa
