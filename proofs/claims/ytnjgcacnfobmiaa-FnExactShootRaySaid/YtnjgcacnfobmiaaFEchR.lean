/- EchoRay: the reference's and the program's. -/
import Derived.Test.YtnjgcacnfobmiaaFRayI
namespace Go.Proofs.Ytnjgcacnfobmiaa
open Go.RowKit
set_option maxRecDepth 100000
set_option linter.unusedVariables false

theorem echG_of {n : Nat} {l : List Nat} {s k p : Nat} {x : Nat × Nat} (h : rayG n l s k p = some x) : echG n l s k p = fin2 (some (dbl x)) := by unfold echG; rw [h]; rfl
set_option maxHeartbeats 1000000 in
theorem l02Echo_any (B : Nat) (la : Option Addr) (lc n : Nat) (ls : List Nat) (sp de : Nat) (k : Nat) (pb p : Nat) (w : World) (h0 : w.cell? ⟨B, 0, none⟩ = some (.slice la n lc)) (h1 : w.cell? ⟨B, 1, none⟩ = some (.float .f32 sp)) (h2 : w.cell? ⟨B, 2, none⟩ = some (.float .f32 de)) (hc : LR w la n ls) (hl : n ≤ 1048576) (hk : k < n) (hp : Is .f32 pb p) :
    Calls Try.prog 124 #[.pointer (some ⟨B, 0, none⟩), .int .i64 (k : Int), .float .f32 pb] w (GivesFFQ (echG n (cl ls) (canon .f32 sp) k p) w) := by
  cases hr : rayG n (cl ls) (canon .f32 sp) k p with
  | none =>
    have h : Hid (echG n (cl ls) (canon .f32 sp) k p = none) := by unfold Hid echG; rw [hr]; rfl
    go_enter Try.func124, Try.ntmps124
    go_wp2_with (first | (go_at_call 119; refine (l02Ray_any _ _ _ _ _ _ _ _ _ _ _ h0 h1 h2 hc hl hk hp).mono ?_; intro e w3 hg; obtain ⟨r, q, m3, rfl, rfl⟩ := GivesFFQ.no hr hg; clear hg) | (refine wl_bin rfl rfl rfl rfl rfl is_self is_self ?_; intro t1 n1 ht1))
    go_ret3
    exact givesFFQ_no h.out _ _ _ (by first | rfl | (simp only [drewN_drewN']; rfl))
  | some x =>
    have hg := echG_of hr
    cases hf1 : finK .f32 (dbl x).1 with
    | false =>
      have h : Hid (echG n (cl ls) (canon .f32 sp) k p = none) := by unfold Hid; rw [hg]; unfold fin2; simp only [hf1]; rfl
      clear hg
      go_enter Try.func124, Try.ntmps124
      go_wp2_with (first | (go_at_call 119; refine (l02Ray_any _ _ _ _ _ _ _ _ _ _ _ h0 h1 h2 hc hl hk hp).mono ?_; intro e w3 hg; obtain ⟨r, q, m3, rfl, hr1, hr2, rfl⟩ := GivesFFQ.yes hr hg; clear hg) | (refine wl_bin rfl rfl rfl rfl rfl is_self hr1 ?_; intro t1 n1 ht1; clear hr1; (replace ht1 : Is .f32 t1 (dbl x).1 := ht1)) | (refine wl_bin rfl rfl rfl rfl rfl is_self hr2 ?_; intro t2 n2 ht2; clear hr2; (replace ht2 : Is .f32 t2 (dbl x).2 := ht2)) | (go_at_call 97; refine (l01Finite_any _ _ _ ht1 hf1 _).mono ?_; rintro _ _ ⟨rfl, m4, rfl⟩))
      go_ret3
      exact givesFFQ_no h.out _ _ _ (by first | rfl | (simp only [drewN_drewN']; rfl))
    | true =>
    cases hf2 : finK .f32 (dbl x).2 with
    | false =>
      have h : Hid (echG n (cl ls) (canon .f32 sp) k p = none) := by unfold Hid; rw [hg]; unfold fin2; simp only [hf1, hf2]; rfl
      clear hg
      go_enter Try.func124, Try.ntmps124
      go_wp2_with (first | (go_at_call 119; refine (l02Ray_any _ _ _ _ _ _ _ _ _ _ _ h0 h1 h2 hc hl hk hp).mono ?_; intro e w3 hg; obtain ⟨r, q, m3, rfl, hr1, hr2, rfl⟩ := GivesFFQ.yes hr hg; clear hg) | (refine wl_bin rfl rfl rfl rfl rfl is_self hr1 ?_; intro t1 n1 ht1; clear hr1; (replace ht1 : Is .f32 t1 (dbl x).1 := ht1)) | (refine wl_bin rfl rfl rfl rfl rfl is_self hr2 ?_; intro t2 n2 ht2; clear hr2; (replace ht2 : Is .f32 t2 (dbl x).2 := ht2)) | (go_at_call 97; refine (l01Finite_any _ _ _ ht1 hf1 _).mono ?_; rintro _ _ ⟨rfl, m4, rfl⟩) | (go_at_call 97; refine (l01Finite_any _ _ _ ht2 hf2 _).mono ?_; rintro _ _ ⟨rfl, m5, rfl⟩))
      go_ret3
      exact givesFFQ_no h.out _ _ _ (by first | rfl | (simp only [drewN_drewN']; rfl))
    | true =>
      have h : Hid (echG n (cl ls) (canon .f32 sp) k p = some (dbl x)) := by unfold Hid; rw [hg]; unfold fin2; simp only [hf1, hf2]; rfl
      clear hg
      go_enter Try.func124, Try.ntmps124
      go_wp2_with (first | (go_at_call 119; refine (l02Ray_any _ _ _ _ _ _ _ _ _ _ _ h0 h1 h2 hc hl hk hp).mono ?_; intro e w3 hg; obtain ⟨r, q, m3, rfl, hr1, hr2, rfl⟩ := GivesFFQ.yes hr hg; clear hg) | (refine wl_bin rfl rfl rfl rfl rfl is_self hr1 ?_; intro t1 n1 ht1; clear hr1; (replace ht1 : Is .f32 t1 (dbl x).1 := ht1)) | (refine wl_bin rfl rfl rfl rfl rfl is_self hr2 ?_; intro t2 n2 ht2; clear hr2; (replace ht2 : Is .f32 t2 (dbl x).2 := ht2)) | (go_at_call 97; refine (l01Finite_any _ _ _ ht1 hf1 _).mono ?_; rintro _ _ ⟨rfl, m4, rfl⟩) | (go_at_call 97; refine (l01Finite_any _ _ _ ht2 hf2 _).mono ?_; rintro _ _ ⟨rfl, m5, rfl⟩))
      go_ret3
      exact givesFFQ_yes h.out _ ht1 ht2 (by first | rfl | (simp only [drewN_drewN']; rfl))
set_option maxHeartbeats 1000000 in
theorem specEch_any (la : Option Addr) (lc n : Nat) (ls : List Nat) (sp de : Nat) (k : Int) (pb p : Nat) (w : World) (hc : LR w la n ls) (hl : n ≤ 1048576) (hk1 : -9223372036854775808 ≤ k) (hk2 : k ≤ 9223372036854775807) (hp : Is .f32 pb p) :
    Calls Try.prog 63 #[.agg #[.slice la n lc, .float .f32 sp, .float .f32 de], .int .i64 k, .float .f32 pb] w (GivesFFE (echRO n (cl ls) (canon .f32 sp) (canon .f32 de) k p) w) := by
  generalize hA : w.alloc (.cells #[.slice la n lc, .float .f32 sp, .float .f32 de] 79) = w0
  have E0 : Ext w w0 := by rw [← hA]; exact (Ext.refl w).alloc _
  have c0 : w0.cell? ⟨w.heap.size, 0, none⟩ = some (.slice la n lc) := by rw [← hA]; exact boxed (Ext.refl _) rfl
  have c1 : w0.cell? ⟨w.heap.size, 1, none⟩ = some (.float .f32 sp) := by rw [← hA]; exact boxed (Ext.refl _) rfl
  have c2 : w0.cell? ⟨w.heap.size, 2, none⟩ = some (.float .f32 de) := by rw [← hA]; exact boxed (Ext.refl _) rfl
  have hcw := hc.ext E0
  have HA := Lib.hid hA
  clear hA
  cases hb : bndB n (cl ls) (canon .f32 sp) (canon .f32 de) k with
  | false =>
    have h : Hid (echRO n (cl ls) (canon .f32 sp) (canon .f32 de) k p = none) := by unfold Hid echRO; rw [hb]; rfl
    go_enter Try.func63, Try.ntmps63
    go_wp2_with fail
    rw [HA.out]
    go_wp2_with (go_at_call 117; refine (l02Bnd_any _ _ _ _ _ _ _ _ _ _ c0 c1 c2 hcw hl hb).mono ?_; rintro _ w2 ⟨rfl, m, rfl⟩)
    go_ret3
    exact givesFFE_none h.out (E0.drewN _)
  | true =>
  obtain ⟨_, hn, hk0, hkn'⟩ := bnd_parts hb
  obtain ⟨k, rfl⟩ := Int.eq_ofNat_of_zero_le hk0
  have hkn : k < n := by omega
  cases hs : slowB p with
  | false =>
    have h : Hid (echRO n (cl ls) (canon .f32 sp) (canon .f32 de) k p = none) := by unfold Hid echRO; rw [hb, hs]; rfl
    go_enter Try.func63, Try.ntmps63
    go_wp2_with fail
    rw [HA.out]
    go_wp2_with (first | (go_at_call 117; refine (l02Bnd_any _ _ _ _ _ _ _ _ _ _ c0 c1 c2 hcw hl hb).mono ?_; rintro _ w2 ⟨rfl, m, rfl⟩) | (go_at_call 118; refine (slowG_any _ _ _ hp hs _).mono ?_; rintro _ _ ⟨rfl, m2, rfl⟩))
    go_ret3
    exact givesFFE_none h.out (by repeat (first | assumption | apply Ext.drewN))
  | true =>
  cases hr : echG n (cl ls) (canon .f32 sp) k p with
  | none =>
    have h : Hid (echRO n (cl ls) (canon .f32 sp) (canon .f32 de) k p = none) := by unfold Hid echRO; rw [hb, hs]; exact hr
    go_enter Try.func63, Try.ntmps63
    go_wp2_with fail
    rw [HA.out]
    go_wp2_with (first | (go_at_call 117; refine (l02Bnd_any _ _ _ _ _ _ _ _ _ _ c0 c1 c2 hcw hl hb).mono ?_; rintro _ w2 ⟨rfl, m, rfl⟩) | (go_at_call 118; refine (slowG_any _ _ _ hp hs _).mono ?_; rintro _ _ ⟨rfl, m2, rfl⟩) | (go_at_call 124; refine (l02Echo_any _ _ _ _ _ _ _ _ _ _ _ (by exact c0) (by exact c1) (by exact c2) (by exact hcw) hl hkn hp).mono ?_; intro e w3 hg; obtain ⟨r, q, m3, rfl, rfl⟩ := GivesFFQ.no hr hg; clear hg))
    go_ret3
    exact givesFFE_none h.out (by repeat (first | assumption | apply Ext.drewN))
  | some x =>
    have h : Hid (echRO n (cl ls) (canon .f32 sp) (canon .f32 de) k p = some x) := by unfold Hid echRO; rw [hb, hs]; exact hr
    go_enter Try.func63, Try.ntmps63
    go_wp2_with fail
    rw [HA.out]
    go_wp2_with (first | (go_at_call 117; refine (l02Bnd_any _ _ _ _ _ _ _ _ _ _ c0 c1 c2 hcw hl hb).mono ?_; rintro _ w2 ⟨rfl, m, rfl⟩) | (go_at_call 118; refine (slowG_any _ _ _ hp hs _).mono ?_; rintro _ _ ⟨rfl, m2, rfl⟩) | (go_at_call 124; refine (l02Echo_any _ _ _ _ _ _ _ _ _ _ _ (by exact c0) (by exact c1) (by exact c2) (by exact hcw) hl hkn hp).mono ?_; intro e w3 hg; obtain ⟨r, q, m3, rfl, hr1, hr2, rfl⟩ := GivesFFQ.yes hr hg; clear hg))
    go_ret3
    exact givesFFE_some h.out hr1 hr2 (by repeat (first | assumption | apply Ext.drewN))
theorem echRO_ray {n : Nat} {l : List Nat} {s d p : Nat} {k : Int} : echRO n l s d k p = fin2 ((rayO n l s d k p).map dbl) := by
  unfold echRO rayO echG
  cases (bndB n l s d k && slowB p) <;> rfl
set_option maxHeartbeats 1000000 in
theorem implEch_any (la : Option Addr) (lc n : Nat) (ls : List Nat) (sp de : Nat) (k : Int) (pb p : Nat) (w : World) (hc : LR w la n ls) (hl : n ≤ 1048576) (hcap : n ≤ lc) (hk1 : -9223372036854775808 ≤ k) (hk2 : k ≤ 9223372036854775807) (hp : Is .f32 pb p) :
    Calls Try.prog 64 #[.agg #[.slice la n lc, .float .f32 sp, .float .f32 de], .int .i64 k, .float .f32 pb] w (GivesFFE (echRO n (cl ls) (canon .f32 sp) (canon .f32 de) k p) w) := by
  have hO := echRO_ray (n := n) (l := cl ls) (s := canon .f32 sp) (d := canon .f32 de) (p := p) (k := k)
  generalize hA : w.alloc (.cells #[.slice la n lc, .float .f32 sp, .float .f32 de] 79) = w0
  have E0 : Ext w w0 := by rw [← hA]; exact (Ext.refl w).alloc _
  have c0 : w0.cell? ⟨w.heap.size, 0, none⟩ = some (.slice la n lc) := by rw [← hA]; exact boxed (Ext.refl _) rfl
  have c1 : w0.cell? ⟨w.heap.size, 1, none⟩ = some (.float .f32 sp) := by rw [← hA]; exact boxed (Ext.refl _) rfl
  have c2 : w0.cell? ⟨w.heap.size, 2, none⟩ = some (.float .f32 de) := by rw [← hA]; exact boxed (Ext.refl _) rfl
  have hcw := hc.ext E0
  have HA := Lib.hid hA
  clear hA
  cases hr : rayO n (cl ls) (canon .f32 sp) (canon .f32 de) k p with
  | none =>
    have h : Hid (echRO n (cl ls) (canon .f32 sp) (canon .f32 de) k p = fin2B false (fop .mul .f32 (canon .f32 1073741824) 0) (fop .mul .f32 (canon .f32 1073741824) 0)) := by unfold Hid; rw [hO, hr]; rfl
    clear hO
    go_enter Try.func64, Try.ntmps64
    go_wp2_with fail
    rw [HA.out]
    go_wp2_with (first | (go_at_call 61; refine (implRay_any _ _ _ _ _ _ _ _ _ _ hcw hl hcap hk1 hk2 hp).mono ?_; intro e w3 hg; obtain ⟨r, q, rfl, hr1, hr2, E3⟩ := GivesFFE.no hr hg; clear hg) | (refine wl_bin rfl rfl rfl rfl rfl is_self hr1 ?_; intro t1 n1 ht1; clear hr1) | (refine wl_bin rfl rfl rfl rfl rfl is_self hr2 ?_; intro t2 n2 ht2; clear hr2) | (go_at_call 125; refine (finTwoG_any _ _ _ _ _ ht1 ht2 _).mono ?_; rintro _ w4 ⟨r4, q4, rfl, hr4, hq4, E4⟩))
    go_ret3
    exact ⟨r4, q4, by rw [h.out]; rfl, by rw [h.out]; exact hr4, by rw [h.out]; exact hq4, E0.trans (E3.trans (by first | exact E4 | exact Ext.trans (by repeat (first | exact Ext.refl _ | apply Ext.drewN)) E4))⟩
  | some x =>
    have h : Hid (echRO n (cl ls) (canon .f32 sp) (canon .f32 de) k p = fin2B true (dbl x).1 (dbl x).2) := by unfold Hid; rw [hO, hr]; rfl
    clear hO
    go_enter Try.func64, Try.ntmps64
    go_wp2_with fail
    rw [HA.out]
    go_wp2_with (first | (go_at_call 61; refine (implRay_any _ _ _ _ _ _ _ _ _ _ hcw hl hcap hk1 hk2 hp).mono ?_; intro e w3 hg; obtain ⟨r, q, rfl, hr1, hr2, E3⟩ := GivesFFE.yes hr hg; clear hg) | (refine wl_bin rfl rfl rfl rfl rfl is_self hr1 ?_; intro t1 n1 ht1; clear hr1) | (refine wl_bin rfl rfl rfl rfl rfl is_self hr2 ?_; intro t2 n2 ht2; clear hr2) | (go_at_call 125; refine (finTwoG_any _ _ _ _ _ ht1 ht2 _).mono ?_; rintro _ w4 ⟨r4, q4, rfl, hr4, hq4, E4⟩))
    go_ret3
    exact ⟨r4, q4, by rw [h.out]; rfl, by rw [h.out]; exact hr4, by rw [h.out]; exact hq4, E0.trans (E3.trans (by first | exact E4 | exact Ext.trans (by repeat (first | exact Ext.refl _ | apply Ext.drewN)) E4))⟩
end Go.Proofs.Ytnjgcacnfobmiaa
