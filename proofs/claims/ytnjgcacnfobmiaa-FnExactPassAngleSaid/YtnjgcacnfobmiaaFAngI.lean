/- ReflectAngle and PassAngle: the program's. -/
import Derived.Test.YtnjgcacnfobmiaaFAngR
namespace Go.Proofs.Ytnjgcacnfobmiaa
open Go.RowKit
set_option maxRecDepth 100000
set_option linter.unusedVariables false

theorem isLay_any (la : Option Addr) (lc n : Nat) (ls : List Nat) (sp de : Nat) (k : Nat) (w : World) (hc : LR w la n ls) (hl : n ≤ 1048576) (hg : grdB n (cl ls) (canon .f32 sp) (canon .f32 de) = true) (hk : k ≤ n) :
    Calls Try.prog 172 #[.agg #[.slice la n lc, .float .f32 sp, .float .f32 de], .int .i64 (k : Int)] w (GivesE (.bool true) w) := by
  generalize hA : w.alloc (.cells #[.slice la n lc, .float .f32 sp, .float .f32 de] 79) = w0
  have E0 : Ext w w0 := by rw [← hA]; exact (Ext.refl w).alloc _
  have c0 : w0.cell? ⟨w.heap.size, 0, none⟩ = some (.slice la n lc) := by rw [← hA]; exact boxed (Ext.refl _) rfl
  have c1 : w0.cell? ⟨w.heap.size, 1, none⟩ = some (.float .f32 sp) := by rw [← hA]; exact boxed (Ext.refl _) rfl
  have c2 : w0.cell? ⟨w.heap.size, 2, none⟩ = some (.float .f32 de) := by rw [← hA]; exact boxed (Ext.refl _) rfl
  have hcw := hc.ext E0
  have HA := Lib.hid hA
  clear hA
  have hi : inB (k : Int) 0 (n : Int) = true := inB_mk (by omega) (by omega)
  go_enter Try.func172, Try.ntmps172
  go_wp2_with fail
  rw [HA.out]
  go_wp2_with (first | (go_at_call 135; refine (implValidG_any _ _ _ _ _ _ _ _ hcw hl hg).mono ?_; rintro _ w1 ⟨rfl, E1⟩; (have c0 := E1.cell c0); (have c1 := E1.cell c1); (have c2 := E1.cell c2)) | (go_at_call 136; refine (lengthL_any _ _ _ _).mono ?_; rintro _ _ ⟨rfl, rfl⟩) | (go_at_call 77; refine (within_any _ _ _ _ (by first | assumption | rfl) _).mono ?_; rintro _ _ ⟨rfl, rfl⟩) | (go_at_call 90; refine (l00In_any _ _ _ _ (by first | assumption | rfl) _).mono ?_; rintro _ _ ⟨rfl, rfl⟩) | (go_at_call 96; refine (isCount_any _ _ (by first | assumption | rfl) _).mono ?_; rintro _ _ ⟨rfl, rfl⟩) | (go_at_call 88; refine (isTrace_any _ _ _ _ (by first | assumption | rfl) _).mono ?_; rintro _ _ ⟨rfl, rfl⟩) | (go_at_call 85; refine (l03Is_any _ _ _ _ (by first | assumption | rfl) (by omega) _).mono ?_; rintro _ _ ⟨rfl, rfl⟩) | (go_at_call 78; refine (length32_any _ _ _ _).mono ?_; rintro _ _ ⟨rfl, rfl⟩) | (go_at_call 148; refine (isFinite64_any _ _ _ (by assumption) (by first | assumption | rfl) _).mono ?_; rintro _ _ ⟨rfl, n, rfl⟩) | (go_at_call 99; refine (isFinite_any _ _ _ (by first | assumption | exact is_ofInt _ _ | exact is_self) (by first | assumption | rfl) _).mono ?_; rintro _ _ ⟨rfl, n, rfl⟩) | (go_at_call 97; refine (l01Finite_any _ _ _ (by first | assumption | exact is_ofInt _ _ | exact is_self) (by first | assumption | rfl) _).mono ?_; rintro _ _ ⟨rfl, n, rfl⟩))
  go_ret
  exact ⟨rfl, E0.trans E1⟩
def csnO (n : Nat) (l : List Nat) (s k p : Nat) : Option Nat := if slowB p then cosO n l s k p else none
theorem cosIn_any (la : Option Addr) (lc n : Nat) (ls : List Nat) (sp de : Nat) (k : Nat) (pb p : Nat) (w : World) (hc : LR w la n ls) (hl : n ≤ 1048576) (hg : grdB n (cl ls) (canon .f32 sp) (canon .f32 de) = true) (hk : k ≤ n) (hp : Is .f32 pb p) :
    Calls Try.prog 138 #[.agg #[.slice la n lc, .float .f32 sp, .float .f32 de], .int .i64 (k : Int), .float .f32 pb] w (GivesFE (csnO n (cl ls) (canon .f32 sp) k p) w) := by
  generalize hA : w.alloc (.cells #[.slice la n lc, .float .f32 sp, .float .f32 de] 79) = w0
  have E0 : Ext w w0 := by rw [← hA]; exact (Ext.refl w).alloc _
  have c0 : w0.cell? ⟨w.heap.size, 0, none⟩ = some (.slice la n lc) := by rw [← hA]; exact boxed (Ext.refl _) rfl
  have c1 : w0.cell? ⟨w.heap.size, 1, none⟩ = some (.float .f32 sp) := by rw [← hA]; exact boxed (Ext.refl _) rfl
  have c2 : w0.cell? ⟨w.heap.size, 2, none⟩ = some (.float .f32 de) := by rw [← hA]; exact boxed (Ext.refl _) rfl
  have hcw := hc.ext E0
  have HA := Lib.hid hA
  clear hA
  cases hs : slowB p with
  | false =>
    have h : Hid (csnO n (cl ls) (canon .f32 sp) k p = none) := by unfold Hid csnO; rw [hs]; rfl
    unfold slowB at hs
    go_enter Try.func138, Try.ntmps138
    go_wp2_with fail
    rw [HA.out]
    go_wp2_with (first | (go_at_call 172; refine (isLay_any _ _ _ _ _ _ _ _ hcw hl hg hk).mono ?_; rintro _ w1 ⟨rfl, E1⟩; (have c0 := E1.cell c0); (have c1 := E1.cell c1); (have c2 := E1.cell c2)) | (refine wl_cmp rfl rfl rfl rfl rfl hp is_self hs ?_))
    go_ret2
    exact givesFE_none h.out (E0.trans E1)
  | true =>
    have h : Hid (csnO n (cl ls) (canon .f32 sp) k p = cosO n (cl ls) (canon .f32 sp) k p) := by unfold Hid csnO; rw [hs]; rfl
    unfold slowB at hs
    go_enter Try.func138, Try.ntmps138
    go_wp2_with fail
    rw [HA.out]
    go_wp2_with (first | (go_at_call 172; refine (isLay_any _ _ _ _ _ _ _ _ hcw hl hg hk).mono ?_; rintro _ w1 ⟨rfl, E1⟩; (have c0 := E1.cell c0); (have c1 := E1.cell c1); (have c2 := E1.cell c2)) | (refine wl_cmp rfl rfl rfl rfl rfl hp is_self hs ?_) | (go_at_call 132; refine (cos_any _ _ _ _ _ _ _ _ _ _ (by exact hcw.ext E1) hl hk hp).mono ?_; rintro _ w3 ⟨r, rfl, hr, E3⟩))
    go_ret2
    exact ⟨r, by rw [h.out]; rfl, by rw [h.out]; exact hr, E0.trans (E1.trans E3)⟩
theorem less4_any (a b c d s1 s2 t1 t2 : Nat) (w : World) (ha : Is .f32 a s1) (hb : Is .f32 b s2) (hc : Is .f32 c t1) (hd : Is .f32 d t2) : Calls Try.prog 176 #[.complex .f32 a b, .complex .f32 c d] w (GivesC (csub (s1, s2) (t1, t2)) w) := lessI_any a b c d (s1, s2) (t1, t2) w ha hb hc hd
theorem plus4_any (a b c d s1 s2 t1 t2 : Nat) (w : World) (ha : Is .f32 a s1) (hb : Is .f32 b s2) (hc : Is .f32 c t1) (hd : Is .f32 d t2) : Calls Try.prog 141 #[.complex .f32 a b, .complex .f32 c d] w (GivesC (cadd (s1, s2) (t1, t2)) w) := plusI_any a b c d (s1, s2) (t1, t2) w ha hb hc hd
/-- A complex number that may have grown the memory. -/
def GivesCX (z : Nat × Nat) (w : World) (e : Ending) (w' : World) : Prop := ∃ r i, e = .returned (.complex .f32 r i) ∧ Is .f32 r z.1 ∧ Is .f32 i z.2 ∧ Ext w w'
set_option maxHeartbeats 2000000 in
theorem reflect_any (la : Option Addr) (lc n : Nat) (ls : List Nat) (sp de : Nat) (k : Nat) (pb p cb c : Nat) (w : World) (hc : LR w la n ls) (hl : n ≤ 1048576) (hk : k < n) (hp : Is .f32 pb p) (hcb : Is .f32 cb c) (hsc : sinG n (cl ls) (canon .f32 sp) (k + 1) p ≤ inf .f32 ∨ sinG n (cl ls) (canon .f32 sp) (k + 1) p = 2147483648)
    (hok : quoOk (csub (scl (c, canon .f32 0) (hdG n (cl ls) (canon .f32 sp) (canon .f32 de) (k + 1))) (scl (bhdC (sinG n (cl ls) (canon .f32 sp) (k + 1) p)) (hdG n (cl ls) (canon .f32 sp) (canon .f32 de) k))) (cadd (scl (c, canon .f32 0) (hdG n (cl ls) (canon .f32 sp) (canon .f32 de) (k + 1))) (scl (bhdC (sinG n (cl ls) (canon .f32 sp) (k + 1) p)) (hdG n (cl ls) (canon .f32 sp) (canon .f32 de) k)))) :
    Calls Try.prog 140 #[.agg #[.slice la n lc, .float .f32 sp, .float .f32 de], .int .i64 (k : Int), .float .f32 pb, .float .f32 cb] w (GivesCX (angZ c (hdG n (cl ls) (canon .f32 sp) (canon .f32 de) (k + 1)) (bhdC (sinG n (cl ls) (canon .f32 sp) (k + 1) p)) (hdG n (cl ls) (canon .f32 sp) (canon .f32 de) k)) w) := by
  have hkn : k ≤ n := by omega
  have EK1 : Hid ((k : Int) + 1 = ((k + 1 : Nat) : Int)) := by unfold Hid; omega
  have EKW : Hid (IntKind.i64.wrap ((k : Int) + 1) = ((k + 1 : Nat) : Int)) := by unfold Hid; rw [IntWalk.i64_in _ (by omega)]; omega
  have hq2 := geq_lss hsc
  generalize hA : w.alloc (.cells #[.slice la n lc, .float .f32 sp, .float .f32 de] 79) = w0
  have E0 : Ext w w0 := by rw [← hA]; exact (Ext.refl w).alloc _
  have c0 : w0.cell? ⟨w.heap.size, 0, none⟩ = some (.slice la n lc) := by rw [← hA]; exact boxed (Ext.refl _) rfl
  have c1 : w0.cell? ⟨w.heap.size, 1, none⟩ = some (.float .f32 sp) := by rw [← hA]; exact boxed (Ext.refl _) rfl
  have c2 : w0.cell? ⟨w.heap.size, 2, none⟩ = some (.float .f32 de) := by rw [← hA]; exact boxed (Ext.refl _) rfl
  have hcw := hc.ext E0
  have HA := Lib.hid hA
  clear hA
  cases hq : fcmp .lss .f32 (sinG n (cl ls) (canon .f32 sp) (k + 1) p) (canon .f32 1065353216) with
  | true =>
    rw [hq] at hq2
    replace hq2 : fcmp .geq .f32 (sinG n (cl ls) (canon .f32 sp) (k + 1) p) (canon .f32 1065353216) = false := hq2
    have hz : bhdC (sinG n (cl ls) (canon .f32 sp) (k + 1) p) = ((cosV (sinG n (cl ls) (canon .f32 sp) (k + 1) p)), (canon .f32 0)) := by unfold bhdC; rw [hq]; rfl
    rw [hz] at hok
    rw [hz]
    clear hz
    go_enter Try.func140, Try.ntmps140
    go_wp2_with fail
    rw [HA.out]
    go_wp2_with (first | (go_at_call 131; refine (speed1_any _ _ _ _ _ _ _ _ hcw hl hk).mono ?_; rintro _ w1 ⟨sb0, rfl, hs2, E1⟩; (have c0 := E1.cell c0); (have c1 := E1.cell c1); (have c2 := E1.cell c2)) | (refine wl_bin rfl rfl rfl rfl rfl hp hs2 ?_; intro sb n1 hsb; clear hs2; (replace hsb : Is .f32 sb (sinG n (cl ls) (canon .f32 sp) (k + 1) p) := hsb)) | (go_at_call 163; (have g := hd1); refine (root_any _ _ hd1 _).mono ?_; rintro _ w6 ⟨rb1, m6, rfl, hrb1, rfl⟩; clear g) | (go_at_call 163; refine (root_any _ _ hd2 _).mono ?_; rintro _ w6 ⟨rb2, m6, rfl, hrb2, rfl⟩; (have hrb2c : Is .f32 rb2 (cosV (sinG n (cl ls) (canon .f32 sp) (k + 1) p)) := hrb2); clear hrb2) | (refine wl_bin rfl rfl rfl rfl rfl hsb hsb ?_; intro rs n6 hss) | (refine wl_bin rfl rfl rfl rfl rfl hss is_self ?_; intro rd1 n6 hd1) | (refine wl_bin rfl rfl rfl rfl rfl is_self hss ?_; intro rd2 n6 hd2) | (refine wl_cmp rfl rfl rfl rfl rfl hsb is_self hq2 ?_))
    have hcw1 := hcw.ext (E1.drewN 0)
    have EW : Ext w0 w1 := E1
    have S6 : ∀ w', Ext w1 w' → (Ext w1 w' ∧ w'.cell? ⟨w.heap.size, 0, none⟩ = some (.slice la n lc) ∧ w'.cell? ⟨w.heap.size, 1, none⟩ = some (.float .f32 sp) ∧ w'.cell? ⟨w.heap.size, 2, none⟩ = some (.float .f32 de)) := fun w' h => ⟨h, h.cell c0, h.cell c1, h.cell c2⟩
    go_region_held3 (fun w' => Ext w1 w' ∧ w'.cell? ⟨w.heap.size, 0, none⟩ = some (.slice la n lc) ∧ w'.cell? ⟨w.heap.size, 1, none⟩ = some (.float .f32 sp) ∧ w'.cell? ⟨w.heap.size, 2, none⟩ = some (.float .f32 de))
      (first | (refine S6 _ ?_; repeat (first | assumption | exact Ext.refl _ | apply Ext.drewN | (refine Ext.trans (by assumption) ?_))))
      (first
        | (go_at_call 174; refine (hard_any _ _ _ _ _ _ _ _ _ (hcw1.ext (by repeat (first | assumption | exact Ext.refl _ | apply Ext.drewN | (refine Ext.trans (by assumption) ?_)))) hl (by first | exact EKW.out | exact EK1.out | rfl) (by omega)).mono ?_; rintro _ w4 ⟨hb3, rfl, hH, E4⟩; (have E4' : Ext w1 w4 := Ext.trans (by repeat (first | assumption | exact Ext.refl _ | apply Ext.drewN | (refine Ext.trans (by assumption) ?_))) E4))
        | (go_at_call 149; refine (scaleI2_any _ _ _ _ _ _ _ (by first | exact hcb | exact hrb2c) (by first | exact is_self | exact is_self) (by assumption)).mono ?_; rintro _ w6 ⟨xr, xi, m5, rfl, har, hai, hw6⟩; (have E6' : Ext w1 w6 := by rw [hw6]; exact Ext.drewN (by repeat (first | assumption | exact Ext.refl _ | apply Ext.drewN | (refine Ext.trans (by assumption) ?_))) _)))
    all_goals
      clear S6
      go_wp2_with (first | (go_at_call 176; refine (less4_any _ _ _ _ (fop .mul .f32 c (hdG n (cl ls) (canon .f32 sp) (canon .f32 de) (k + 1))) (fop .mul .f32 (canon .f32 0) (hdG n (cl ls) (canon .f32 sp) (canon .f32 de) (k + 1))) (fop .mul .f32 (cosV (sinG n (cl ls) (canon .f32 sp) (k + 1) p)) (hdG n (cl ls) (canon .f32 sp) (canon .f32 de) k)) (fop .mul .f32 (canon .f32 0) (hdG n (cl ls) (canon .f32 sp) (canon .f32 de) k)) _ (by with_reducible assumption) (by with_reducible assumption) (by with_reducible assumption) (by with_reducible assumption)).mono ?_; rintro _ w8 ⟨ur, ui, n7, rfl, hur, hui, rfl⟩) | (go_at_call 141; refine (plus4_any _ _ _ _ (fop .mul .f32 c (hdG n (cl ls) (canon .f32 sp) (canon .f32 de) (k + 1))) (fop .mul .f32 (canon .f32 0) (hdG n (cl ls) (canon .f32 sp) (canon .f32 de) (k + 1))) (fop .mul .f32 (cosV (sinG n (cl ls) (canon .f32 sp) (k + 1) p)) (hdG n (cl ls) (canon .f32 sp) (canon .f32 de) k)) (fop .mul .f32 (canon .f32 0) (hdG n (cl ls) (canon .f32 sp) (canon .f32 de) k)) _ (by with_reducible assumption) (by with_reducible assumption) (by with_reducible assumption) (by with_reducible assumption)).mono ?_; rintro _ w9 ⟨vr, vi, n8, rfl, hvr, hvi, rfl⟩) | (go_at_call 175; refine (quotI_any _ _ _ _ (csub (scl (c, canon .f32 0) (hdG n (cl ls) (canon .f32 sp) (canon .f32 de) (k + 1))) (scl ((cosV (sinG n (cl ls) (canon .f32 sp) (k + 1) p)), (canon .f32 0)) (hdG n (cl ls) (canon .f32 sp) (canon .f32 de) k))) (cadd (scl (c, canon .f32 0) (hdG n (cl ls) (canon .f32 sp) (canon .f32 de) (k + 1))) (scl ((cosV (sinG n (cl ls) (canon .f32 sp) (k + 1) p)), (canon .f32 0)) (hdG n (cl ls) (canon .f32 sp) (canon .f32 de) k))) _ hur hui hvr hvi hok).mono ?_; rintro _ w10 ⟨zr, zi, m9, rfl, hzr, hzi, rfl⟩))
      go_ret
      refine ⟨_, _, rfl, hzr, hzi, E0.trans (E1.trans ?_)⟩
      repeat (first | assumption | apply Ext.drewN)
  | false =>
    rw [hq] at hq2
    replace hq2 : fcmp .geq .f32 (sinG n (cl ls) (canon .f32 sp) (k + 1) p) (canon .f32 1065353216) = true := hq2
    have hz : bhdC (sinG n (cl ls) (canon .f32 sp) (k + 1) p) = ((canon .f32 0), (rootF (fop .sub .f32 (fop .mul .f32 (sinG n (cl ls) (canon .f32 sp) (k + 1) p) (sinG n (cl ls) (canon .f32 sp) (k + 1) p)) (canon .f32 1065353216)))) := by unfold bhdC; rw [hq]; rfl
    rw [hz] at hok
    rw [hz]
    clear hz
    go_enter Try.func140, Try.ntmps140
    go_wp2_with fail
    rw [HA.out]
    go_wp2_with (first | (go_at_call 131; refine (speed1_any _ _ _ _ _ _ _ _ hcw hl hk).mono ?_; rintro _ w1 ⟨sb0, rfl, hs2, E1⟩; (have c0 := E1.cell c0); (have c1 := E1.cell c1); (have c2 := E1.cell c2)) | (refine wl_bin rfl rfl rfl rfl rfl hp hs2 ?_; intro sb n1 hsb; clear hs2; (replace hsb : Is .f32 sb (sinG n (cl ls) (canon .f32 sp) (k + 1) p) := hsb)) | (go_at_call 163; (have g := hd1); refine (root_any _ _ hd1 _).mono ?_; rintro _ w6 ⟨rb1, m6, rfl, hrb1, rfl⟩; clear g) | (go_at_call 163; refine (root_any _ _ hd2 _).mono ?_; rintro _ w6 ⟨rb2, m6, rfl, hrb2, rfl⟩; (have hrb2c : Is .f32 rb2 (cosV (sinG n (cl ls) (canon .f32 sp) (k + 1) p)) := hrb2); clear hrb2) | (refine wl_bin rfl rfl rfl rfl rfl hsb hsb ?_; intro rs n6 hss) | (refine wl_bin rfl rfl rfl rfl rfl hss is_self ?_; intro rd1 n6 hd1) | (refine wl_bin rfl rfl rfl rfl rfl is_self hss ?_; intro rd2 n6 hd2) | (refine wl_cmp rfl rfl rfl rfl rfl hsb is_self hq2 ?_))
    have hcw1 := hcw.ext (E1.drewN 0)
    have EW : Ext w0 w1 := E1
    have S6 : ∀ w', Ext w1 w' → (Ext w1 w' ∧ w'.cell? ⟨w.heap.size, 0, none⟩ = some (.slice la n lc) ∧ w'.cell? ⟨w.heap.size, 1, none⟩ = some (.float .f32 sp) ∧ w'.cell? ⟨w.heap.size, 2, none⟩ = some (.float .f32 de)) := fun w' h => ⟨h, h.cell c0, h.cell c1, h.cell c2⟩
    go_region_held3 (fun w' => Ext w1 w' ∧ w'.cell? ⟨w.heap.size, 0, none⟩ = some (.slice la n lc) ∧ w'.cell? ⟨w.heap.size, 1, none⟩ = some (.float .f32 sp) ∧ w'.cell? ⟨w.heap.size, 2, none⟩ = some (.float .f32 de))
      (first | (refine S6 _ ?_; repeat (first | assumption | exact Ext.refl _ | apply Ext.drewN | (refine Ext.trans (by assumption) ?_))))
      (first
        | (go_at_call 174; refine (hard_any _ _ _ _ _ _ _ _ _ (hcw1.ext (by repeat (first | assumption | exact Ext.refl _ | apply Ext.drewN | (refine Ext.trans (by assumption) ?_)))) hl (by first | exact EKW.out | exact EK1.out | rfl) (by omega)).mono ?_; rintro _ w4 ⟨hb3, rfl, hH, E4⟩; (have E4' : Ext w1 w4 := Ext.trans (by repeat (first | assumption | exact Ext.refl _ | apply Ext.drewN | (refine Ext.trans (by assumption) ?_))) E4))
        | (go_at_call 149; refine (scaleI2_any _ _ _ _ _ _ _ (by first | exact hcb | exact is_self) (by first | exact hrb1 | exact is_self) (by assumption)).mono ?_; rintro _ w6 ⟨xr, xi, m5, rfl, har, hai, hw6⟩; (have E6' : Ext w1 w6 := by rw [hw6]; exact Ext.drewN (by repeat (first | assumption | exact Ext.refl _ | apply Ext.drewN | (refine Ext.trans (by assumption) ?_))) _)))
    all_goals
      clear S6
      go_wp2_with (first | (go_at_call 176; refine (less4_any _ _ _ _ (fop .mul .f32 c (hdG n (cl ls) (canon .f32 sp) (canon .f32 de) (k + 1))) (fop .mul .f32 (canon .f32 0) (hdG n (cl ls) (canon .f32 sp) (canon .f32 de) (k + 1))) (fop .mul .f32 (canon .f32 0) (hdG n (cl ls) (canon .f32 sp) (canon .f32 de) k)) (fop .mul .f32 (rootF (fop .sub .f32 (fop .mul .f32 (sinG n (cl ls) (canon .f32 sp) (k + 1) p) (sinG n (cl ls) (canon .f32 sp) (k + 1) p)) (canon .f32 1065353216))) (hdG n (cl ls) (canon .f32 sp) (canon .f32 de) k)) _ (by with_reducible assumption) (by with_reducible assumption) (by with_reducible assumption) (by with_reducible assumption)).mono ?_; rintro _ w8 ⟨ur, ui, n7, rfl, hur, hui, rfl⟩) | (go_at_call 141; refine (plus4_any _ _ _ _ (fop .mul .f32 c (hdG n (cl ls) (canon .f32 sp) (canon .f32 de) (k + 1))) (fop .mul .f32 (canon .f32 0) (hdG n (cl ls) (canon .f32 sp) (canon .f32 de) (k + 1))) (fop .mul .f32 (canon .f32 0) (hdG n (cl ls) (canon .f32 sp) (canon .f32 de) k)) (fop .mul .f32 (rootF (fop .sub .f32 (fop .mul .f32 (sinG n (cl ls) (canon .f32 sp) (k + 1) p) (sinG n (cl ls) (canon .f32 sp) (k + 1) p)) (canon .f32 1065353216))) (hdG n (cl ls) (canon .f32 sp) (canon .f32 de) k)) _ (by with_reducible assumption) (by with_reducible assumption) (by with_reducible assumption) (by with_reducible assumption)).mono ?_; rintro _ w9 ⟨vr, vi, n8, rfl, hvr, hvi, rfl⟩) | (go_at_call 175; refine (quotI_any _ _ _ _ (csub (scl (c, canon .f32 0) (hdG n (cl ls) (canon .f32 sp) (canon .f32 de) (k + 1))) (scl ((canon .f32 0), (rootF (fop .sub .f32 (fop .mul .f32 (sinG n (cl ls) (canon .f32 sp) (k + 1) p) (sinG n (cl ls) (canon .f32 sp) (k + 1) p)) (canon .f32 1065353216)))) (hdG n (cl ls) (canon .f32 sp) (canon .f32 de) k))) (cadd (scl (c, canon .f32 0) (hdG n (cl ls) (canon .f32 sp) (canon .f32 de) (k + 1))) (scl ((canon .f32 0), (rootF (fop .sub .f32 (fop .mul .f32 (sinG n (cl ls) (canon .f32 sp) (k + 1) p) (sinG n (cl ls) (canon .f32 sp) (k + 1) p)) (canon .f32 1065353216)))) (hdG n (cl ls) (canon .f32 sp) (canon .f32 de) k))) _ hur hui hvr hvi hok).mono ?_; rintro _ w10 ⟨zr, zi, m9, rfl, hzr, hzi, rfl⟩))
      go_ret
      refine ⟨_, _, rfl, hzr, hzi, E0.trans (E1.trans ?_)⟩
      repeat (first | assumption | apply Ext.drewN)
end Go.Proofs.Ytnjgcacnfobmiaa
