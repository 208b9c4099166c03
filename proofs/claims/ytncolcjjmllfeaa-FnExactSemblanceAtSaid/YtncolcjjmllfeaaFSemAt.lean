/- SemblanceAt: the window, and the whole. -/
import Derived.Test.YtncolcjjmllfeaaFSemb
namespace Go.Proofs.Ytncolcjjmllfeaa
open Go.RowKit
set_option maxRecDepth 100000
set_option linter.unusedVariables false

def winB (t a b : Int) : Bool := inB a 0 (t - 1) && inB b 0 64
def semO (t : Int) (ps : List Nat) (rs : List (List Nat)) (a b : Int) : Option Nat :=
  if gOk t ps rs && winB t a b then some (semF rs (a.toNat - b.toNat) (min (t.toNat - 1) (a.toNat + b.toNat) + 1 - (a.toNat - b.toNat)) rs.length) else none
theorem isWindow_any (t : Int) (pa : Option Addr) (pc : Nat) (ps : List Nat) (ra : Option Addr) (rc : Nat) (rs : List (List Nat)) (a b : Int) (v : Bool) (w : World) (h1 : 1 ≤ t) (h2 : t ≤ 64) (hv : winB t a b = v) :
    Calls Try.prog 135 #[.agg #[.int .i64 t, .slice pa ps.length pc, .slice ra rs.length rc], .int .i64 a, .int .i64 b] w (GivesE (.bool v) w) := by
  have HV := Lib.hid hv
  clear hv
  cases ha : inB a 0 (t - 1) with
  | false =>
    have h : Hid (v = false) := by unfold Hid; rw [← HV.out]; unfold winB; rw [ha]; rfl
    go_enter Try.func135, Try.ntmps135
    go_wp2_with (first | (go_at_call 93; refine (within_any _ _ _ _ (by first | assumption | rfl) _).mono ?_; rintro _ _ ⟨rfl, rfl⟩) | (go_at_call 90; refine (l00In_any _ _ _ _ (by first | assumption | rfl) _).mono ?_; rintro _ _ ⟨rfl, rfl⟩) | (go_at_call 101; refine (isCount_any _ _ (by first | assumption | rfl) _).mono ?_; rintro _ _ ⟨rfl, rfl⟩) | (go_at_call 88; refine (isTrace_any _ _ _ _ (by first | assumption | rfl) _).mono ?_; rintro _ _ ⟨rfl, rfl⟩) | (go_at_call 85; refine (l03Is_any _ _ _ _ (by first | assumption | rfl) (by omega) _).mono ?_; rintro _ _ ⟨rfl, rfl⟩) | (go_at_call 94; refine (length32_any _ _ _ _).mono ?_; rintro _ _ ⟨rfl, rfl⟩) | (go_at_call 160; refine (isFinite64_any _ _ _ (by assumption) (by first | assumption | rfl) _).mono ?_; rintro _ _ ⟨rfl, n, rfl⟩) | (go_at_call 111; refine (isFinite_any _ _ _ (by first | assumption | exact is_ofInt _ _ | exact is_self) (by first | assumption | rfl) _).mono ?_; rintro _ _ ⟨rfl, n, rfl⟩) | (go_at_call 107; refine (l01Finite_any _ _ _ (by first | assumption | exact is_ofInt _ _ | exact is_self) (by first | assumption | rfl) _).mono ?_; rintro _ _ ⟨rfl, n, rfl⟩) | (refine wl_bin rfl rfl rfl rfl rfl (by first | assumption | exact is_ofInt _ _ | exact is_self) (by first | assumption | exact is_ofInt _ _ | exact is_self) ?_; intro r n hr) | (refine wl_cmp rfl rfl rfl rfl rfl (by first | assumption | exact is_ofInt _ _ | exact is_self) (by first | assumption | exact is_ofInt _ _ | exact is_self) (by first | assumption | rfl) ?_) | (refine wl_widen rfl rfl rfl (by first | exact rfl | kernel_rfl) (by kernel_rfl) (by first | assumption | exact is_ofInt _ _ | exact is_self) ?_; intro r n hr) | (refine wl_neg rfl rfl rfl (by first | assumption | exact is_ofInt _ _ | exact is_self) ?_; intro r hr))
    go_ret
    exact ⟨by rw [h.out]; rfl, (by repeat (first | assumption | exact Ext.refl _ | apply Ext.drewN | apply Ext.alloc | (refine Ext.setCell ?_ (by first | assumption | exact Nat.le_refl _) _)))⟩
  | true =>
    cases hb : inB b 0 64 with
    | false =>
      have h : Hid (v = false) := by unfold Hid; rw [← HV.out]; unfold winB; rw [ha, hb]; rfl
      go_enter Try.func135, Try.ntmps135
      go_wp2_with (first | (go_at_call 93; refine (within_any _ _ _ _ (by first | assumption | rfl) _).mono ?_; rintro _ _ ⟨rfl, rfl⟩) | (go_at_call 90; refine (l00In_any _ _ _ _ (by first | assumption | rfl) _).mono ?_; rintro _ _ ⟨rfl, rfl⟩) | (go_at_call 101; refine (isCount_any _ _ (by first | assumption | rfl) _).mono ?_; rintro _ _ ⟨rfl, rfl⟩) | (go_at_call 88; refine (isTrace_any _ _ _ _ (by first | assumption | rfl) _).mono ?_; rintro _ _ ⟨rfl, rfl⟩) | (go_at_call 85; refine (l03Is_any _ _ _ _ (by first | assumption | rfl) (by omega) _).mono ?_; rintro _ _ ⟨rfl, rfl⟩) | (go_at_call 94; refine (length32_any _ _ _ _).mono ?_; rintro _ _ ⟨rfl, rfl⟩) | (go_at_call 160; refine (isFinite64_any _ _ _ (by assumption) (by first | assumption | rfl) _).mono ?_; rintro _ _ ⟨rfl, n, rfl⟩) | (go_at_call 111; refine (isFinite_any _ _ _ (by first | assumption | exact is_ofInt _ _ | exact is_self) (by first | assumption | rfl) _).mono ?_; rintro _ _ ⟨rfl, n, rfl⟩) | (go_at_call 107; refine (l01Finite_any _ _ _ (by first | assumption | exact is_ofInt _ _ | exact is_self) (by first | assumption | rfl) _).mono ?_; rintro _ _ ⟨rfl, n, rfl⟩) | (refine wl_bin rfl rfl rfl rfl rfl (by first | assumption | exact is_ofInt _ _ | exact is_self) (by first | assumption | exact is_ofInt _ _ | exact is_self) ?_; intro r n hr) | (refine wl_cmp rfl rfl rfl rfl rfl (by first | assumption | exact is_ofInt _ _ | exact is_self) (by first | assumption | exact is_ofInt _ _ | exact is_self) (by first | assumption | rfl) ?_) | (refine wl_widen rfl rfl rfl (by first | exact rfl | kernel_rfl) (by kernel_rfl) (by first | assumption | exact is_ofInt _ _ | exact is_self) ?_; intro r n hr) | (refine wl_neg rfl rfl rfl (by first | assumption | exact is_ofInt _ _ | exact is_self) ?_; intro r hr))
      go_ret
      exact ⟨by rw [h.out]; rfl, (by repeat (first | assumption | exact Ext.refl _ | apply Ext.drewN | apply Ext.alloc | (refine Ext.setCell ?_ (by first | assumption | exact Nat.le_refl _) _)))⟩
    | true =>
      have h : Hid (v = true) := by unfold Hid; rw [← HV.out]; unfold winB; rw [ha, hb]; rfl
      go_enter Try.func135, Try.ntmps135
      go_wp2_with (first | (go_at_call 93; refine (within_any _ _ _ _ (by first | assumption | rfl) _).mono ?_; rintro _ _ ⟨rfl, rfl⟩) | (go_at_call 90; refine (l00In_any _ _ _ _ (by first | assumption | rfl) _).mono ?_; rintro _ _ ⟨rfl, rfl⟩) | (go_at_call 101; refine (isCount_any _ _ (by first | assumption | rfl) _).mono ?_; rintro _ _ ⟨rfl, rfl⟩) | (go_at_call 88; refine (isTrace_any _ _ _ _ (by first | assumption | rfl) _).mono ?_; rintro _ _ ⟨rfl, rfl⟩) | (go_at_call 85; refine (l03Is_any _ _ _ _ (by first | assumption | rfl) (by omega) _).mono ?_; rintro _ _ ⟨rfl, rfl⟩) | (go_at_call 94; refine (length32_any _ _ _ _).mono ?_; rintro _ _ ⟨rfl, rfl⟩) | (go_at_call 160; refine (isFinite64_any _ _ _ (by assumption) (by first | assumption | rfl) _).mono ?_; rintro _ _ ⟨rfl, n, rfl⟩) | (go_at_call 111; refine (isFinite_any _ _ _ (by first | assumption | exact is_ofInt _ _ | exact is_self) (by first | assumption | rfl) _).mono ?_; rintro _ _ ⟨rfl, n, rfl⟩) | (go_at_call 107; refine (l01Finite_any _ _ _ (by first | assumption | exact is_ofInt _ _ | exact is_self) (by first | assumption | rfl) _).mono ?_; rintro _ _ ⟨rfl, n, rfl⟩) | (refine wl_bin rfl rfl rfl rfl rfl (by first | assumption | exact is_ofInt _ _ | exact is_self) (by first | assumption | exact is_ofInt _ _ | exact is_self) ?_; intro r n hr) | (refine wl_cmp rfl rfl rfl rfl rfl (by first | assumption | exact is_ofInt _ _ | exact is_self) (by first | assumption | exact is_ofInt _ _ | exact is_self) (by first | assumption | rfl) ?_) | (refine wl_widen rfl rfl rfl (by first | exact rfl | kernel_rfl) (by kernel_rfl) (by first | assumption | exact is_ofInt _ _ | exact is_self) ?_; intro r n hr) | (refine wl_neg rfl rfl rfl (by first | assumption | exact is_ofInt _ _ | exact is_self) ?_; intro r hr))
      go_ret
      exact ⟨by rw [h.out]; rfl, (by repeat (first | assumption | exact Ext.refl _ | apply Ext.drewN | apply Ext.alloc | (refine Ext.setCell ?_ (by first | assumption | exact Nat.le_refl _) _)))⟩
theorem l04Window_any (B : Nat) (t a b : Int) (v : Bool) (w : World) (c0 : w.cell? ⟨B, 0, none⟩ = some (.int .i64 t)) (h1 : 1 ≤ t) (h2 : t ≤ 64) (hv : winB t a b = v) :
    Calls Try.prog 133 #[.pointer (some ⟨B, 0, none⟩), .int .i64 a, .int .i64 b] w fun e w' => e = .returned (.bool v) ∧ w = w' := by
  have HV := Lib.hid hv
  clear hv
  cases ha : inB a 0 (t - 1) with
  | false =>
    have h : Hid (v = false) := by unfold Hid; rw [← HV.out]; unfold winB; rw [ha]; rfl
    go_enter Try.func133, Try.ntmps133
    go_wp2_with (first | (go_at_call 93; refine (within_any _ _ _ _ (by first | assumption | rfl) _).mono ?_; rintro _ _ ⟨rfl, rfl⟩) | (go_at_call 90; refine (l00In_any _ _ _ _ (by first | assumption | rfl) _).mono ?_; rintro _ _ ⟨rfl, rfl⟩) | (go_at_call 101; refine (isCount_any _ _ (by first | assumption | rfl) _).mono ?_; rintro _ _ ⟨rfl, rfl⟩) | (go_at_call 88; refine (isTrace_any _ _ _ _ (by first | assumption | rfl) _).mono ?_; rintro _ _ ⟨rfl, rfl⟩) | (go_at_call 85; refine (l03Is_any _ _ _ _ (by first | assumption | rfl) (by omega) _).mono ?_; rintro _ _ ⟨rfl, rfl⟩) | (go_at_call 94; refine (length32_any _ _ _ _).mono ?_; rintro _ _ ⟨rfl, rfl⟩) | (go_at_call 160; refine (isFinite64_any _ _ _ (by assumption) (by first | assumption | rfl) _).mono ?_; rintro _ _ ⟨rfl, n, rfl⟩) | (go_at_call 111; refine (isFinite_any _ _ _ (by first | assumption | exact is_ofInt _ _ | exact is_self) (by first | assumption | rfl) _).mono ?_; rintro _ _ ⟨rfl, n, rfl⟩) | (go_at_call 107; refine (l01Finite_any _ _ _ (by first | assumption | exact is_ofInt _ _ | exact is_self) (by first | assumption | rfl) _).mono ?_; rintro _ _ ⟨rfl, n, rfl⟩) | (refine wl_bin rfl rfl rfl rfl rfl (by first | assumption | exact is_ofInt _ _ | exact is_self) (by first | assumption | exact is_ofInt _ _ | exact is_self) ?_; intro r n hr) | (refine wl_cmp rfl rfl rfl rfl rfl (by first | assumption | exact is_ofInt _ _ | exact is_self) (by first | assumption | exact is_ofInt _ _ | exact is_self) (by first | assumption | rfl) ?_) | (refine wl_widen rfl rfl rfl (by first | exact rfl | kernel_rfl) (by kernel_rfl) (by first | assumption | exact is_ofInt _ _ | exact is_self) ?_; intro r n hr) | (refine wl_neg rfl rfl rfl (by first | assumption | exact is_ofInt _ _ | exact is_self) ?_; intro r hr))
    go_ret
    exact ⟨by rw [h.out]; rfl, rfl⟩
  | true =>
    cases hb : inB b 0 64 with
    | false =>
      have h : Hid (v = false) := by unfold Hid; rw [← HV.out]; unfold winB; rw [ha, hb]; rfl
      go_enter Try.func133, Try.ntmps133
      go_wp2_with (first | (go_at_call 93; refine (within_any _ _ _ _ (by first | assumption | rfl) _).mono ?_; rintro _ _ ⟨rfl, rfl⟩) | (go_at_call 90; refine (l00In_any _ _ _ _ (by first | assumption | rfl) _).mono ?_; rintro _ _ ⟨rfl, rfl⟩) | (go_at_call 101; refine (isCount_any _ _ (by first | assumption | rfl) _).mono ?_; rintro _ _ ⟨rfl, rfl⟩) | (go_at_call 88; refine (isTrace_any _ _ _ _ (by first | assumption | rfl) _).mono ?_; rintro _ _ ⟨rfl, rfl⟩) | (go_at_call 85; refine (l03Is_any _ _ _ _ (by first | assumption | rfl) (by omega) _).mono ?_; rintro _ _ ⟨rfl, rfl⟩) | (go_at_call 94; refine (length32_any _ _ _ _).mono ?_; rintro _ _ ⟨rfl, rfl⟩) | (go_at_call 160; refine (isFinite64_any _ _ _ (by assumption) (by first | assumption | rfl) _).mono ?_; rintro _ _ ⟨rfl, n, rfl⟩) | (go_at_call 111; refine (isFinite_any _ _ _ (by first | assumption | exact is_ofInt _ _ | exact is_self) (by first | assumption | rfl) _).mono ?_; rintro _ _ ⟨rfl, n, rfl⟩) | (go_at_call 107; refine (l01Finite_any _ _ _ (by first | assumption | exact is_ofInt _ _ | exact is_self) (by first | assumption | rfl) _).mono ?_; rintro _ _ ⟨rfl, n, rfl⟩) | (refine wl_bin rfl rfl rfl rfl rfl (by first | assumption | exact is_ofInt _ _ | exact is_self) (by first | assumption | exact is_ofInt _ _ | exact is_self) ?_; intro r n hr) | (refine wl_cmp rfl rfl rfl rfl rfl (by first | assumption | exact is_ofInt _ _ | exact is_self) (by first | assumption | exact is_ofInt _ _ | exact is_self) (by first | assumption | rfl) ?_) | (refine wl_widen rfl rfl rfl (by first | exact rfl | kernel_rfl) (by kernel_rfl) (by first | assumption | exact is_ofInt _ _ | exact is_self) ?_; intro r n hr) | (refine wl_neg rfl rfl rfl (by first | assumption | exact is_ofInt _ _ | exact is_self) ?_; intro r hr))
      go_ret
      exact ⟨by rw [h.out]; rfl, rfl⟩
    | true =>
      have h : Hid (v = true) := by unfold Hid; rw [← HV.out]; unfold winB; rw [ha, hb]; rfl
      go_enter Try.func133, Try.ntmps133
      go_wp2_with (first | (go_at_call 93; refine (within_any _ _ _ _ (by first | assumption | rfl) _).mono ?_; rintro _ _ ⟨rfl, rfl⟩) | (go_at_call 90; refine (l00In_any _ _ _ _ (by first | assumption | rfl) _).mono ?_; rintro _ _ ⟨rfl, rfl⟩) | (go_at_call 101; refine (isCount_any _ _ (by first | assumption | rfl) _).mono ?_; rintro _ _ ⟨rfl, rfl⟩) | (go_at_call 88; refine (isTrace_any _ _ _ _ (by first | assumption | rfl) _).mono ?_; rintro _ _ ⟨rfl, rfl⟩) | (go_at_call 85; refine (l03Is_any _ _ _ _ (by first | assumption | rfl) (by omega) _).mono ?_; rintro _ _ ⟨rfl, rfl⟩) | (go_at_call 94; refine (length32_any _ _ _ _).mono ?_; rintro _ _ ⟨rfl, rfl⟩) | (go_at_call 160; refine (isFinite64_any _ _ _ (by assumption) (by first | assumption | rfl) _).mono ?_; rintro _ _ ⟨rfl, n, rfl⟩) | (go_at_call 111; refine (isFinite_any _ _ _ (by first | assumption | exact is_ofInt _ _ | exact is_self) (by first | assumption | rfl) _).mono ?_; rintro _ _ ⟨rfl, n, rfl⟩) | (go_at_call 107; refine (l01Finite_any _ _ _ (by first | assumption | exact is_ofInt _ _ | exact is_self) (by first | assumption | rfl) _).mono ?_; rintro _ _ ⟨rfl, n, rfl⟩) | (refine wl_bin rfl rfl rfl rfl rfl (by first | assumption | exact is_ofInt _ _ | exact is_self) (by first | assumption | exact is_ofInt _ _ | exact is_self) ?_; intro r n hr) | (refine wl_cmp rfl rfl rfl rfl rfl (by first | assumption | exact is_ofInt _ _ | exact is_self) (by first | assumption | exact is_ofInt _ _ | exact is_self) (by first | assumption | rfl) ?_) | (refine wl_widen rfl rfl rfl (by first | exact rfl | kernel_rfl) (by kernel_rfl) (by first | assumption | exact is_ofInt _ _ | exact is_self) ?_; intro r n hr) | (refine wl_neg rfl rfl rfl (by first | assumption | exact is_ofInt _ _ | exact is_self) ?_; intro r hr))
      go_ret
      exact ⟨by rw [h.out]; rfl, rfl⟩
set_option maxHeartbeats 4000000 in
theorem implSem_any (t : Int) (pa : Option Addr) (pc : Nat) (ps : List Nat) (ra : Option Addr) (rc : Nat) (rs : List (List Nat)) (a b : Int) (w : World) (hp : FR w pa ps) (hr : RS w ra rs) (hl : ps.length + (rs.length + tot rs) ≤ 1048576) (b1 : -9223372036854775808 ≤ a) (b2 : a ≤ 9223372036854775807) (b3 : -9223372036854775808 ≤ b) (b4 : b ≤ 9223372036854775807) : Calls Try.prog 62 #[.agg #[.int .i64 t, .slice pa ps.length pc, .slice ra rs.length rc], .int .i64 a, .int .i64 b] w (GivesFE (semO t (cl ps) (cls rs) a b) w) := by
  generalize hA : w.alloc (.cells #[.int .i64 t, .slice pa ps.length pc, .slice ra rs.length rc] 47) = w0
  have E0 : Ext w w0 := by rw [← hA]; exact (Ext.refl w).alloc _
  have c0 : w0.cell? ⟨w.heap.size, 0, none⟩ = some (.int .i64 t) := by rw [← hA]; exact boxed (Ext.refl _) rfl
  have c1 : w0.cell? ⟨w.heap.size, 1, none⟩ = some (.slice pa ps.length pc) := by rw [← hA]; exact boxed (Ext.refl _) rfl
  have c2 : w0.cell? ⟨w.heap.size, 2, none⟩ = some (.slice ra rs.length rc) := by rw [← hA]; exact boxed (Ext.refl _) rfl
  have hpw := hp.ext E0
  have hrw := hr.ext E0
  have HA := Lib.hid hA
  clear hA
  cases hg : gOk t (cl ps) (cls rs) with
  | false =>
    have h : Hid (semO t (cl ps) (cls rs) a b = none) := by unfold Hid semO; rw [hg]; rfl
    go_enter Try.func62, Try.ntmps62
    go_wp2_with fail
    rw [HA.out]
    go_at_call 47; refine (implValid_any _ _ _ _ _ _ _ _ _ hpw hrw hl hg).mono ?_; rintro _ w1 ⟨rfl, E1⟩
    go_wp2
    go_ret2
    exact givesFE_none h.out (E0.trans E1)
  | true =>
    obtain ⟨ht, hpl, hlen, hrow⟩ := gOk_parts hg
    have HR := Lib.hid hrow
    have HL := Lib.hid hlen
    clear hrow hlen
    cases hwn : winB t a b with
    | false =>
      have h : Hid (semO t (cl ps) (cls rs) a b = none) := by unfold Hid semO; rw [hg, hwn]; rfl
      go_enter Try.func62, Try.ntmps62
      go_wp2_with fail
      rw [HA.out]
      go_at_call 47; refine (implValid_any _ _ _ _ _ _ _ _ _ hpw hrw hl hg).mono ?_; rintro _ w1 ⟨rfl, E1⟩
      have d0 := E1.cell c0
      have d1 := E1.cell c1
      have d2 := E1.cell c2
      clear hg c0 c1 c2
      go_wp2_with fail
      go_at_call 135; refine (isWindow_any _ _ _ _ _ _ _ _ _ _ _ ht.1 ht.2 hwn).mono ?_; rintro _ w2 ⟨rfl, E2⟩
      go_wp2
      go_ret2
      exact givesFE_none h.out (E0.trans (E1.trans E2))
    | true =>
      have h : Hid (semO t (cl ps) (cls rs) a b = some (semF (cls rs) (a.toNat - b.toNat) (min (t.toNat - 1) (a.toNat + b.toNat) + 1 - (a.toNat - b.toNat)) rs.length)) := by unfold Hid semO; rw [hg, hwn, cls_len]; rfl
      have hw2 : inB a 0 (t - 1) = true ∧ inB b 0 64 = true := by unfold winB at hwn; simpa using hwn
      have ha := inB_yes hw2.1
      have hb := inB_yes hw2.2
      clear hw2
      obtain ⟨N, rfl⟩ : ∃ N : Nat, t = (N : Int) := ⟨t.toNat, by omega⟩
      obtain ⟨tk, rfl⟩ : ∃ n : Nat, a = (n : Int) := ⟨a.toNat, by omega⟩
      obtain ⟨re, rfl⟩ : ∃ n : Nat, b = (n : Int) := ⟨b.toNat, by omega⟩
      have hkr : ∀ k, k < N → ∀ i, i < rs.length → k < (row rs i).length := fun k hk i hi => by have := HR.out i hi; omega
      have hN : N ≤ 64 := by omega
      have hre : re ≤ 64 := by omega
      have htk : tk < N := by omega
      go_enter Try.func62, Try.ntmps62
      go_wp2_with fail
      rw [HA.out]
      go_at_call 47; refine (implValid_any _ _ _ _ _ _ _ _ _ hpw hrw hl hg).mono ?_; rintro _ w1 ⟨rfl, E1⟩
      have d0 := E1.cell c0
      have d1 := E1.cell c1
      have d2 := E1.cell c2
      clear hg c0 c1 c2
      go_wp2_with fail
      go_at_call 135; refine (isWindow_any _ _ _ _ _ _ _ _ _ _ _ ht.1 ht.2 hwn).mono ?_; rintro _ w2 ⟨rfl, E2⟩
      have f0 := E2.cell d0
      have f1 := E2.cell d1
      have f2 := E2.cell d2
      clear d0 d1 d2 hwn
      go_wp2_with fail
      go_at_call 136; refine (semb_any N tk re _ _ _ _ _ _ _ _ _ (hpw.ext (E1.trans E2)) (hrw.ext (E1.trans E2)) hl hN hre htk rfl rfl hkr).mono ?_; rintro _ w3 ⟨r3, rfl, hr3, E3⟩
      go_wp2
      go_ret2
      exact givesFE_some h.out (by simpa using hr3) (E0.trans (E1.trans (E2.trans E3)))
set_option maxHeartbeats 4000000 in
theorem specSem_any (t : Int) (pa : Option Addr) (pc : Nat) (ps : List Nat) (ra : Option Addr) (rc : Nat) (rs : List (List Nat)) (a b : Int) (w : World) (hp : FR w pa ps) (hr : RS w ra rs) (hl : ps.length + (rs.length + tot rs) ≤ 1048576) (b1 : -9223372036854775808 ≤ a) (b2 : a ≤ 9223372036854775807) (b3 : -9223372036854775808 ≤ b) (b4 : b ≤ 9223372036854775807) : Calls Try.prog 61 #[.agg #[.int .i64 t, .slice pa ps.length pc, .slice ra rs.length rc], .int .i64 a, .int .i64 b] w (GivesFE (semO t (cl ps) (cls rs) a b) w) := by
  generalize hA : w.alloc (.cells #[.int .i64 t, .slice pa ps.length pc, .slice ra rs.length rc] 47) = w0
  have E0 : Ext w w0 := by rw [← hA]; exact (Ext.refl w).alloc _
  have c0 : w0.cell? ⟨w.heap.size, 0, none⟩ = some (.int .i64 t) := by rw [← hA]; exact boxed (Ext.refl _) rfl
  have c1 : w0.cell? ⟨w.heap.size, 1, none⟩ = some (.slice pa ps.length pc) := by rw [← hA]; exact boxed (Ext.refl _) rfl
  have c2 : w0.cell? ⟨w.heap.size, 2, none⟩ = some (.slice ra rs.length rc) := by rw [← hA]; exact boxed (Ext.refl _) rfl
  have hpw := hp.ext E0
  have hrw := hr.ext E0
  have HA := Lib.hid hA
  clear hA
  cases hg : gOk t (cl ps) (cls rs) with
  | false =>
    have h : Hid (semO t (cl ps) (cls rs) a b = none) := by unfold Hid semO; rw [hg]; rfl
    go_enter Try.func61, Try.ntmps61
    go_wp2_with fail
    rw [HA.out]
    go_at_call 119; refine (l04Is_any _ _ _ _ _ _ _ _ _ _ c0 c1 c2 hpw hrw hl hg).mono ?_; rintro _ w1 ⟨rfl, n1, hw1⟩; (have E1 : Ext w0 w1 := by rw [hw1]; exact (Ext.refl _).drewN _); clear hw1
    go_wp2
    go_ret2
    exact givesFE_none h.out (E0.trans E1)
  | true =>
    obtain ⟨ht, hpl, hlen, hrow⟩ := gOk_parts hg
    have HR := Lib.hid hrow
    have HL := Lib.hid hlen
    clear hrow hlen
    cases hwn : winB t a b with
    | false =>
      have h : Hid (semO t (cl ps) (cls rs) a b = none) := by unfold Hid semO; rw [hg, hwn]; rfl
      go_enter Try.func61, Try.ntmps61
      go_wp2_with fail
      rw [HA.out]
      go_at_call 119; refine (l04Is_any _ _ _ _ _ _ _ _ _ _ c0 c1 c2 hpw hrw hl hg).mono ?_; rintro _ w1 ⟨rfl, n1, hw1⟩; (have E1 : Ext w0 w1 := by rw [hw1]; exact (Ext.refl _).drewN _); clear hw1
      have d0 := E1.cell c0
      have d1 := E1.cell c1
      have d2 := E1.cell c2
      clear hg c0 c1 c2
      go_wp2_with fail
      go_at_call 133; refine (l04Window_any _ _ _ _ _ _ d0 ht.1 ht.2 hwn).mono ?_; rintro _ w2 ⟨rfl, hw2⟩; (have E2 : Ext w1 w2 := by rw [← hw2]; exact Ext.refl _); clear hw2
      go_wp2
      go_ret2
      exact givesFE_none h.out (E0.trans (E1.trans E2))
    | true =>
      have h : Hid (semO t (cl ps) (cls rs) a b = some (semF (cls rs) (a.toNat - b.toNat) (min (t.toNat - 1) (a.toNat + b.toNat) + 1 - (a.toNat - b.toNat)) rs.length)) := by unfold Hid semO; rw [hg, hwn, cls_len]; rfl
      have hw2 : inB a 0 (t - 1) = true ∧ inB b 0 64 = true := by unfold winB at hwn; simpa using hwn
      have ha := inB_yes hw2.1
      have hb := inB_yes hw2.2
      clear hw2
      obtain ⟨N, rfl⟩ : ∃ N : Nat, t = (N : Int) := ⟨t.toNat, by omega⟩
      obtain ⟨tk, rfl⟩ : ∃ n : Nat, a = (n : Int) := ⟨a.toNat, by omega⟩
      obtain ⟨re, rfl⟩ : ∃ n : Nat, b = (n : Int) := ⟨b.toNat, by omega⟩
      have hkr : ∀ k, k < N → ∀ i, i < rs.length → k < (row rs i).length := fun k hk i hi => by have := HR.out i hi; omega
      have hN : N ≤ 64 := by omega
      have hre : re ≤ 64 := by omega
      have htk : tk < N := by omega
      go_enter Try.func61, Try.ntmps61
      go_wp2_with fail
      rw [HA.out]
      go_at_call 119; refine (l04Is_any _ _ _ _ _ _ _ _ _ _ c0 c1 c2 hpw hrw hl hg).mono ?_; rintro _ w1 ⟨rfl, n1, hw1⟩; (have E1 : Ext w0 w1 := by rw [hw1]; exact (Ext.refl _).drewN _); clear hw1
      have d0 := E1.cell c0
      have d1 := E1.cell c1
      have d2 := E1.cell c2
      clear hg c0 c1 c2
      go_wp2_with fail
      go_at_call 133; refine (l04Window_any _ _ _ _ _ _ d0 ht.1 ht.2 hwn).mono ?_; rintro _ w2 ⟨rfl, hw2⟩; (have E2 : Ext w1 w2 := by rw [← hw2]; exact Ext.refl _); clear hw2
      have f0 := E2.cell d0
      have f1 := E2.cell d1
      have f2 := E2.cell d2
      clear d0 d1 d2 hwn
      go_wp2_with fail
      go_at_call 134; refine (l04Semb_any _ N tk re _ _ _ _ _ _ _ _ _ f0 f1 f2 (hpw.ext (E1.trans E2)) (hrw.ext (E1.trans E2)) hl hN hre htk rfl rfl hkr).mono ?_; rintro _ w3 ⟨r3, rfl, hr3, E3⟩
      go_wp2
      go_ret2
      exact givesFE_some h.out (by simpa using hr3) (E0.trans (E1.trans (E2.trans E3)))
end Go.Proofs.Ytncolcjjmllfeaa
