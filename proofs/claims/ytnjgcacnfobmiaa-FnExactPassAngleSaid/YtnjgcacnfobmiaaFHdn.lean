/- ReflectAngle: the reference's and the program's. -/
import Derived.Test.YtnjgcacnfobmiaaCpx
import Derived.Test.YtnjgcacnfobmiaaAngF
import Derived.Deep.RegionHeld3
namespace Go.Proofs.Ytnjgcacnfobmiaa
open Go.RowKit
set_option maxRecDepth 100000
set_option linter.unusedVariables false

set_option maxHeartbeats 1000000 in
theorem l02Hard_any (B : Nat) (la : Option Addr) (lc n : Nat) (ls : List Nat) (sp de : Nat) (m : Int) (k : Nat) (w : World) (h0 : w.cell? ⟨B, 0, none⟩ = some (.slice la n lc)) (h1 : w.cell? ⟨B, 1, none⟩ = some (.float .f32 sp)) (h2 : w.cell? ⟨B, 2, none⟩ = some (.float .f32 de)) (hc : LR w la n ls) (hl : n ≤ 1048576) (hm : m = (k : Int)) (hk : k ≤ n) :
    Calls Try.prog 169 #[.pointer (some ⟨B, 0, none⟩), .int .i64 m] w (GivesF .f32 (hdG n (cl ls) (canon .f32 sp) (canon .f32 de) k) w) := by
  subst hm
  by_cases hlt : k < n
  · obtain ⟨b, off, rfl, _, q0, q1, q2, q3⟩ := hc.at hlt
    have i1 := is_lay hc.1 hlt (j := 1) (by omega)
    have i2 := is_lay hc.1 hlt (j := 2) (by omega)
    have e1 : ¬ (k : Int) = (n : Int) := by omega
    have e2 : (k : Int) < (n : Int) := by omega
    go_enter Try.func169, Try.ntmps169
    go_wp2
    refine wp_region_mix (fun _ => Drawn w) (fun _ => false) (fun _ _ => True) (by kernel_rfl) (by kernel_rfl) (by kernel_rfl) (fun _ => drawn_more _) (fun _ => (by repeat (first | exact drawn_self _ | apply drawn_more))) (fun n0 => ?_)
    repeat (first
          | (refine lx_nil ?_; intro nq)
          | (refine lx_skip rfl ?_; go_simp)
          | (refine lx_move rfl rfl rfl rfl ?_; go_simp)
          | (refine lx_assign rfl rfl rfl rfl ?_; go_simp)
          | (refine lx_bin rfl rfl rfl rfl rfl rfl (by first | assumption | exact is_ofInt _ _ | exact is_self) (by first | assumption | exact is_ofInt _ _ | exact is_self) ?_; intro r hr; go_simp)
          | (refine lx_cmp rfl rfl rfl rfl rfl rfl (by first | assumption | exact is_ofInt _ _ | exact is_self) (by first | assumption | exact is_ofInt _ _ | exact is_self) (by first | assumption | rfl) ?_; go_simp)
          | (refine lx_widen rfl rfl rfl rfl (by first | exact rfl | kernel_rfl) (by kernel_rfl) (by first | assumption | exact is_ofInt _ _ | exact is_self) ?_; intro r hr; go_simp)
          | (refine lx_valD rfl rfl (fun nn => by go_simp; rfl) ?_; go_simp))
    go_wp2
    go_ret
    refine ⟨_, _, rfl, ?_, (by first | rfl | (simp only [drewN_drewN']; rfl))⟩
    unfold hdG
    rw [if_pos hlt]
    exact hr
  · obtain rfl : k = n := by omega
    have i1 : Is .f32 sp (canon .f32 sp) := is_self
    have i2 : Is .f32 de (canon .f32 de) := is_self
    go_enter Try.func169, Try.ntmps169
    go_wp2
    refine wp_region_mix (fun _ => Drawn w) (fun _ => false) (fun _ _ => True) (by kernel_rfl) (by kernel_rfl) (by kernel_rfl) (fun _ => drawn_more _) (fun _ => (by repeat (first | exact drawn_self _ | apply drawn_more))) (fun n0 => ?_)
    repeat (first
          | (refine lx_nil ?_; intro nq)
          | (refine lx_skip rfl ?_; go_simp)
          | (refine lx_move rfl rfl rfl rfl ?_; go_simp)
          | (refine lx_assign rfl rfl rfl rfl ?_; go_simp)
          | (refine lx_bin rfl rfl rfl rfl rfl rfl (by first | assumption | exact is_ofInt _ _ | exact is_self) (by first | assumption | exact is_ofInt _ _ | exact is_self) ?_; intro r hr; go_simp)
          | (refine lx_cmp rfl rfl rfl rfl rfl rfl (by first | assumption | exact is_ofInt _ _ | exact is_self) (by first | assumption | exact is_ofInt _ _ | exact is_self) (by first | assumption | rfl) ?_; go_simp)
          | (refine lx_widen rfl rfl rfl rfl (by first | exact rfl | kernel_rfl) (by kernel_rfl) (by first | assumption | exact is_ofInt _ _ | exact is_self) ?_; intro r hr; go_simp)
          | (refine lx_valD rfl rfl (fun nn => by go_simp; rfl) ?_; go_simp))
    go_wp2
    go_ret
    refine ⟨_, _, rfl, ?_, (by first | rfl | (simp only [drewN_drewN']; rfl))⟩
    unfold hdG
    rw [if_neg hlt]
    exact hr
set_option maxHeartbeats 1000000 in
theorem hard_any (la : Option Addr) (lc n : Nat) (ls : List Nat) (sp de : Nat) (m : Int) (k : Nat) (w : World) (hc : LR w la n ls) (hl : n ≤ 1048576) (hm : m = (k : Int)) (hk : k ≤ n) :
    Calls Try.prog 174 #[.agg #[.slice la n lc, .float .f32 sp, .float .f32 de], .int .i64 m] w (GivesFX (hdG n (cl ls) (canon .f32 sp) (canon .f32 de) k) w) := by
  subst hm
  generalize hA : w.alloc (.cells #[.slice la n lc, .float .f32 sp, .float .f32 de] 79) = w0
  have E0 : Ext w w0 := by rw [← hA]; exact (Ext.refl w).alloc _
  have c0 : w0.cell? ⟨w.heap.size, 0, none⟩ = some (.slice la n lc) := by rw [← hA]; exact boxed (Ext.refl _) rfl
  have c1 : w0.cell? ⟨w.heap.size, 1, none⟩ = some (.float .f32 sp) := by rw [← hA]; exact boxed (Ext.refl _) rfl
  have c2 : w0.cell? ⟨w.heap.size, 2, none⟩ = some (.float .f32 de) := by rw [← hA]; exact boxed (Ext.refl _) rfl
  have hcw := hc.ext E0
  have HA := Lib.hid hA
  clear hA
  by_cases hlt : k < n
  · obtain ⟨b, off, rfl, _, q0, q1, q2, q3⟩ := hcw.at hlt
    have i1 := is_lay hc.1 hlt (j := 1) (by omega)
    have i2 := is_lay hc.1 hlt (j := 2) (by omega)
    have e2 : (k : Int) < (n : Int) := by omega
    go_enter Try.func174, Try.ntmps174
    go_wp2_with fail
    rw [HA.out]
    go_wp2_with (go_at_call 136; refine (lengthL_any _ _ _ _).mono ?_; rintro _ _ ⟨rfl, rfl⟩)
    refine wp_region_mix (fun _ => Drawn w0) (fun _ => false) (fun _ _ => True) (by kernel_rfl) (by kernel_rfl) (by kernel_rfl) (fun _ => drawn_more _) (fun _ => (by repeat (first | exact drawn_self _ | apply drawn_more))) (fun n0 => ?_)
    repeat (first
          | (refine lx_nil ?_; intro nq)
          | (refine lx_skip rfl ?_; go_simp)
          | (refine lx_move rfl rfl rfl rfl ?_; go_simp)
          | (refine lx_assign rfl rfl rfl rfl ?_; go_simp)
          | (refine lx_bin rfl rfl rfl rfl rfl rfl (by first | assumption | exact is_ofInt _ _ | exact is_self) (by first | assumption | exact is_ofInt _ _ | exact is_self) ?_; intro r hr; go_simp)
          | (refine lx_cmp rfl rfl rfl rfl rfl rfl (by first | assumption | exact is_ofInt _ _ | exact is_self) (by first | assumption | exact is_ofInt _ _ | exact is_self) (by first | assumption | rfl) ?_; go_simp)
          | (refine lx_widen rfl rfl rfl rfl (by first | exact rfl | kernel_rfl) (by kernel_rfl) (by first | assumption | exact is_ofInt _ _ | exact is_self) ?_; intro r hr; go_simp)
          | (refine lx_valD rfl rfl (fun nn => by go_simp; rfl) ?_; go_simp))
    go_wp2
    go_ret
    refine ⟨_, rfl, ?_, (by repeat (first | exact E0 | apply Ext.drewN))⟩
    unfold hdG
    rw [if_pos hlt]
    exact hr
  · have e1 : ¬ (k : Int) < (n : Int) := by omega
    have i1 : Is .f32 sp (canon .f32 sp) := is_self
    have i2 : Is .f32 de (canon .f32 de) := is_self
    go_enter Try.func174, Try.ntmps174
    go_wp2_with fail
    rw [HA.out]
    go_wp2_with (first | (go_at_call 136; refine (lengthL_any _ _ _ _).mono ?_; rintro _ _ ⟨rfl, rfl⟩) | (refine wl_bin rfl rfl rfl rfl rfl i2 i1 ?_; intro r n1 hr))
    go_ret
    refine ⟨_, rfl, ?_, (by repeat (first | exact E0 | apply Ext.drewN))⟩
    unfold hdG
    rw [if_neg hlt]
    exact hr
/-- A complex number and a Bool; the number is known where the Bool is true. -/
def GivesCQ (o : Option (Nat × Nat)) (w : World) (e : Ending) (w' : World) : Prop := ∃ r q n, e = .returned (.tuple #[.complex .f32 r q, .bool o.isSome]) ∧ (∀ x, o = some x → Is .f32 r x.1 ∧ Is .f32 q x.2) ∧ w' = w.drewN n
theorem givesCQ_no {o : Option (Nat × Nat)} (h : o = none) {w w' : World} (r q n : Nat) (hw : w' = w.drewN n) : GivesCQ o w (.returned (.tuple #[.complex .f32 r q, .bool false])) w' := by
  subst h; exact ⟨r, q, n, rfl, fun x hx => (by cases hx), hw⟩
theorem givesCQ_yes {o : Option (Nat × Nat)} {x : Nat × Nat} (h : o = some x) {w w' : World} {r q : Nat} (n : Nat) (hr : Is .f32 r x.1) (hq : Is .f32 q x.2) (hw : w' = w.drewN n) : GivesCQ o w (.returned (.tuple #[.complex .f32 r q, .bool true])) w' := by
  subst h; exact ⟨r, q, n, rfl, fun y hy => (by cases hy; exact ⟨hr, hq⟩), hw⟩
theorem GivesCQ.no {o : Option (Nat × Nat)} {w : World} {e : Ending} {w' : World} (h : o = none) (hg : GivesCQ o w e w') : ∃ r q n, e = .returned (.tuple #[.complex .f32 r q, .bool false]) ∧ w' = w.drewN n := by
  subst h; obtain ⟨r, q, n, h1, h2, h3⟩ := hg; exact ⟨r, q, n, h1, h3⟩
theorem GivesCQ.yes {o : Option (Nat × Nat)} {c : Nat × Nat} {w : World} {e : Ending} {w' : World} (h : o = some c) (hg : GivesCQ o w e w') : ∃ r q n, e = .returned (.tuple #[.complex .f32 r q, .bool true]) ∧ Is .f32 r c.1 ∧ Is .f32 q c.2 ∧ w' = w.drewN n := by
  subst h; obtain ⟨r, q, n, h1, h2, h3⟩ := hg; exact ⟨r, q, n, h1, (h2 _ rfl).1, (h2 _ rfl).2, h3⟩
theorem angG_eq {n k p c : Nat} {l : List Nat} {s d : Nat} (hc : cosO n l s k p = some c) (z : Nat × Nat) (hz : bhdC (sinG n l s (k + 1) p) = z) :
    angG n l s d k p = cfinO true (angZ c (hdG n l s d (k + 1)) z (hdG n l s d k)) := by
  subst hz
  unfold angG
  rw [hc]
  rfl
theorem scaleS2_any (a b h s t u : Nat) (w : World) (ha : Is .f32 a s) (hb : Is .f32 b t) (hh : Is .f32 h u) : Calls Try.prog 146 #[.complex .f32 a b, .float .f32 h] w (GivesC (fop .mul .f32 s u, fop .mul .f32 t u) w) := scaleS_any a b h (s, t) u w ha hb hh
theorem scaleI2_any (a b h s t u : Nat) (w : World) (ha : Is .f32 a s) (hb : Is .f32 b t) (hh : Is .f32 h u) : Calls Try.prog 149 #[.complex .f32 a b, .float .f32 h] w (GivesC (fop .mul .f32 s u, fop .mul .f32 t u) w) := scaleI_any a b h (s, t) u w ha hb hh
end Go.Proofs.Ytnjgcacnfobmiaa
