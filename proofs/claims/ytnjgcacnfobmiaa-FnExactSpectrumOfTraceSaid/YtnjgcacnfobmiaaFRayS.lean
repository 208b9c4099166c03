/- RayTo: the reference's. -/
import Derived.Test.YtnjgcacnfobmiaaGrdJ
namespace Go.Proofs.Ytnjgcacnfobmiaa
open Go.RowKit
set_option maxRecDepth 100000
set_option linter.unusedVariables false

theorem GivesFO.no {o : Option Nat} {w : World} {e : Ending} {w' : World} (h : o = none) (hg : GivesFO o w e w') : ∃ r n, e = .returned (.tuple #[.float .f32 r, .bool false]) ∧ w' = w.drewN n := by
  subst h; obtain ⟨r, n, h1, h2, h3⟩ := hg; exact ⟨r, n, h1, h3⟩
theorem GivesFO.yes {o : Option Nat} {c : Nat} {w : World} {e : Ending} {w' : World} (h : o = some c) (hg : GivesFO o w e w') : ∃ r n, e = .returned (.tuple #[.float .f32 r, .bool true]) ∧ Is .f32 r c ∧ w' = w.drewN n := by
  subst h; obtain ⟨r, n, h1, h2, h3⟩ := hg; exact ⟨r, n, h1, h2, h3⟩
theorem GivesFE.no {o : Option Nat} {w : World} {e : Ending} {w' : World} (h : o = none) (hg : GivesFE o w e w') : ∃ r, e = .returned (.tuple #[.float .f32 r, .bool false]) ∧ Ext w w' := by
  subst h; obtain ⟨r, h1, h2, h3⟩ := hg; exact ⟨r, h1, h3⟩
theorem GivesFE.yes {o : Option Nat} {c : Nat} {w : World} {e : Ending} {w' : World} (h : o = some c) (hg : GivesFE o w e w') : ∃ r, e = .returned (.tuple #[.float .f32 r, .bool true]) ∧ Is .f32 r c ∧ Ext w w' := by
  subst h; obtain ⟨r, h1, h2, h3⟩ := hg; exact ⟨r, h1, h2, h3⟩
theorem GivesFFE.no {o : Option (Nat × Nat)} {w : World} {e : Ending} {w' : World} (h : o = none) (hg : GivesFFE o w e w') : ∃ r q, e = .returned (.tuple #[.float .f32 r, .float .f32 q, .bool false]) ∧ Is .f32 r 0 ∧ Is .f32 q 0 ∧ Ext w w' := by
  subst h; obtain ⟨r, q, h1, h2, h3, h4⟩ := hg; exact ⟨r, q, h1, h2, h3, h4⟩
theorem GivesFFE.yes {o : Option (Nat × Nat)} {c : Nat × Nat} {w : World} {e : Ending} {w' : World} (h : o = some c) (hg : GivesFFE o w e w') : ∃ r q, e = .returned (.tuple #[.float .f32 r, .float .f32 q, .bool true]) ∧ Is .f32 r c.1 ∧ Is .f32 q c.2 ∧ Ext w w' := by
  subst h; obtain ⟨r, q, h1, h2, h3, h4⟩ := hg; exact ⟨r, q, h1, h2, h3, h4⟩
/-- Two floats and a Bool; the floats are known where the Bool is true. -/
def GivesFFQ (o : Option (Nat × Nat)) (w : World) (e : Ending) (w' : World) : Prop := ∃ r q n, e = .returned (.tuple #[.float .f32 r, .float .f32 q, .bool o.isSome]) ∧ (∀ x, o = some x → Is .f32 r x.1 ∧ Is .f32 q x.2) ∧ w' = w.drewN n
theorem givesFFQ_no {o : Option (Nat × Nat)} (h : o = none) {w w' : World} (r q n : Nat) (hw : w' = w.drewN n) : GivesFFQ o w (.returned (.tuple #[.float .f32 r, .float .f32 q, .bool false])) w' := by
  subst h; exact ⟨r, q, n, rfl, fun x hx => (by cases hx), hw⟩
theorem givesFFQ_yes {o : Option (Nat × Nat)} {x : Nat × Nat} (h : o = some x) {w w' : World} {r q : Nat} (n : Nat) (hr : Is .f32 r x.1) (hq : Is .f32 q x.2) (hw : w' = w.drewN n) : GivesFFQ o w (.returned (.tuple #[.float .f32 r, .float .f32 q, .bool true])) w' := by
  subst h; exact ⟨r, q, n, rfl, fun y hy => (by cases hy; exact ⟨hr, hq⟩), hw⟩
theorem GivesFFQ.no {o : Option (Nat × Nat)} {w : World} {e : Ending} {w' : World} (h : o = none) (hg : GivesFFQ o w e w') : ∃ r q n, e = .returned (.tuple #[.float .f32 r, .float .f32 q, .bool false]) ∧ w' = w.drewN n := by
  subst h; obtain ⟨r, q, n, h1, h2, h3⟩ := hg; exact ⟨r, q, n, h1, h3⟩
theorem GivesFFQ.yes {o : Option (Nat × Nat)} {c : Nat × Nat} {w : World} {e : Ending} {w' : World} (h : o = some c) (hg : GivesFFQ o w e w') : ∃ r q n, e = .returned (.tuple #[.float .f32 r, .float .f32 q, .bool true]) ∧ Is .f32 r c.1 ∧ Is .f32 q c.2 ∧ w' = w.drewN n := by
  subst h; obtain ⟨r, q, n, h1, h2, h3⟩ := hg; exact ⟨r, q, n, h1, (h2 _ rfl).1, (h2 _ rfl).2, h3⟩
theorem sinG_lay {n : Nat} {l : List Nat} {s j p : Nat} (h : j < n) : sinG n l s j p = fop .mul .f32 p (lay l j 1) := by unfold sinG spdG; rw [if_pos h]
theorem rayS_no {n : Nat} {l : List Nat} {s p j : Nat} (hc : cosO n l s j p = none) : ∀ m, j + 1 ≤ m → rayS n l s p m = none := by
  intro m
  induction m with
  | zero => intro h; omega
  | succ m ih =>
    intro h
    show (match rayS n l s p m, cosO n l s m p with | some x, some c => _ | _, _ => none) = none
    by_cases h1 : j = m
    · subst h1; rw [hc]; cases rayS n l s p j <;> rfl
    · rw [ih (by omega)]
theorem rayS_yes {n : Nat} {l : List Nat} {s p j c : Nat} {x : Nat × Nat} (hx : rayS n l s p j = some x) (hc : cosO n l s j p = some c) (hj : j < n) :
    rayS n l s p (j + 1) = some (fop .add .f32 x.1 (fop .quo .f32 (lay l j 0) (fop .mul .f32 (lay l j 1) c)), fop .add .f32 x.2 (fop .quo .f32 (fop .mul .f32 (lay l j 0) (sinG n l s j p)) c)) := by
  rw [sinG_lay hj]
  show (match rayS n l s p j, cosO n l s j p with | some x, some c => some _ | _, _ => none) = _
  rw [hx, hc]
set_option maxHeartbeats 4000000 in
theorem l02Ray_any (B : Nat) (la : Option Addr) (lc n : Nat) (ls : List Nat) (sp de : Nat) (k : Nat) (pb p : Nat) (w : World) (h0 : w.cell? ⟨B, 0, none⟩ = some (.slice la n lc)) (h1 : w.cell? ⟨B, 1, none⟩ = some (.float .f32 sp)) (h2 : w.cell? ⟨B, 2, none⟩ = some (.float .f32 de)) (hc : LR w la n ls) (hl : n ≤ 1048576) (hk : k < n) (hp : Is .f32 pb p) :
    Calls Try.prog 119 #[.pointer (some ⟨B, 0, none⟩), .int .i64 (k : Int), .float .f32 pb] w (GivesFFQ (rayG n (cl ls) (canon .f32 sp) k p) w) := by
  go_enter Try.func119, Try.ntmps119
  go_wp2
  go_loopw [9, 10, 11] (fun t q i wr => ∃ (j m tb wb : Nat) (x : Nat × Nat), j ≤ k + 1 ∧ i = .int .i64 j ∧ t = .float .f32 tb ∧ q = .float .f32 wb ∧ Hid (rayS n (cl ls) (canon .f32 sp) p j = some x) ∧ Is .f32 tb x.1 ∧ Is .f32 wb x.2 ∧ wr = w.drewN m) (fun _ _ i _ => k + 1 - (intOf i).toNat)
  case atStart => exact ⟨0, 0, 0, 0, (canon .f32 0, canon .f32 0), Nat.zero_le _, rfl, rfl, rfl, rfl, is_self, is_self, rfl⟩
  case round =>
    obtain ⟨j, m, tb, wb, x, hj, rfl, rfl, rfl, hx, ht, hw, rfl⟩ := hrel
    by_cases hlt : j ≤ k
    · have e1 : (j : Int) ≤ (k : Int) := by omega
      have hjl : j < n := by omega
      have hjn : j ≤ n := by omega
      have i0 := is_lay hc.1 hjl (j := 0) (by omega)
      have i1 := is_lay hc.1 hjl (j := 1) (by omega)
      have hc' := hc
      obtain ⟨b, off, rfl, _, q0, q1, q2, q3⟩ := hc'.at hjl
      clear hc'
      cases hco : cosO n (cl ls) (canon .f32 sp) j p with
      | none =>
        have h : Hid (rayG n (cl ls) (canon .f32 sp) k p = none) := by unfold Hid rayG; rw [rayS_no hco _ (by omega)]; rfl
        go_wp2_with (go_at_call 157; refine (l02Cos_any _ _ _ _ _ _ _ _ _ _ _ (by exact h0) (by exact h1) (by exact h2) (by exact hc) hl hjn hp).mono ?_; intro e w2 hg; obtain ⟨r, m2, rfl, hw2⟩ := GivesFO.no hco hg; (obtain rfl : w2 = w.drewN (m + m2) := by rw [hw2]; exact drewN_drewN' _ _ _); clear hg hw2)
        go_ret3
        exact givesFFQ_no h.out _ _ _ rfl
      | some c =>
        have HS := Lib.hid (rayS_yes hx.out hco hjl)
        go_wp2_with (go_at_call 157; refine (l02Cos_any _ _ _ _ _ _ _ _ _ _ _ (by exact h0) (by exact h1) (by exact h2) (by exact hc) hl hjn hp).mono ?_; intro e w2 hg; obtain ⟨cb, m2, rfl, hcb, hw2⟩ := GivesFO.yes hco hg; (obtain rfl : w2 = w.drewN (m + m2) := by rw [hw2]; exact drewN_drewN' _ _ _); clear hg hw2)
        clear hco
        refine wp_region_mix (fun _ => Drawn w) (fun _ => false) (fun _ _ => True) (by kernel_rfl) (by kernel_rfl) (by kernel_rfl) (fun _ => drawn_more _) (fun _ => (by repeat (first | exact drawn_self _ | apply drawn_more))) (fun n0 => ?_)
        repeat (first
          | (refine lx_nil ?_; intro nq)
          | (refine lx_skip rfl ?_; go_simp)
          | (refine lx_move rfl rfl rfl rfl ?_; go_simp)
          | (refine lx_assign rfl rfl rfl rfl ?_; go_simp)
          | (refine lx_bin rfl rfl rfl rfl rfl rfl (by first | assumption | exact is_ofInt _ _ | exact is_self) (by first | assumption | exact is_ofInt _ _ | exact is_self) ?_; intro r hr; go_simp)
          | (refine lx_cmp rfl rfl rfl rfl rfl rfl (by first | assumption | exact is_ofInt _ _ | exact is_self) (by first | assumption | exact is_ofInt _ _ | exact is_self) (by first | assumption | rfl) ?_; go_simp)
          | (refine lx_widen rfl rfl rfl rfl (by first | exact rfl | kernel_rfl) (by kernel_rfl) (by first | assumption | exact is_ofInt _ _ | exact is_self) ?_; intro r hr; go_simp)
          | (refine lx_valD rfl rfl (fun nn => by go_simp; rfl) ?_; go_simp))
        have HT := Lib.hid hr
        clear hr
        go_wp2
        refine wp_region_mix (fun _ => Drawn w) (fun _ => false) (fun _ v => ∃ r, v = .float .f32 r ∧ Is .f32 r (sinG n (cl ls) (canon .f32 sp) j p)) (by kernel_rfl) (by kernel_rfl) (by kernel_rfl) (fun _ => drawn_more _) (fun _ => (by repeat (first | exact drawn_self _ | apply drawn_more))) (fun n1 => ?_)
        repeat (first
          | (refine lx_nil ?_; intro nq)
          | (refine lx_skip rfl ?_; go_simp)
          | (refine lx_move rfl rfl rfl rfl ?_; go_simp)
          | (refine lx_assign rfl rfl rfl rfl ?_; go_simp)
          | (refine lx_bin rfl rfl rfl rfl rfl rfl (by first | assumption | exact is_ofInt _ _ | exact is_self) (by first | assumption | exact is_ofInt _ _ | exact is_self) ?_; intro r hr; go_simp)
          | (refine lx_cmp rfl rfl rfl rfl rfl rfl (by first | assumption | exact is_ofInt _ _ | exact is_self) (by first | assumption | exact is_ofInt _ _ | exact is_self) (by first | assumption | rfl) ?_; go_simp)
          | (refine lx_widen rfl rfl rfl rfl (by first | exact rfl | kernel_rfl) (by kernel_rfl) (by first | assumption | exact is_ofInt _ _ | exact is_self) ?_; intro r hr; go_simp)
          | (refine lx_valD rfl rfl (fun nn => by go_simp; rfl) ?_; go_simp))
        refine lx_call (args := #[.pointer (some ⟨B, 0, none⟩), .int .i64 (j : Int), .float .f32 pb]) rfl rfl (fun w' hw' => by go_simp; try rfl) (fun w' hw' => by obtain ⟨m', rfl⟩ := hw'; exact (l02Sine_any B _ _ _ _ _ _ j pb p _ (by exact h0) (by exact h1) (by exact h2) (by exact hc) hl hjn hp).mono fun e w'' ⟨r, m', h1, h2, h3⟩ => ⟨_, h1, ⟨r, rfl, h2⟩, m', h3⟩) ?_
        rintro _ ⟨sb, rfl, hs⟩
        go_simp
        repeat (first
          | (refine lx_nil ?_; intro nq)
          | (refine lx_skip rfl ?_; go_simp)
          | (refine lx_move rfl rfl rfl rfl ?_; go_simp)
          | (refine lx_assign rfl rfl rfl rfl ?_; go_simp)
          | (refine lx_bin rfl rfl rfl rfl rfl rfl (by first | assumption | exact is_ofInt _ _ | exact is_self) (by first | assumption | exact is_ofInt _ _ | exact is_self) ?_; intro r hr; go_simp)
          | (refine lx_cmp rfl rfl rfl rfl rfl rfl (by first | assumption | exact is_ofInt _ _ | exact is_self) (by first | assumption | exact is_ofInt _ _ | exact is_self) (by first | assumption | rfl) ?_; go_simp)
          | (refine lx_widen rfl rfl rfl rfl (by first | exact rfl | kernel_rfl) (by kernel_rfl) (by first | assumption | exact is_ofInt _ _ | exact is_self) ?_; intro r hr; go_simp)
          | (refine lx_valD rfl rfl (fun nn => by go_simp; rfl) ?_; go_simp))
        have HW := Lib.hid hr
        clear hr
        go_wp2
        go_roundw
        case rel => exact ⟨j + 1, _, _, _, _, by omega, by go_num, rfl, rfl, HS, HT.out, HW.out, (by first | rfl | (simp only [drewN_drewN']; rfl))⟩
        case measure => simp [intOf]; omega
    · have e1 : ¬ (j : Int) ≤ (k : Int) := by omega
      obtain rfl : j = k + 1 := by omega
      have hg : Hid (rayG n (cl ls) (canon .f32 sp) k p = fin2 (some x)) := by unfold Hid rayG; rw [hx.out]
      cases hf1 : finK .f32 x.1 with
      | false =>
        have h : Hid (rayG n (cl ls) (canon .f32 sp) k p = none) := by unfold Hid; rw [hg.out]; unfold fin2; simp only [hf1]; rfl
        go_wp2_with (go_at_call 97; refine (l01Finite_any _ _ _ ht hf1 _).mono ?_; rintro _ _ ⟨rfl, n1, rfl⟩)
        go_ret3
        exact givesFFQ_no h.out _ _ _ rfl
      | true =>
      cases hf2 : finK .f32 x.2 with
      | false =>
        have h : Hid (rayG n (cl ls) (canon .f32 sp) k p = none) := by unfold Hid; rw [hg.out]; unfold fin2; simp only [hf1, hf2]; rfl
        go_wp2_with (first | (go_at_call 97; refine (l01Finite_any _ _ _ ht hf1 _).mono ?_; rintro _ _ ⟨rfl, n1, rfl⟩) | (go_at_call 97; refine (l01Finite_any _ _ _ hw hf2 _).mono ?_; rintro _ _ ⟨rfl, n1, rfl⟩))
        go_ret3
        exact givesFFQ_no h.out _ _ _ rfl
      | true =>
        have h : Hid (rayG n (cl ls) (canon .f32 sp) k p = some x) := by unfold Hid; rw [hg.out]; unfold fin2; simp only [hf1, hf2]; rfl
        go_wp2_with (first | (go_at_call 97; refine (l01Finite_any _ _ _ ht hf1 _).mono ?_; rintro _ _ ⟨rfl, n1, rfl⟩) | (go_at_call 97; refine (l01Finite_any _ _ _ hw hf2 _).mono ?_; rintro _ _ ⟨rfl, n1, rfl⟩))
        go_ret3
        exact givesFFQ_yes h.out _ ht hw rfl
set_option maxHeartbeats 1000000 in
theorem specRay_any (la : Option Addr) (lc n : Nat) (ls : List Nat) (sp de : Nat) (k : Int) (pb p : Nat) (w : World) (hc : LR w la n ls) (hl : n ≤ 1048576) (hk1 : -9223372036854775808 ≤ k) (hk2 : k ≤ 9223372036854775807) (hp : Is .f32 pb p) :
    Calls Try.prog 59 #[.agg #[.slice la n lc, .float .f32 sp, .float .f32 de], .int .i64 k, .float .f32 pb] w (GivesFFE (rayO n (cl ls) (canon .f32 sp) (canon .f32 de) k p) w) := by
  generalize hA : w.alloc (.cells #[.slice la n lc, .float .f32 sp, .float .f32 de] 79) = w0
  have E0 : Ext w w0 := by rw [← hA]; exact (Ext.refl w).alloc _
  have c0 : w0.cell? ⟨w.heap.size, 0, none⟩ = some (.slice la n lc) := by rw [← hA]; exact boxed (Ext.refl _) rfl
  have c1 : w0.cell? ⟨w.heap.size, 1, none⟩ = some (.float .f32 sp) := by rw [← hA]; exact boxed (Ext.refl _) rfl
  have c2 : w0.cell? ⟨w.heap.size, 2, none⟩ = some (.float .f32 de) := by rw [← hA]; exact boxed (Ext.refl _) rfl
  have hcw := hc.ext E0
  have HA := Lib.hid hA
  clear hA
  cases hb : bndB n (cl ls) (canon .f32 sp) (canon .f32 de) k with
  | false =>
    have h : Hid (rayO n (cl ls) (canon .f32 sp) (canon .f32 de) k p = none) := by unfold Hid rayO; rw [hb]; rfl
    go_enter Try.func59, Try.ntmps59
    go_wp2_with fail
    rw [HA.out]
    go_wp2_with (go_at_call 117; refine (l02Bnd_any _ _ _ _ _ _ _ _ _ _ c0 c1 c2 hcw hl hb).mono ?_; rintro _ w2 ⟨rfl, m, rfl⟩)
    go_ret3
    exact givesFFE_none h.out (E0.drewN _)
  | true =>
  obtain ⟨_, hn, hk0, hkn'⟩ := bnd_parts hb
  obtain ⟨k, rfl⟩ := Int.eq_ofNat_of_zero_le hk0
  have hkn : k < n := by omega
  cases hs : slowB p with
  | false =>
    have h : Hid (rayO n (cl ls) (canon .f32 sp) (canon .f32 de) k p = none) := by unfold Hid rayO; rw [hb, hs]; rfl
    go_enter Try.func59, Try.ntmps59
    go_wp2_with fail
    rw [HA.out]
    go_wp2_with (first | (go_at_call 117; refine (l02Bnd_any _ _ _ _ _ _ _ _ _ _ c0 c1 c2 hcw hl hb).mono ?_; rintro _ w2 ⟨rfl, m, rfl⟩) | (go_at_call 118; refine (slowG_any _ _ _ hp hs _).mono ?_; rintro _ _ ⟨rfl, m2, rfl⟩))
    go_ret3
    exact givesFFE_none h.out (by repeat (first | assumption | apply Ext.drewN))
  | true =>
  cases hr : rayG n (cl ls) (canon .f32 sp) k p with
  | none =>
    have h : Hid (rayO n (cl ls) (canon .f32 sp) (canon .f32 de) k p = none) := by unfold Hid rayO; rw [hb, hs]; exact hr
    go_enter Try.func59, Try.ntmps59
    go_wp2_with fail
    rw [HA.out]
    go_wp2_with (first | (go_at_call 117; refine (l02Bnd_any _ _ _ _ _ _ _ _ _ _ c0 c1 c2 hcw hl hb).mono ?_; rintro _ w2 ⟨rfl, m, rfl⟩) | (go_at_call 118; refine (slowG_any _ _ _ hp hs _).mono ?_; rintro _ _ ⟨rfl, m2, rfl⟩) | (go_at_call 119; refine (l02Ray_any _ _ _ _ _ _ _ _ _ _ _ (by exact c0) (by exact c1) (by exact c2) (by exact hcw) hl hkn hp).mono ?_; intro e w3 hg; obtain ⟨r, q, m3, rfl, rfl⟩ := GivesFFQ.no hr hg; clear hg))
    go_ret3
    exact givesFFE_none h.out (by repeat (first | assumption | apply Ext.drewN))
  | some x =>
    have h : Hid (rayO n (cl ls) (canon .f32 sp) (canon .f32 de) k p = some x) := by unfold Hid rayO; rw [hb, hs]; exact hr
    go_enter Try.func59, Try.ntmps59
    go_wp2_with fail
    rw [HA.out]
    go_wp2_with (first | (go_at_call 117; refine (l02Bnd_any _ _ _ _ _ _ _ _ _ _ c0 c1 c2 hcw hl hb).mono ?_; rintro _ w2 ⟨rfl, m, rfl⟩) | (go_at_call 118; refine (slowG_any _ _ _ hp hs _).mono ?_; rintro _ _ ⟨rfl, m2, rfl⟩) | (go_at_call 119; refine (l02Ray_any _ _ _ _ _ _ _ _ _ _ _ (by exact c0) (by exact c1) (by exact c2) (by exact hcw) hl hkn hp).mono ?_; intro e w3 hg; obtain ⟨r, q, m3, rfl, hr1, hr2, rfl⟩ := GivesFFQ.yes hr hg; clear hg))
    go_ret3
    exact givesFFE_some h.out hr1 hr2 (by repeat (first | assumption | apply Ext.drewN))
end Go.Proofs.Ytnjgcacnfobmiaa
