/- HeadTime: the reference's and the program's. -/
import Derived.Test.YtnjgcacnfobmiaaFRayI
namespace Go.Proofs.Ytnjgcacnfobmiaa
open Go.RowKit
set_option maxRecDepth 100000
set_option linter.unusedVariables false

theorem hedS_no {n : Nat} {l : List Nat} {s p y j : Nat} (hc : cosO n l s j p = none) : ∀ m, j + 1 ≤ m → hedS n l s p y m = none := by
  intro m
  induction m with
  | zero => intro h; omega
  | succ m ih =>
    intro h
    show (match hedS n l s p y m, cosO n l s m p with | some x, some c => _ | _, _ => none) = none
    by_cases h1 : j = m
    · subst h1; rw [hc]; cases hedS n l s p y j <;> rfl
    · rw [ih (by omega)]
theorem hedS_yes {n : Nat} {l : List Nat} {s p y j c : Nat} {x : Nat × Nat} (hx : hedS n l s p y j = some x) (hc : cosO n l s j p = some c) (hj : j < n) :
    hedS n l s p y (j + 1) = some (fop .add .f32 x.1 (fop .mul .f32 (canon .f32 1073741824) (fop .quo .f32 (fop .mul .f32 (lay l j 0) c) (lay l j 1))), fop .add .f32 x.2 (fop .quo .f32 (fop .mul .f32 (lay l j 0) (sinG n l s j p)) c)) := by
  rw [sinG_lay hj]
  show (match hedS n l s p y j, cosO n l s j p with | some x, some c => some _ | _, _ => none) = _
  rw [hx, hc]
theorem hedG_no {n : Nat} {l : List Nat} {s y j k : Nat} (hc : cosO n l s j (hedP n l s k) = none) (h : j ≤ k) : hedG n l s k y = none := by
  unfold hedG; rw [hedS_no hc _ (by omega)]
theorem hedG_end {n : Nat} {l : List Nat} {s y k : Nat} {x : Nat × Nat} (hx : hedS n l s (hedP n l s k) y (k + 1) = some x) : hedG n l s k y = if fcmp .leq .f32 (fop .mul .f32 (canon .f32 1073741824) x.2) y && finK .f32 x.1 then some x.1 else none := by
  unfold hedG; rw [hx]
theorem lay_pos {n j : Nat} {l : List Nat} {s d : Nat} (hg : grdB n l s d = true) (hj : j < n) : Pos (lay l j 0) ∧ Pos (lay l j 1) := by
  rw [grdB_eq] at hg
  simp only [Bool.and_eq_true] at hg
  have h := layAll_at hj hg.2.2.2
  unfold layB at h
  simp only [Bool.and_eq_true] at h
  exact ⟨hardB_pos h.1, hardB_pos h.2.1⟩
theorem spd_pos {n k : Nat} {l : List Nat} {s d : Nat} (hg : grdB n l s d = true) : Pos (spdG n l s k) := by
  unfold spdG
  split
  · rename_i h; exact (lay_pos hg h).2
  · rw [grdB_eq] at hg
    simp only [Bool.and_eq_true] at hg
    exact hardB_pos hg.2.1
theorem hedP_nn {n k : Nat} {l : List Nat} {s d : Nat} (hg : grdB n l s d = true) : hedP n l s k ≤ inf .f32 := quo_one (spd_pos hg)
theorem hedS_nn {n : Nat} {l : List Nat} {s d p y : Nat} (hg : grdB n l s d = true) (hp : p ≤ inf .f32) : ∀ j, j ≤ n → ∀ x, hedS n l s p y j = some x → x.2 ≤ inf .f32 := by
  intro j
  induction j with
  | zero => intro _ x h; injection h with h; subst h; show canon .f32 0 ≤ _; decide +kernel
  | succ j ih =>
    intro hj x h
    cases hx : hedS n l s p y j with
    | none => unfold hedS at h; rw [hx] at h; cases h
    | some x0 =>
      cases hco : cosO n l s j p with
      | none => rw [hedS_no hco _ (Nat.le_refl _)] at h; cases h
      | some c =>
        rw [hedS_yes hx hco (by omega)] at h
        injection h with h
        subst h
        have hl := lay_pos hg (show j < n by omega)
        unfold cosO at hco
        cases hq : fcmp .lss .f32 (sinG n l s j p) (canon .f32 1065353216) with
        | false => rw [hq] at hco; cases hco
        | true =>
          rw [hq] at hco
          injection hco with hco
          subst hco
          rw [sinG_lay (show j < n by omega)] at hq ⊢
          exact add_nn (ih (by omega) x0 hx) (way_nn hl.1 hp hl.2 hq)
theorem l02Speed1_any (B : Nat) (la : Option Addr) (lc n : Nat) (ls : List Nat) (sp de : Nat) (k : Nat) (w : World) (h0 : w.cell? ⟨B, 0, none⟩ = some (.slice la n lc)) (h1 : w.cell? ⟨B, 1, none⟩ = some (.float .f32 sp)) (h2 : w.cell? ⟨B, 2, none⟩ = some (.float .f32 de)) (hc : LR w la n ls) (hl : n ≤ 1048576) (hk : k < n) :
    Calls Try.prog 161 #[.pointer (some ⟨B, 0, none⟩), .int .i64 ((k : Int) + 1)] w (GivesF .f32 (spdG n (cl ls) (canon .f32 sp) (k + 1)) w) := by
  have h := l02Speed_any B la lc n ls sp de (k + 1) w h0 h1 h2 hc hl hk
  rw [show ((k + 1 : Nat) : Int) = (k : Int) + 1 by omega] at h
  exact h
theorem speed1_any (la : Option Addr) (lc n : Nat) (ls : List Nat) (sp de : Nat) (k : Nat) (w : World) (hc : LR w la n ls) (hl : n ≤ 1048576) (hk : k < n) :
    Calls Try.prog 131 #[.agg #[.slice la n lc, .float .f32 sp, .float .f32 de], .int .i64 ((k : Int) + 1)] w (GivesFX (spdG n (cl ls) (canon .f32 sp) (k + 1)) w) := by
  have h := speed_any la lc n ls sp de (k + 1) w hc hl hk
  rw [show ((k + 1 : Nat) : Int) = (k : Int) + 1 by omega] at h
  exact h
set_option maxHeartbeats 4000000 in
theorem l02Head_any (B : Nat) (la : Option Addr) (lc n : Nat) (ls : List Nat) (sp de : Nat) (k : Nat) (yb y : Nat) (w : World) (h0 : w.cell? ⟨B, 0, none⟩ = some (.slice la n lc)) (h1 : w.cell? ⟨B, 1, none⟩ = some (.float .f32 sp)) (h2 : w.cell? ⟨B, 2, none⟩ = some (.float .f32 de)) (hc : LR w la n ls) (hl : n ≤ 1048576) (hk : k < n) (hy : Is .f32 yb y) :
    Calls Try.prog 130 #[.pointer (some ⟨B, 0, none⟩), .int .i64 (k : Int), .float .f32 yb] w (GivesFO (hedG n (cl ls) (canon .f32 sp) k y) w) := by
  go_enter Try.func130, Try.ntmps130
  go_wp2_with (first | (go_at_call 161; refine (l02Speed1_any _ _ _ _ _ _ _ _ _ (by exact h0) (by exact h1) (by exact h2) (by exact hc) hl hk).mono ?_; rintro _ w1 ⟨sb, m, rfl, hs, rfl⟩) | (refine wl_bin rfl rfl rfl rfl rfl is_self hs ?_; intro pb n1 hp; clear hs; (replace hp : Is .f32 pb (hedP n (cl ls) (canon .f32 sp) k) := hp)) | (refine wl_bin rfl rfl rfl rfl rfl hy hp ?_; intro tb0 n2 htb))
  go_loopw [9, 10, 11] (fun t q i wr => ∃ (j m tb wb : Nat) (x : Nat × Nat), j ≤ k + 1 ∧ i = .int .i64 j ∧ t = .float .f32 tb ∧ q = .float .f32 wb ∧ Hid (hedS n (cl ls) (canon .f32 sp) (hedP n (cl ls) (canon .f32 sp) k) y j = some x) ∧ Is .f32 tb x.1 ∧ Is .f32 wb x.2 ∧ wr = w.drewN m) (fun _ _ i _ => k + 1 - (intOf i).toNat)
  case atStart => exact ⟨0, _, tb0, 0, (fop .mul .f32 y (hedP n (cl ls) (canon .f32 sp) k), canon .f32 0), Nat.zero_le _, rfl, rfl, rfl, rfl, htb, is_self, (by first | rfl | (simp only [drewN_drewN']; rfl))⟩
  case round =>
    obtain ⟨j, m, tb, wb, x, hj, rfl, rfl, rfl, hx, ht, hw, rfl⟩ := hrel
    clear htb
    by_cases hlt : j ≤ k
    · have e1 : (j : Int) ≤ (k : Int) := by omega
      have hjl : j < n := by omega
      have hjn : j ≤ n := by omega
      have i0 := is_lay hc.1 hjl (j := 0) (by omega)
      have i1 := is_lay hc.1 hjl (j := 1) (by omega)
      have hc' := hc
      obtain ⟨b, off, rfl, _, q0, q1, q2, q3⟩ := hc'.at hjl
      clear hc'
      cases hco : cosO n (cl ls) (canon .f32 sp) j (hedP n (cl ls) (canon .f32 sp) k) with
      | none =>
        have h : Hid (hedG n (cl ls) (canon .f32 sp) k y = none) := by unfold Hid; exact hedG_no hco hlt
        go_wp2_with (go_at_call 157; refine (l02Cos_any _ _ _ _ _ _ _ _ _ _ _ (by exact h0) (by exact h1) (by exact h2) (by exact hc) hl hjn hp).mono ?_; intro e w2 hg; obtain ⟨r, m2, rfl, hw2⟩ := GivesFO.no hco hg; (obtain rfl : w2 = w.drewN (m + m2) := by rw [hw2]; exact drewN_drewN' _ _ _); clear hg hw2)
        go_ret2
        exact givesFO_none h.out
      | some c =>
        have HS := Lib.hid (hedS_yes hx.out hco hjl)
        go_wp2_with (go_at_call 157; refine (l02Cos_any _ _ _ _ _ _ _ _ _ _ _ (by exact h0) (by exact h1) (by exact h2) (by exact hc) hl hjn hp).mono ?_; intro e w2 hg; obtain ⟨cb, m2, rfl, hcb, hw2⟩ := GivesFO.yes hco hg; (obtain rfl : w2 = w.drewN (m + m2) := by rw [hw2]; exact drewN_drewN' _ _ _); clear hg hw2)
        clear hco
        refine wp_region_mix (fun _ => Drawn w) (fun _ => false) (fun _ _ => True) (by kernel_rfl) (by kernel_rfl) (by kernel_rfl) (fun _ => drawn_more _) (fun _ => (by repeat (first | exact drawn_self _ | apply drawn_more))) (fun n0 => ?_)
        repeat (first
          | (refine lx_nil ?_; intro nq)
          | (refine lx_skip rfl ?_; go_simp)
          | (refine lx_move rfl rfl rfl rfl ?_; go_simp)
          | (refine lx_assign rfl rfl rfl rfl ?_; go_simp)
          | (refine lx_bin rfl rfl rfl rfl rfl rfl (by first | assumption | exact is_ofInt _ _ | exact is_self) (by first | assumption | exact is_ofInt _ _ | exact is_self) ?_; intro r hr; go_simp)
          | (refine lx_cmp rfl rfl rfl rfl rfl rfl (by first | assumption | exact is_ofInt _ _ | exact is_self) (by first | assumption | exact is_ofInt _ _ | exact is_self) (by first | assumption | rfl) ?_; go_simp)
          | (refine lx_widen rfl rfl rfl rfl (by first | exact rfl | kernel_rfl) (by kernel_rfl) (by first | assumption | exact is_ofInt _ _ | exact is_self) ?_; intro r hr; go_simp)
          | (refine lx_valD rfl rfl (fun nn => by go_simp; rfl) ?_; go_simp))
        have HT := Lib.hid hr
        clear hr
        go_wp2
        refine wp_region_mix (fun _ => Drawn w) (fun _ => false) (fun _ v => ∃ r, v = .float .f32 r ∧ Is .f32 r (sinG n (cl ls) (canon .f32 sp) j (hedP n (cl ls) (canon .f32 sp) k))) (by kernel_rfl) (by kernel_rfl) (by kernel_rfl) (fun _ => drawn_more _) (fun _ => (by repeat (first | exact drawn_self _ | apply drawn_more))) (fun n1 => ?_)
        repeat (first
          | (refine lx_nil ?_; intro nq)
          | (refine lx_skip rfl ?_; go_simp)
          | (refine lx_move rfl rfl rfl rfl ?_; go_simp)
          | (refine lx_assign rfl rfl rfl rfl ?_; go_simp)
          | (refine lx_bin rfl rfl rfl rfl rfl rfl (by first | assumption | exact is_ofInt _ _ | exact is_self) (by first | assumption | exact is_ofInt _ _ | exact is_self) ?_; intro r hr; go_simp)
          | (refine lx_cmp rfl rfl rfl rfl rfl rfl (by first | assumption | exact is_ofInt _ _ | exact is_self) (by first | assumption | exact is_ofInt _ _ | exact is_self) (by first | assumption | rfl) ?_; go_simp)
          | (refine lx_widen rfl rfl rfl rfl (by first | exact rfl | kernel_rfl) (by kernel_rfl) (by first | assumption | exact is_ofInt _ _ | exact is_self) ?_; intro r hr; go_simp)
          | (refine lx_valD rfl rfl (fun nn => by go_simp; rfl) ?_; go_simp))
        refine lx_call (args := #[.pointer (some ⟨B, 0, none⟩), .int .i64 (j : Int), .float .f32 pb]) rfl rfl (fun w' hw' => by go_simp; try rfl) (fun w' hw' => by obtain ⟨m', rfl⟩ := hw'; exact (l02Sine_any B _ _ _ _ _ _ j pb _ _ (by exact h0) (by exact h1) (by exact h2) (by exact hc) hl hjn hp).mono fun e w'' ⟨r, m', h1, h2, h3⟩ => ⟨_, h1, ⟨r, rfl, h2⟩, m', h3⟩) ?_
        rintro _ ⟨sb, rfl, hs⟩
        go_simp
        repeat (first
          | (refine lx_nil ?_; intro nq)
          | (refine lx_skip rfl ?_; go_simp)
          | (refine lx_move rfl rfl rfl rfl ?_; go_simp)
          | (refine lx_assign rfl rfl rfl rfl ?_; go_simp)
          | (refine lx_bin rfl rfl rfl rfl rfl rfl (by first | assumption | exact is_ofInt _ _ | exact is_self) (by first | assumption | exact is_ofInt _ _ | exact is_self) ?_; intro r hr; go_simp)
          | (refine lx_cmp rfl rfl rfl rfl rfl rfl (by first | assumption | exact is_ofInt _ _ | exact is_self) (by first | assumption | exact is_ofInt _ _ | exact is_self) (by first | assumption | rfl) ?_; go_simp)
          | (refine lx_widen rfl rfl rfl rfl (by first | exact rfl | kernel_rfl) (by kernel_rfl) (by first | assumption | exact is_ofInt _ _ | exact is_self) ?_; intro r hr; go_simp)
          | (refine lx_valD rfl rfl (fun nn => by go_simp; rfl) ?_; go_simp))
        have HW := Lib.hid hr
        clear hr
        go_wp2
        go_roundw
        case rel => exact ⟨j + 1, _, _, _, _, by omega, by go_num, rfl, rfl, HS, HT.out, HW.out, (by first | rfl | (simp only [drewN_drewN']; rfl))⟩
        case measure => simp [intOf]; omega
    · have e1 : ¬ (j : Int) ≤ (k : Int) := by omega
      obtain rfl : j = k + 1 := by omega
      have hg := hedG_end hx.out
      cases hq : fcmp .leq .f32 (fop .mul .f32 (canon .f32 1073741824) x.2) y with
      | false =>
        have h : Hid (hedG n (cl ls) (canon .f32 sp) k y = none) := by unfold Hid; rw [hg, hq]; rfl
        clear hg
        go_wp2_with (first | (refine wl_bin rfl rfl rfl rfl rfl is_self hw ?_; intro t1 n1 ht1) | (refine wl_cmp rfl rfl rfl rfl rfl ht1 hy hq ?_))
        go_ret2
        exact givesFO_none h.out
      | true =>
        have h : Hid (hedG n (cl ls) (canon .f32 sp) k y = finO1 x.1) := by unfold Hid; rw [hg, hq]; rfl
        clear hg
        go_wp2_with (first | (refine wl_bin rfl rfl rfl rfl rfl is_self hw ?_; intro t1 n1 ht1) | (refine wl_cmp rfl rfl rfl rfl rfl ht1 hy hq ?_) | (go_at_call 162; refine (numG_any _ _ ht _).mono ?_; rintro _ w3 ⟨r3, m3, rfl, hr3, rfl⟩))
        go_ret2
        exact ⟨r3, _, by rw [h.out]; rfl, by rw [h.out]; exact hr3, (by first | rfl | (simp only [drewN_drewN']; rfl))⟩
set_option maxHeartbeats 1000000 in
theorem specHead_any (la : Option Addr) (lc n : Nat) (ls : List Nat) (sp de : Nat) (k : Int) (yb y : Nat) (w : World) (hc : LR w la n ls) (hl : n ≤ 1048576) (hk1 : -9223372036854775808 ≤ k) (hk2 : k ≤ 9223372036854775807) (hy : Is .f32 yb y) :
    Calls Try.prog 67 #[.agg #[.slice la n lc, .float .f32 sp, .float .f32 de], .int .i64 k, .float .f32 yb] w (GivesFE (hedO n (cl ls) (canon .f32 sp) (canon .f32 de) k y) w) := by
  generalize hA : w.alloc (.cells #[.slice la n lc, .float .f32 sp, .float .f32 de] 79) = w0
  have E0 : Ext w w0 := by rw [← hA]; exact (Ext.refl w).alloc _
  have c0 : w0.cell? ⟨w.heap.size, 0, none⟩ = some (.slice la n lc) := by rw [← hA]; exact boxed (Ext.refl _) rfl
  have c1 : w0.cell? ⟨w.heap.size, 1, none⟩ = some (.float .f32 sp) := by rw [← hA]; exact boxed (Ext.refl _) rfl
  have c2 : w0.cell? ⟨w.heap.size, 2, none⟩ = some (.float .f32 de) := by rw [← hA]; exact boxed (Ext.refl _) rfl
  have hcw := hc.ext E0
  have HA := Lib.hid hA
  clear hA
  cases hb : bndB n (cl ls) (canon .f32 sp) (canon .f32 de) k with
  | false =>
    have h : Hid (hedO n (cl ls) (canon .f32 sp) (canon .f32 de) k y = none) := by unfold Hid hedO; rw [hb]; rfl
    go_enter Try.func67, Try.ntmps67
    go_wp2_with fail
    rw [HA.out]
    go_wp2_with (go_at_call 117; refine (l02Bnd_any _ _ _ _ _ _ _ _ _ _ c0 c1 c2 hcw hl hb).mono ?_; rintro _ w2 ⟨rfl, m, rfl⟩)
    go_ret2
    exact givesFE_none h.out (E0.drewN _)
  | true =>
  obtain ⟨_, hn, hk0, hkn'⟩ := bnd_parts hb
  obtain ⟨k, rfl⟩ := Int.eq_ofNat_of_zero_le hk0
  have hkn : k < n := by omega
  cases hs : wayB y with
  | false =>
    have h : Hid (hedO n (cl ls) (canon .f32 sp) (canon .f32 de) k y = none) := by unfold Hid hedO; rw [hb, hs]; rfl
    go_enter Try.func67, Try.ntmps67
    go_wp2_with fail
    rw [HA.out]
    go_wp2_with (first | (go_at_call 117; refine (l02Bnd_any _ _ _ _ _ _ _ _ _ _ c0 c1 c2 hcw hl hb).mono ?_; rintro _ w2 ⟨rfl, m, rfl⟩) | (go_at_call 126; refine (wayG_any _ _ _ hy hs _).mono ?_; rintro _ _ ⟨rfl, m2, rfl⟩))
    go_ret2
    exact givesFE_none h.out (by repeat (first | assumption | apply Ext.drewN))
  | true =>
    have h : Hid (hedO n (cl ls) (canon .f32 sp) (canon .f32 de) k y = hedG n (cl ls) (canon .f32 sp) k y) := by unfold Hid hedO; rw [hb, hs]; rfl
    go_enter Try.func67, Try.ntmps67
    go_wp2_with fail
    rw [HA.out]
    go_wp2_with (first | (go_at_call 117; refine (l02Bnd_any _ _ _ _ _ _ _ _ _ _ c0 c1 c2 hcw hl hb).mono ?_; rintro _ w2 ⟨rfl, m, rfl⟩) | (go_at_call 126; refine (wayG_any _ _ _ hy hs _).mono ?_; rintro _ _ ⟨rfl, m2, rfl⟩) | (go_at_call 130; refine (l02Head_any _ _ _ _ _ _ _ _ _ _ _ (by exact c0) (by exact c1) (by exact c2) (by exact hcw) hl hkn hy).mono ?_; rintro e w3 ⟨r, m3, rfl, hr, rfl⟩))
    go_ret2
    exact ⟨r, by rw [h.out]; rfl, by rw [h.out]; exact hr, (by repeat (first | assumption | apply Ext.drewN))⟩
theorem hed_impl {n k : Nat} {l : List Nat} {s d y : Nat} {x : Nat × Nat} (hg : grdB n l s d = true) (hk : k < n) (hs : wayB y = true) (hx : hedS n l s (hedP n l s k) y (k + 1) = some x) :
    hedG n l s k y = finB1 (!fcmp .gtr .f32 (fop .mul .f32 (canon .f32 1073741824) x.2) y) x.1 := by
  unfold wayB at hs
  simp only [Bool.and_eq_true] at hs
  rw [hedG_end hx, least_same (hedS_nn hg (hedP_nn hg) _ hk x hx) hs.1]
  unfold finB1 finO1
  cases (!fcmp .gtr .f32 (fop .mul .f32 (canon .f32 1073741824) x.2) y) <;> rfl
set_option maxHeartbeats 4000000 in
theorem implHead_any (la : Option Addr) (lc n : Nat) (ls : List Nat) (sp de : Nat) (k : Int) (yb y : Nat) (w : World) (hc : LR w la n ls) (hl : n ≤ 1048576) (hcap : n ≤ lc) (hk1 : -9223372036854775808 ≤ k) (hk2 : k ≤ 9223372036854775807) (hy : Is .f32 yb y) :
    Calls Try.prog 68 #[.agg #[.slice la n lc, .float .f32 sp, .float .f32 de], .int .i64 k, .float .f32 yb] w (GivesFE (hedO n (cl ls) (canon .f32 sp) (canon .f32 de) k y) w) := by
  generalize hA : w.alloc (.cells #[.slice la n lc, .float .f32 sp, .float .f32 de] 79) = w0
  have E0 : Ext w w0 := by rw [← hA]; exact (Ext.refl w).alloc _
  have c0 : w0.cell? ⟨w.heap.size, 0, none⟩ = some (.slice la n lc) := by rw [← hA]; exact boxed (Ext.refl _) rfl
  have c1 : w0.cell? ⟨w.heap.size, 1, none⟩ = some (.float .f32 sp) := by rw [← hA]; exact boxed (Ext.refl _) rfl
  have c2 : w0.cell? ⟨w.heap.size, 2, none⟩ = some (.float .f32 de) := by rw [← hA]; exact boxed (Ext.refl _) rfl
  have hcw := hc.ext E0
  have HA := Lib.hid hA
  clear hA
  cases hb : bndB n (cl ls) (canon .f32 sp) (canon .f32 de) k with
  | false =>
    have h : Hid (hedO n (cl ls) (canon .f32 sp) (canon .f32 de) k y = none) := by unfold Hid hedO; rw [hb]; rfl
    go_enter Try.func68, Try.ntmps68
    go_wp2_with fail
    rw [HA.out]
    go_wp2_with (go_at_call 121; refine (isBnd_any _ _ _ _ _ _ _ _ _ hcw hl hb).mono ?_; rintro _ w1 ⟨rfl, E1⟩; (have c0 := E1.cell c0); (have c1 := E1.cell c1); (have c2 := E1.cell c2))
    go_ret2
    exact givesFE_none h.out (E0.trans E1)
  | true =>
  obtain ⟨hgr, hn, hk0, hkn'⟩ := bnd_parts hb
  obtain ⟨k, rfl⟩ := Int.eq_ofNat_of_zero_le hk0
  have hkn : k < n := by omega
  cases hs : wayB y with
  | false =>
    have h : Hid (hedO n (cl ls) (canon .f32 sp) (canon .f32 de) k y = none) := by unfold Hid hedO; rw [hb, hs]; rfl
    go_enter Try.func68, Try.ntmps68
    go_wp2_with fail
    rw [HA.out]
    go_wp2_with (first | (go_at_call 121; refine (isBnd_any _ _ _ _ _ _ _ _ _ hcw hl hb).mono ?_; rintro _ w1 ⟨rfl, E1⟩; (have c0 := E1.cell c0); (have c1 := E1.cell c1); (have c2 := E1.cell c2)) | (go_at_call 129; refine (nonNegG_any _ _ _ hy hs _).mono ?_; rintro _ _ ⟨rfl, m2, rfl⟩))
    go_ret2
    exact givesFE_none h.out (E0.trans (E1.drewN _))
  | true =>
    have hO : Hid (hedO n (cl ls) (canon .f32 sp) (canon .f32 de) k y = hedG n (cl ls) (canon .f32 sp) k y) := by unfold Hid hedO; rw [hb, hs]; rfl
    have HI := Lib.hid (fun x => hed_impl (x := x) hgr hkn hs)
    obtain ⟨b, off, rfl, _⟩ := hc.at hkn
    have e1 : (k : Int) + 1 ≤ (lc : Int) := by omega
    go_enter Try.func68, Try.ntmps68
    go_wp2_with fail
    rw [HA.out]
    go_wp2_with (first | (go_at_call 121; refine (isBnd_any _ _ _ _ _ _ _ _ _ hcw hl hb).mono ?_; rintro _ w1 ⟨rfl, E1⟩; (have c0 := E1.cell c0); (have c1 := E1.cell c1); (have c2 := E1.cell c2)) | (go_at_call 129; refine (nonNegG_any _ _ _ hy hs _).mono ?_; rintro _ _ ⟨rfl, m2, rfl⟩) | (go_at_call 131; refine (speed1_any _ _ _ _ _ _ _ _ (by exact (hcw.ext E1).drewN _) hl hkn).mono ?_; rintro _ w2 ⟨sb, rfl, hs2, E2⟩; (have c0 := E2.cell c0); (have c1 := E2.cell c1); (have c2 := E2.cell c2)) | (refine wl_bin rfl rfl rfl rfl rfl is_self hs2 ?_; intro pb n1 hp; clear hs2; (replace hp : Is .f32 pb (hedP n (cl ls) (canon .f32 sp) k) := hp)) | (refine wl_bin rfl rfl rfl rfl rfl hy hp ?_; intro tb0 n2 htb))
    have EW : Ext w0 w2 := E1.trans (Ext.trans ((Ext.refl _).drewN _) E2)
    have hcw2 := hcw.ext EW
    clear hb hgr hs hcw
    have hcw := hcw2
    clear hcw2
    go_loopw [9, 10, 38] (fun t q i wr => ∃ (j tb wb : Nat) (x : Nat × Nat), j ≤ k + 1 ∧ i = .int .i64 j ∧ t = .float .f32 tb ∧ q = .float .f32 wb ∧ Hid (hedS n (cl ls) (canon .f32 sp) (hedP n (cl ls) (canon .f32 sp) k) y j = some x) ∧ Is .f32 tb x.1 ∧ Is .f32 wb x.2 ∧ Ext w2 wr) (fun _ _ i _ => k + 1 - (intOf i).toNat)
    case atStart => exact ⟨0, tb0, 0, (fop .mul .f32 y (hedP n (cl ls) (canon .f32 sp) k), canon .f32 0), Nat.zero_le _, rfl, rfl, rfl, rfl, htb, is_self, (by repeat (first | exact Ext.refl _ | apply Ext.drewN))⟩
    case round =>
      obtain ⟨j, tb, wb, x, hj, rfl, rfl, rfl, hx, ht, hw, hE⟩ := hrel
      clear htb
      by_cases hlt : j < k + 1
      · have hjl : j < n := by omega
        have hjn : j ≤ n := by omega
        have i0 := is_lay hc.1 hjl (j := 0) (by omega)
        have i1 := is_lay hc.1 hjl (j := 1) (by omega)
        obtain ⟨b', off', hbo, _, q0, q1, q2, q3⟩ := (hcw.ext hE).at hjl
        simp only [Option.some.injEq, Addr.mk.injEq, and_true] at hbo
        obtain ⟨rfl, rfl⟩ := hbo
        have EA := hE.alloc (.cells #[.float .f32 (lay ls j 0), .float .f32 (lay ls j 1), .float .f32 (lay ls j 2), .float .f32 (lay ls j 3)] 125)
        have d0 := EA.cell c0
        have d1 := EA.cell c1
        have d2 := EA.cell c2
        clear c0 c1 c2
        cases hco : cosO n (cl ls) (canon .f32 sp) j (hedP n (cl ls) (canon .f32 sp) k) with
        | none =>
          have h : Hid (hedO n (cl ls) (canon .f32 sp) (canon .f32 de) k y = none) := by unfold Hid; rw [hO.out]; exact hedG_no hco (by omega)
          go_wp2_with (go_at_call 132; refine (cos_any _ _ _ _ _ _ _ _ _ _ (by exact hcw.ext EA) hl hjn hp).mono ?_; intro e w3 hg; obtain ⟨cb, rfl, E3⟩ := GivesFE.no hco hg; clear hg)
          go_ret2
          exact givesFE_none h.out (E0.trans (EW.trans (EA.trans E3)))
        | some c =>
          have HS0 := hedS_yes hx.out hco hjl
          rw [sinG_lay hjl] at HS0
          have HS := Lib.hid HS0
          clear HS0
          go_wp2_with (first | (go_at_call 132; refine (cos_any _ _ _ _ _ _ _ _ _ _ (by exact hcw.ext EA) hl hjn hp).mono ?_; intro e w3 hg; obtain ⟨cb, rfl, hcb, E3⟩ := GivesFE.yes hco hg; (have f0 := boxed E3 (i := 0) rfl); (have f1 := boxed E3 (i := 1) rfl); clear hg) | (refine wl_bin rfl rfl rfl rfl rfl (by first | assumption | exact is_ofInt _ _ | exact is_self) (by first | assumption | exact is_ofInt _ _ | exact is_self) ?_; intro r n hr) | (refine wl_cmp rfl rfl rfl rfl rfl (by first | assumption | exact is_ofInt _ _ | exact is_self) (by first | assumption | exact is_ofInt _ _ | exact is_self) (by first | assumption | rfl) ?_) | (refine wl_widen rfl rfl rfl (by first | exact rfl | kernel_rfl) (by kernel_rfl) (by first | assumption | exact is_ofInt _ _ | exact is_self) ?_; intro r n hr) | (refine wl_neg rfl rfl rfl (by first | assumption | exact is_ofInt _ _ | exact is_self) ?_; intro r hr))
          go_roundw
          case rel => exact ⟨j + 1, _, _, _, by omega, by go_num, rfl, rfl, HS, by assumption, by assumption, EA.trans (by repeat (first | exact E3 | apply Ext.drewN))⟩
          case measure => simp [intOf]; omega
      · obtain rfl : j = k + 1 := by omega
        have h : Hid (hedO n (cl ls) (canon .f32 sp) (canon .f32 de) k y = finB1 (!fcmp .gtr .f32 (fop .mul .f32 (canon .f32 1073741824) x.2) y) x.1) := by unfold Hid; rw [hO.out]; exact HI.out x hx.out
        cases hq : fcmp .gtr .f32 (fop .mul .f32 (canon .f32 1073741824) x.2) y with
        | false =>
          rw [hq] at h
          go_wp2_with (first | (refine wl_bin rfl rfl rfl rfl rfl is_self hw ?_; intro t1 n1 ht1) | (refine wl_cmp rfl rfl rfl rfl rfl ht1 hy hq ?_) | (go_at_call 133; refine (finG_any _ _ _ ht _).mono ?_; rintro _ w4 ⟨r4, m4, rfl, hr4, rfl⟩))
          go_ret2
          exact ⟨r4, by rw [h.out]; rfl, by rw [h.out]; exact hr4, E0.trans (EW.trans (hE.trans (by repeat (first | exact Ext.refl _ | apply Ext.drewN))))⟩
        | true =>
          rw [hq] at h
          go_wp2_with (first | (refine wl_bin rfl rfl rfl rfl rfl is_self hw ?_; intro t1 n1 ht1) | (refine wl_cmp rfl rfl rfl rfl rfl ht1 hy hq ?_) | (go_at_call 133; refine (finG_any _ _ _ ht _).mono ?_; rintro _ w4 ⟨r4, m4, rfl, hr4, rfl⟩))
          go_ret2
          exact ⟨r4, by rw [h.out]; rfl, by rw [h.out]; exact hr4, E0.trans (EW.trans (hE.trans (by repeat (first | exact Ext.refl _ | apply Ext.drewN))))⟩
end Go.Proofs.Ytnjgcacnfobmiaa
