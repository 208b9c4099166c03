/- CorrectTrace, BendTrace: the reference's and the program's. -/
import Derived.Test.YtncolcjjmllfeaaFMove
namespace Go.Proofs.Ytncolcjjmllfeaa
open Go.RowKit
set_option maxRecDepth 100000
set_option linter.unusedVariables false

theorem boxed2 {w w' : World} {A : Obj} {cs : Array Value} {t : TypeId} (h : Ext ((w.alloc A).alloc (.cells cs t)) w') {i : Nat} {v : Value} (hi : cs[i]? = some v) : w'.cell? ⟨w.heap.size + 1, i, none⟩ = some v := by
  have h1 := boxed h hi
  rw [show (w.alloc A).heap.size = w.heap.size + 1 by show (w.heap.push A).size = _; simp] at h1
  exact h1

theorem clo_Corr (k b c t u v : Nat) (a1 a2 : Addr) (hk : Is .f32 k t) (hb : Is .f32 b u) (hc2 : Is .f32 c v) (w : World) (h1 : w.cell? a1 = some (.float .f32 b)) (h2 : w.cell? a2 = some (.float .f32 c)) : Calls Try.prog 172 #[.float .f32 k, .pointer (some a1), .pointer (some a2)] w (GivesF .f32 (curveF t u v) w) := by
  go_enter Try.func172, Try.ntmps172
  go_wp2_with (go_at_call 110; refine (curve_any _ _ _ _ _ _ (by assumption) (by assumption) (by assumption) _).mono ?_; rintro _ _ ⟨q, n1, rfl, hq, rfl⟩)
  go_ret
  exact ⟨_, _, rfl, hq, rfl⟩
set_option maxHeartbeats 2000000 in
theorem bodyCorr_any (ao : Option Addr) (cap : Nat) (xs : List Nat) (b c u v : Nat) (w : World) (hc : FR w ao xs) (hl : xs.length ≤ 1048576) (hb : Is .f32 b u) (hc2 : Is .f32 c v) (h64 : inB (xs.length : Int) 1 64 = true) : Calls Try.prog 142 #[.slice ao xs.length cap, .float .f32 b, .float .f32 c] w (GivesS (tabP (fun k => sampF (cl xs) (curveF (tr k) u v)) xs.length) w) := by
  have eg : ∀ (args : Array Value) (w : World), (callFunc 172 args).run Try.prog w = .ok (.enter 172 args) w := enters_at Try.func172 (by kernel_rfl) rfl
  have EG := Lib.hid eg
  clear eg
  go_enter Try.func142, Try.ntmps142
  go_wp2_with (go_at_call 127; refine (sampled2_any _ EG.out (fun k => curveF (tr k) u v) _ _ _ _ _ _ (hc.ext (by repeat (first | assumption | exact Ext.refl _ | apply Ext.drewN | apply Ext.alloc | (refine Ext.setCell ?_ (by first | assumption | exact Nat.le_refl _) _)))) hl h64 (fun k w2 hE2 => clo_Corr _ _ _ _ _ _ _ _ (is_ofInt _ _) hb hc2 w2 (boxed (Ext.trans ((Ext.refl _).alloc _) hE2) rfl) (boxed2 hE2 rfl))).mono ?_; rintro _ w3 ⟨q, ys, rfl, hE3, hO3, hcl3⟩; (have HC := Lib.hid hcl3); clear hcl3)
  go_ret
  have hE0 : Ext w w3 := Ext.trans (((Ext.refl w).alloc _).alloc _) hE3
  exact ⟨_, ys, rfl, hE0, hO3.mono (((Ext.refl w).alloc (.cells #[.float .f32 b] 23)).alloc (.cells #[.float .f32 c] 23)).size, HC.out⟩
set_option maxHeartbeats 2000000 in
theorem implCorr_any (ao : Option Addr) (cap : Nat) (xs : List Nat) (b u c v : Nat) (w : World) (hc : FR w ao xs) (hl : xs.length ≤ 1048576) (hb : Is .f32 b u) (hc2 : Is .f32 c v) : Calls Try.prog 76 #[.slice ao xs.length cap, .float .f32 b, .float .f32 c] w (GivesO (corrO (cl xs) u v) w) := by
  cases h64 : inB (xs.length : Int) 1 64 with
  | false =>
    have h : Hid (corrO (cl xs) u v = none) := by unfold Hid corrO mapO; rw [isTk_cl, h64]; rfl
    go_enter Try.func76, Try.ntmps76
    go_wp2_with (go_at_call 104; refine (isTicks_any _ _ _ _ h64 _).mono ?_; rintro _ _ ⟨rfl, rfl⟩)
    go_ret2
    exact givesO_none h.out (by repeat (first | assumption | exact Ext.refl _ | apply Ext.drewN | apply Ext.alloc | (refine Ext.setCell ?_ (by first | assumption | exact Nat.le_refl _) _)))
  | true =>
  cases hf : finK .f32 u with
  | false =>
    have h : Hid (corrO (cl xs) u v = none) := by unfold Hid corrO mapO; rw [isTk_cl, h64, hf]; rfl
    go_enter Try.func76, Try.ntmps76
    go_wp2_with (first | (go_at_call 104; refine (isTicks_any _ _ _ _ h64 _).mono ?_; rintro _ _ ⟨rfl, rfl⟩) | (go_at_call 111; refine (isFinite_any _ _ _ hb hf _).mono ?_; rintro _ _ ⟨rfl, n1, rfl⟩))
    go_ret2
    exact givesO_none h.out (by repeat (first | assumption | exact Ext.refl _ | apply Ext.drewN | apply Ext.alloc | (refine Ext.setCell ?_ (by first | assumption | exact Nat.le_refl _) _)))
  | true =>
  cases hp : hardB v with
  | false =>
    have h : Hid (corrO (cl xs) u v = none) := by unfold Hid corrO mapO; rw [isTk_cl, h64, hf, hp]; rfl
    have h1 := all_one c v hc2 _ hp
    go_enter Try.func76, Try.ntmps76
    go_wp2_with (first | (go_at_call 104; refine (isTicks_any _ _ _ _ h64 _).mono ?_; rintro _ _ ⟨rfl, rfl⟩) | (go_at_call 111; refine (isFinite_any _ _ _ hb hf _).mono ?_; rintro _ _ ⟨rfl, n1, rfl⟩) | (go_at_call 99; refine (arePositive_any _ _ [c] _ _ (by exact OwnF.toFR (ownF_one _ _ (Ext.refl _) _)) (by simp) h1).mono ?_; rintro _ _ ⟨rfl, n2, rfl⟩))
    go_ret2
    exact givesO_none h.out (by repeat (first | assumption | exact Ext.refl _ | apply Ext.drewN | apply Ext.alloc | (refine Ext.setCell ?_ (by first | assumption | exact Nat.le_refl _) _)))
  | true =>
    have h : Hid (corrO (cl xs) u v = some (tabP (fun k => sampF (cl xs) (curveF (tr k) u v)) xs.length)) := by unfold Hid corrO mapO; rw [isTk_cl, h64, hf, hp, cl_length]; rfl
    have h1 := all_one c v hc2 _ hp
    go_enter Try.func76, Try.ntmps76
    go_wp2_with (first | (go_at_call 104; refine (isTicks_any _ _ _ _ h64 _).mono ?_; rintro _ _ ⟨rfl, rfl⟩) | (go_at_call 111; refine (isFinite_any _ _ _ hb hf _).mono ?_; rintro _ _ ⟨rfl, n1, rfl⟩) | (go_at_call 99; refine (arePositive_any _ _ [c] _ _ (by exact OwnF.toFR (ownF_one _ _ (Ext.refl _) _)) (by simp) h1).mono ?_; rintro _ _ ⟨rfl, n2, rfl⟩) | (go_at_call 142; refine (bodyCorr_any _ _ _ _ _ _ _ _ (hc.ext (by repeat (first | assumption | exact Ext.refl _ | apply Ext.drewN | apply Ext.alloc | (refine Ext.setCell ?_ (by first | assumption | exact Nat.le_refl _) _)))) hl hb hc2 h64).mono ?_; rintro _ w3 ⟨q, ys, rfl, hE3, hO3, hcl3⟩; (have HC := Lib.hid hcl3); clear hcl3))
    go_ret2
    have hE0 : Ext w w3 := Ext.trans (by repeat (first | assumption | exact Ext.refl _ | apply Ext.drewN | apply Ext.alloc | (refine Ext.setCell ?_ (by first | assumption | exact Nat.le_refl _) _))) hE3
    exact givesO_some h.out hE0 (hO3.mono (by first | omega | (simp; omega) | simp)) HC.out
set_option maxHeartbeats 2000000 in
theorem sbodyCorr_any (ao : Option Addr) (cap : Nat) (xs : List Nat) (b c u d : Nat) (w : World) (hc : FR w ao xs) (hl : xs.length ≤ 1048576) (hb : Is .f32 b u) (hc2 : Is .f32 c d) (h64 : inB (xs.length : Int) 1 64 = true) : Calls Try.prog 141 #[.slice ao xs.length cap, .float .f32 b, .float .f32 c] w (GivesS (tabP (fun k => sampF (cl xs) (curveF (tr k) u d)) xs.length) w) := by
  obtain ⟨i0, hi0, hz0, hs0, hb0⟩ := info_parts info32
  have hI0 := inB_yes h64
  go_enter Try.func141, Try.ntmps141
  go_wp2
  go_loopw [7, 8] (fun v i wr => ∃ (k : Nat) (ys : List Nat), k ≤ xs.length ∧ i = .int .i64 k ∧ OwnF wr w.heap.size v ys ∧ ys.length ≤ k ∧ Hid (cl ys = tabP (fun k => sampF (cl xs) (curveF (tr k) u d)) k) ∧ Ext w wr) (fun _ i _ => xs.length - (intOf i).toNat)
  case atStart => exact ⟨0, [], Nat.zero_le _, rfl, (by first | exact OwnF.nil _ _ | exact ownF_empty _ _ (by repeat (first | assumption | exact Ext.refl _ | apply Ext.drewN | apply Ext.alloc | (refine Ext.setCell ?_ (by first | assumption | exact Nat.le_refl _) _)))), Nat.le_refl _, rfl, (by repeat (first | assumption | exact Ext.refl _ | apply Ext.drewN | apply Ext.alloc | (refine Ext.setCell ?_ (by first | assumption | exact Nat.le_refl _) _)))⟩
  case round =>
    obtain ⟨k, ys, hk, rfl, hO, hyl, hcl, hE⟩ := hrel
    by_cases hlt : k < xs.length
    · go_wp2_with (first | (go_at_call 158; refine (l04Curve_any _ _ _ _ _ _ (is_ofInt _ _) hb hc2 _).mono ?_; rintro _ _ ⟨p, n1, rfl, hp, rfl⟩) | (go_at_call 103; refine (l04At_any _ _ _ _ _ _ (hc.ext (by repeat (first | assumption | exact Ext.refl _ | apply Ext.drewN | apply Ext.alloc | (refine Ext.setCell ?_ (by first | assumption | exact Nat.le_refl _) _)))) hp h64).mono ?_; rintro _ _ ⟨q, n2, rfl, hq, rfl⟩; (have HR := Lib.hid hq); clear hq) | (at_builtin; refine wl_append1 _ rfl Try.underlying22 hi0 hz0 hs0 hb0 rfl rfl rfl (by repeat (first | assumption | apply OwnF.drewN | apply OwnF.alloc)) (by repeat (first | assumption | exact Ext.refl _ | apply Ext.drewN | apply Ext.alloc | (refine Ext.setCell ?_ (by first | assumption | exact Nat.le_refl _) _))) (by omega) (by first | exact cell_new _ _ _ | exact cell_newD _ _ _ _) ?_; intro v2 w2 hO2 hE2) | (refine wl_bin rfl rfl rfl rfl rfl (by first | assumption | exact is_ofInt _ _ | exact is_self) (by first | assumption | exact is_ofInt _ _ | exact is_self) ?_; intro r n hr) | (refine wl_cmp rfl rfl rfl rfl rfl (by first | assumption | exact is_ofInt _ _ | exact is_self) (by first | assumption | exact is_ofInt _ _ | exact is_self) (by first | assumption | rfl) ?_) | (refine wl_widen rfl rfl rfl (by first | exact rfl | kernel_rfl) (by kernel_rfl) (by first | assumption | exact is_ofInt _ _ | exact is_self) ?_; intro r n hr) | (refine wl_neg rfl rfl rfl (by first | assumption | exact is_ofInt _ _ | exact is_self) ?_; intro r hr))
      go_roundw
      case rel => exact ⟨k + 1, _, by omega, by go_num, (by repeat (first | assumption | apply OwnF.drewN | apply OwnF.alloc)), by simp; omega, app_step hcl.out (by exact HR.out), (by repeat (first | assumption | exact Ext.refl _ | apply Ext.drewN | apply Ext.alloc | (refine Ext.setCell ?_ (by first | assumption | exact Nat.le_refl _) _)))⟩
      case measure => simp [intOf]; omega
    · go_wp2
      go_ret
      obtain rfl : xs.length = k := by omega
      exact ⟨_, ys, rfl, (by repeat (first | assumption | exact Ext.refl _ | apply Ext.drewN | apply Ext.alloc | (refine Ext.setCell ?_ (by first | assumption | exact Nat.le_refl _) _))), (by repeat (first | assumption | apply OwnF.drewN | apply OwnF.alloc)), hcl.out⟩
set_option maxHeartbeats 2000000 in
theorem specCorr_any (ao : Option Addr) (cap : Nat) (xs : List Nat) (b u c v : Nat) (w : World) (hc : FR w ao xs) (hl : xs.length ≤ 1048576) (hb : Is .f32 b u) (hc2 : Is .f32 c v) : Calls Try.prog 75 #[.slice ao xs.length cap, .float .f32 b, .float .f32 c] w (GivesO (corrO (cl xs) u v) w) := by
  cases h64 : inB (xs.length : Int) 1 64 with
  | false =>
    have h : Hid (corrO (cl xs) u v = none) := by unfold Hid corrO mapO; rw [isTk_cl, h64]; rfl
    go_enter Try.func75, Try.ntmps75
    go_wp2_with (go_at_call 102; refine (l04List_any _ _ _ _ h64 _).mono ?_; rintro _ _ ⟨rfl, rfl⟩)
    go_ret2
    exact givesO_none h.out (by repeat (first | assumption | exact Ext.refl _ | apply Ext.drewN | apply Ext.alloc | (refine Ext.setCell ?_ (by first | assumption | exact Nat.le_refl _) _)))
  | true =>
  cases hf : finK .f32 u with
  | false =>
    have h : Hid (corrO (cl xs) u v = none) := by unfold Hid corrO mapO; rw [isTk_cl, h64, hf]; rfl
    go_enter Try.func75, Try.ntmps75
    go_wp2_with (first | (go_at_call 102; refine (l04List_any _ _ _ _ h64 _).mono ?_; rintro _ _ ⟨rfl, rfl⟩) | (go_at_call 107; refine (l01Finite_any _ _ _ hb hf _).mono ?_; rintro _ _ ⟨rfl, n1, rfl⟩))
    go_ret2
    exact givesO_none h.out (by repeat (first | assumption | exact Ext.refl _ | apply Ext.drewN | apply Ext.alloc | (refine Ext.setCell ?_ (by first | assumption | exact Nat.le_refl _) _)))
  | true =>
  cases hp : hardB v with
  | false =>
    have h : Hid (corrO (cl xs) u v = none) := by unfold Hid corrO mapO; rw [isTk_cl, h64, hf, hp]; rfl
    go_enter Try.func75, Try.ntmps75
    go_wp2_with (first | (go_at_call 102; refine (l04List_any _ _ _ _ h64 _).mono ?_; rintro _ _ ⟨rfl, rfl⟩) | (go_at_call 107; refine (l01Finite_any _ _ _ hb hf _).mono ?_; rintro _ _ ⟨rfl, n1, rfl⟩) | (go_at_call 106; refine (l02Above_any _ _ _ hc2 hp _).mono ?_; rintro _ _ ⟨rfl, n2, rfl⟩))
    go_ret2
    exact givesO_none h.out (by repeat (first | assumption | exact Ext.refl _ | apply Ext.drewN | apply Ext.alloc | (refine Ext.setCell ?_ (by first | assumption | exact Nat.le_refl _) _)))
  | true =>
    have h : Hid (corrO (cl xs) u v = some (tabP (fun k => sampF (cl xs) (curveF (tr k) u v)) xs.length)) := by unfold Hid corrO mapO; rw [isTk_cl, h64, hf, hp, cl_length]; rfl
    go_enter Try.func75, Try.ntmps75
    go_wp2_with (first | (go_at_call 102; refine (l04List_any _ _ _ _ h64 _).mono ?_; rintro _ _ ⟨rfl, rfl⟩) | (go_at_call 107; refine (l01Finite_any _ _ _ hb hf _).mono ?_; rintro _ _ ⟨rfl, n1, rfl⟩) | (go_at_call 106; refine (l02Above_any _ _ _ hc2 hp _).mono ?_; rintro _ _ ⟨rfl, n2, rfl⟩) | (go_at_call 141; refine (sbodyCorr_any _ _ _ _ _ _ _ _ (hc.ext (by repeat (first | assumption | exact Ext.refl _ | apply Ext.drewN | apply Ext.alloc | (refine Ext.setCell ?_ (by first | assumption | exact Nat.le_refl _) _)))) hl hb hc2 h64).mono ?_; rintro _ w3 ⟨q, ys, rfl, hE3, hO3, hcl3⟩; (have HC := Lib.hid hcl3); clear hcl3))
    go_ret2
    have hE0 : Ext w w3 := Ext.trans (by repeat (first | assumption | exact Ext.refl _ | apply Ext.drewN | apply Ext.alloc | (refine Ext.setCell ?_ (by first | assumption | exact Nat.le_refl _) _))) hE3
    exact givesO_some h.out hE0 (hO3.mono (by first | exact Nat.le_refl _ | omega | (simp; omega) | simp)) HC.out

theorem clo_Bend (k b c t u v : Nat) (a1 a2 : Addr) (hk : Is .f32 k t) (hb : Is .f32 b u) (hc2 : Is .f32 c v) (w : World) (h1 : w.cell? a1 = some (.float .f32 b)) (h2 : w.cell? a2 = some (.float .f32 c)) : Calls Try.prog 174 #[.float .f32 k, .pointer (some a1), .pointer (some a2)] w (GivesF .f32 (bentF t u v) w) := by
  cases hd : fcmp .lss .f32 (fop .sub .f32 (fop .mul .f32 t t) (fop .mul .f32 (fop .quo .f32 u v) (fop .quo .f32 u v))) (canon .f32 0) with
  | true =>
    have h : Hid (bentF t u v = canon .f32 3212836864) := by unfold Hid bentF bendD; rw [hd]; rfl
    go_enter Try.func174, Try.ntmps174
    go_wp2_with (first | (refine wl_bin rfl rfl rfl rfl rfl (by first | assumption | exact is_ofInt _ _ | exact is_self) (by first | assumption | exact is_ofInt _ _ | exact is_self) ?_; intro r n hr) | (refine wl_cmp rfl rfl rfl rfl rfl (by first | assumption | exact is_ofInt _ _ | exact is_self) (by first | assumption | exact is_ofInt _ _ | exact is_self) (by first | assumption | rfl) ?_) | (refine wl_widen rfl rfl rfl (by first | exact rfl | kernel_rfl) (by kernel_rfl) (by first | assumption | exact is_ofInt _ _ | exact is_self) ?_; intro r n hr) | (refine wl_neg rfl rfl rfl (by first | assumption | exact is_ofInt _ _ | exact is_self) ?_; intro r hr))
    go_ret
    exact ⟨_, _, rfl, by rw [h.out]; exact is_self, rfl⟩
  | false =>
    have h : Hid (bentF t u v = rootF (fop .sub .f32 (fop .mul .f32 t t) (fop .mul .f32 (fop .quo .f32 u v) (fop .quo .f32 u v)))) := by unfold Hid bentF bendD; rw [hd]; rfl
    go_enter Try.func174, Try.ntmps174
    go_wp2_with (first | (go_at_call 159; refine (root_any _ _ (by assumption) _).mono ?_; rintro _ _ ⟨q, n1, rfl, hq, rfl⟩) | (refine wl_bin rfl rfl rfl rfl rfl (by first | assumption | exact is_ofInt _ _ | exact is_self) (by first | assumption | exact is_ofInt _ _ | exact is_self) ?_; intro r n hr) | (refine wl_cmp rfl rfl rfl rfl rfl (by first | assumption | exact is_ofInt _ _ | exact is_self) (by first | assumption | exact is_ofInt _ _ | exact is_self) (by first | assumption | rfl) ?_) | (refine wl_widen rfl rfl rfl (by first | exact rfl | kernel_rfl) (by kernel_rfl) (by first | assumption | exact is_ofInt _ _ | exact is_self) ?_; intro r n hr) | (refine wl_neg rfl rfl rfl (by first | assumption | exact is_ofInt _ _ | exact is_self) ?_; intro r hr))
    go_ret
    exact ⟨_, _, rfl, by rw [h.out]; exact hq, rfl⟩
set_option maxHeartbeats 2000000 in
theorem bodyBend_any (ao : Option Addr) (cap : Nat) (xs : List Nat) (b c u v : Nat) (w : World) (hc : FR w ao xs) (hl : xs.length ≤ 1048576) (hb : Is .f32 b u) (hc2 : Is .f32 c v) (h64 : inB (xs.length : Int) 1 64 = true) : Calls Try.prog 144 #[.slice ao xs.length cap, .float .f32 b, .float .f32 c] w (GivesS (tabP (fun k => sampF (cl xs) (bentF (tr k) u v)) xs.length) w) := by
  have eg : ∀ (args : Array Value) (w : World), (callFunc 174 args).run Try.prog w = .ok (.enter 174 args) w := enters_at Try.func174 (by kernel_rfl) rfl
  have EG := Lib.hid eg
  clear eg
  go_enter Try.func144, Try.ntmps144
  go_wp2_with (go_at_call 127; refine (sampled2_any _ EG.out (fun k => bentF (tr k) u v) _ _ _ _ _ _ (hc.ext (by repeat (first | assumption | exact Ext.refl _ | apply Ext.drewN | apply Ext.alloc | (refine Ext.setCell ?_ (by first | assumption | exact Nat.le_refl _) _)))) hl h64 (fun k w2 hE2 => clo_Bend _ _ _ _ _ _ _ _ (is_ofInt _ _) hb hc2 w2 (boxed (Ext.trans ((Ext.refl _).alloc _) hE2) rfl) (boxed2 hE2 rfl))).mono ?_; rintro _ w3 ⟨q, ys, rfl, hE3, hO3, hcl3⟩; (have HC := Lib.hid hcl3); clear hcl3)
  go_ret
  have hE0 : Ext w w3 := Ext.trans (((Ext.refl w).alloc _).alloc _) hE3
  exact ⟨_, ys, rfl, hE0, hO3.mono (((Ext.refl w).alloc (.cells #[.float .f32 b] 23)).alloc (.cells #[.float .f32 c] 23)).size, HC.out⟩
set_option maxHeartbeats 2000000 in
theorem implBend_any (ao : Option Addr) (cap : Nat) (xs : List Nat) (b u c v : Nat) (w : World) (hc : FR w ao xs) (hl : xs.length ≤ 1048576) (hb : Is .f32 b u) (hc2 : Is .f32 c v) : Calls Try.prog 78 #[.slice ao xs.length cap, .float .f32 b, .float .f32 c] w (GivesO (bendO (cl xs) u v) w) := by
  cases h64 : inB (xs.length : Int) 1 64 with
  | false =>
    have h : Hid (bendO (cl xs) u v = none) := by unfold Hid bendO mapO; rw [isTk_cl, h64]; rfl
    go_enter Try.func78, Try.ntmps78
    go_wp2_with (go_at_call 104; refine (isTicks_any _ _ _ _ h64 _).mono ?_; rintro _ _ ⟨rfl, rfl⟩)
    go_ret2
    exact givesO_none h.out (by repeat (first | assumption | exact Ext.refl _ | apply Ext.drewN | apply Ext.alloc | (refine Ext.setCell ?_ (by first | assumption | exact Nat.le_refl _) _)))
  | true =>
  cases hf : finK .f32 u with
  | false =>
    have h : Hid (bendO (cl xs) u v = none) := by unfold Hid bendO mapO; rw [isTk_cl, h64, hf]; rfl
    go_enter Try.func78, Try.ntmps78
    go_wp2_with (first | (go_at_call 104; refine (isTicks_any _ _ _ _ h64 _).mono ?_; rintro _ _ ⟨rfl, rfl⟩) | (go_at_call 111; refine (isFinite_any _ _ _ hb hf _).mono ?_; rintro _ _ ⟨rfl, n1, rfl⟩))
    go_ret2
    exact givesO_none h.out (by repeat (first | assumption | exact Ext.refl _ | apply Ext.drewN | apply Ext.alloc | (refine Ext.setCell ?_ (by first | assumption | exact Nat.le_refl _) _)))
  | true =>
  cases hp : hardB v with
  | false =>
    have h : Hid (bendO (cl xs) u v = none) := by unfold Hid bendO mapO; rw [isTk_cl, h64, hf, hp]; rfl
    have h1 := all_one c v hc2 _ hp
    go_enter Try.func78, Try.ntmps78
    go_wp2_with (first | (go_at_call 104; refine (isTicks_any _ _ _ _ h64 _).mono ?_; rintro _ _ ⟨rfl, rfl⟩) | (go_at_call 111; refine (isFinite_any _ _ _ hb hf _).mono ?_; rintro _ _ ⟨rfl, n1, rfl⟩) | (go_at_call 99; refine (arePositive_any _ _ [c] _ _ (by exact OwnF.toFR (ownF_one _ _ (Ext.refl _) _)) (by simp) h1).mono ?_; rintro _ _ ⟨rfl, n2, rfl⟩))
    go_ret2
    exact givesO_none h.out (by repeat (first | assumption | exact Ext.refl _ | apply Ext.drewN | apply Ext.alloc | (refine Ext.setCell ?_ (by first | assumption | exact Nat.le_refl _) _)))
  | true =>
    have h : Hid (bendO (cl xs) u v = some (tabP (fun k => sampF (cl xs) (bentF (tr k) u v)) xs.length)) := by unfold Hid bendO mapO; rw [isTk_cl, h64, hf, hp, cl_length]; rfl
    have h1 := all_one c v hc2 _ hp
    go_enter Try.func78, Try.ntmps78
    go_wp2_with (first | (go_at_call 104; refine (isTicks_any _ _ _ _ h64 _).mono ?_; rintro _ _ ⟨rfl, rfl⟩) | (go_at_call 111; refine (isFinite_any _ _ _ hb hf _).mono ?_; rintro _ _ ⟨rfl, n1, rfl⟩) | (go_at_call 99; refine (arePositive_any _ _ [c] _ _ (by exact OwnF.toFR (ownF_one _ _ (Ext.refl _) _)) (by simp) h1).mono ?_; rintro _ _ ⟨rfl, n2, rfl⟩) | (go_at_call 144; refine (bodyBend_any _ _ _ _ _ _ _ _ (hc.ext (by repeat (first | assumption | exact Ext.refl _ | apply Ext.drewN | apply Ext.alloc | (refine Ext.setCell ?_ (by first | assumption | exact Nat.le_refl _) _)))) hl hb hc2 h64).mono ?_; rintro _ w3 ⟨q, ys, rfl, hE3, hO3, hcl3⟩; (have HC := Lib.hid hcl3); clear hcl3))
    go_ret2
    have hE0 : Ext w w3 := Ext.trans (by repeat (first | assumption | exact Ext.refl _ | apply Ext.drewN | apply Ext.alloc | (refine Ext.setCell ?_ (by first | assumption | exact Nat.le_refl _) _))) hE3
    exact givesO_some h.out hE0 (hO3.mono (by first | omega | (simp; omega) | simp)) HC.out
set_option maxHeartbeats 2000000 in
theorem sbodyBend_any (ao : Option Addr) (cap : Nat) (xs : List Nat) (b c u d : Nat) (w : World) (hc : FR w ao xs) (hl : xs.length ≤ 1048576) (hb : Is .f32 b u) (hc2 : Is .f32 c d) (h64 : inB (xs.length : Int) 1 64 = true) : Calls Try.prog 143 #[.slice ao xs.length cap, .float .f32 b, .float .f32 c] w (GivesS (tabP (fun k => sampF (cl xs) (bentF (tr k) u d)) xs.length) w) := by
  obtain ⟨i0, hi0, hz0, hs0, hb0⟩ := info_parts info32
  have hI0 := inB_yes h64
  go_enter Try.func143, Try.ntmps143
  go_wp2_with (first | (refine wl_bin rfl rfl rfl rfl rfl (by first | assumption | exact is_ofInt _ _ | exact is_self) (by first | assumption | exact is_ofInt _ _ | exact is_self) ?_; intro r n hr) | (refine wl_cmp rfl rfl rfl rfl rfl (by first | assumption | exact is_ofInt _ _ | exact is_self) (by first | assumption | exact is_ofInt _ _ | exact is_self) (by first | assumption | rfl) ?_) | (refine wl_widen rfl rfl rfl (by first | exact rfl | kernel_rfl) (by kernel_rfl) (by first | assumption | exact is_ofInt _ _ | exact is_self) ?_; intro r n hr) | (refine wl_neg rfl rfl rfl (by first | assumption | exact is_ofInt _ _ | exact is_self) ?_; intro r hr))
  go_loopw [8, 9] (fun v i wr => ∃ (k : Nat) (ys : List Nat), k ≤ xs.length ∧ i = .int .i64 k ∧ OwnF wr w.heap.size v ys ∧ ys.length ≤ k ∧ Hid (cl ys = tabP (fun k => sampF (cl xs) (bentF (tr k) u d)) k) ∧ Ext w wr) (fun _ i _ => xs.length - (intOf i).toNat)
  case atStart => exact ⟨0, [], Nat.zero_le _, rfl, (by first | exact OwnF.nil _ _ | exact ownF_empty _ _ (by repeat (first | assumption | exact Ext.refl _ | apply Ext.drewN | apply Ext.alloc | (refine Ext.setCell ?_ (by first | assumption | exact Nat.le_refl _) _)))), Nat.le_refl _, rfl, (by repeat (first | assumption | exact Ext.refl _ | apply Ext.drewN | apply Ext.alloc | (refine Ext.setCell ?_ (by first | assumption | exact Nat.le_refl _) _)))⟩
  case round =>
    obtain ⟨k, ys, hk, rfl, hO, hyl, hcl, hE⟩ := hrel
    by_cases hlt : k < xs.length
    · cases hd : fcmp .lss .f32 (fop .sub .f32 (fop .mul .f32 (tr k) (tr k)) (fop .mul .f32 (fop .quo .f32 u d) (fop .quo .f32 u d))) (canon .f32 0) with
      | true =>
        have HB : Hid (sampF (cl xs) (bentF (tr k) u d) = 0) := by unfold Hid bentF bendD; rw [hd, if_pos rfl, samp_neg]
        unfold tr at hd
        go_wp2_with (first | (at_builtin; refine wl_append1 _ rfl Try.underlying22 hi0 hz0 hs0 hb0 rfl rfl rfl (by repeat (first | assumption | apply OwnF.drewN | apply OwnF.alloc)) (by repeat (first | assumption | exact Ext.refl _ | apply Ext.drewN | apply Ext.alloc | (refine Ext.setCell ?_ (by first | assumption | exact Nat.le_refl _) _))) (by omega) (by first | exact cell_new _ _ _ | exact cell_newD _ _ _ _) ?_; intro v2 w2 hO2 hE2) | (refine wl_bin rfl rfl rfl rfl rfl (by first | assumption | exact is_ofInt _ _ | exact is_self) (by first | assumption | exact is_ofInt _ _ | exact is_self) ?_; intro r n hr) | (refine wl_cmp rfl rfl rfl rfl rfl (by first | assumption | exact is_ofInt _ _ | exact is_self) (by first | assumption | exact is_ofInt _ _ | exact is_self) (by first | assumption | rfl) ?_) | (refine wl_widen rfl rfl rfl (by first | exact rfl | kernel_rfl) (by kernel_rfl) (by first | assumption | exact is_ofInt _ _ | exact is_self) ?_; intro r n hr) | (refine wl_neg rfl rfl rfl (by first | assumption | exact is_ofInt _ _ | exact is_self) ?_; intro r hr))
        have HR : Hid (Is .f32 0 (sampF (cl xs) (bentF (tr k) u d))) := by unfold Hid; rw [HB.out]; exact is_zero
        go_roundw
        case rel => exact ⟨k + 1, _, by omega, by go_num, (by repeat (first | assumption | apply OwnF.drewN | apply OwnF.alloc)), by simp; omega, app_step hcl.out (by exact HR.out), (by repeat (first | assumption | exact Ext.refl _ | apply Ext.drewN | apply Ext.alloc | (refine Ext.setCell ?_ (by first | assumption | exact Nat.le_refl _) _)))⟩
        case measure => simp [intOf]; omega
      | false =>
        have HB : Hid (bentF (tr k) u d = rootF (fop .sub .f32 (fop .mul .f32 (tr k) (tr k)) (fop .mul .f32 (fop .quo .f32 u d) (fop .quo .f32 u d)))) := by unfold Hid bentF bendD; rw [hd]; rfl
        unfold tr at hd
        go_wp2_with (first | (go_at_call 173; refine (l01Sqrt_any _ _ (by assumption) _).mono ?_; rintro _ _ ⟨p, n1, rfl, hp, rfl⟩) | (go_at_call 103; refine (l04At_any _ _ _ _ _ _ (hc.ext (by repeat (first | assumption | exact Ext.refl _ | apply Ext.drewN | apply Ext.alloc | (refine Ext.setCell ?_ (by first | assumption | exact Nat.le_refl _) _)))) hp h64).mono ?_; rintro _ _ ⟨q, n2, rfl, hq, rfl⟩; (have HR := Lib.hid hq); clear hq) | (at_builtin; refine wl_append1 _ rfl Try.underlying22 hi0 hz0 hs0 hb0 rfl rfl rfl (by repeat (first | assumption | apply OwnF.drewN | apply OwnF.alloc)) (by repeat (first | assumption | exact Ext.refl _ | apply Ext.drewN | apply Ext.alloc | (refine Ext.setCell ?_ (by first | assumption | exact Nat.le_refl _) _))) (by omega) (by first | exact cell_new _ _ _ | exact cell_newD _ _ _ _) ?_; intro v2 w2 hO2 hE2) | (refine wl_bin rfl rfl rfl rfl rfl (by first | assumption | exact is_ofInt _ _ | exact is_self) (by first | assumption | exact is_ofInt _ _ | exact is_self) ?_; intro r n hr) | (refine wl_cmp rfl rfl rfl rfl rfl (by first | assumption | exact is_ofInt _ _ | exact is_self) (by first | assumption | exact is_ofInt _ _ | exact is_self) (by first | assumption | rfl) ?_) | (refine wl_widen rfl rfl rfl (by first | exact rfl | kernel_rfl) (by kernel_rfl) (by first | assumption | exact is_ofInt _ _ | exact is_self) ?_; intro r n hr) | (refine wl_neg rfl rfl rfl (by first | assumption | exact is_ofInt _ _ | exact is_self) ?_; intro r hr))
        have HR : Hid (Is .f32 q (sampF (cl xs) (bentF (tr k) u d))) := by unfold Hid; rw [HB.out]; exact HR.out
        go_roundw
        case rel => exact ⟨k + 1, _, by omega, by go_num, (by repeat (first | assumption | apply OwnF.drewN | apply OwnF.alloc)), by simp; omega, app_step hcl.out (by exact HR.out), (by repeat (first | assumption | exact Ext.refl _ | apply Ext.drewN | apply Ext.alloc | (refine Ext.setCell ?_ (by first | assumption | exact Nat.le_refl _) _)))⟩
        case measure => simp [intOf]; omega
    · go_wp2
      go_ret
      obtain rfl : xs.length = k := by omega
      exact ⟨_, ys, rfl, (by repeat (first | assumption | exact Ext.refl _ | apply Ext.drewN | apply Ext.alloc | (refine Ext.setCell ?_ (by first | assumption | exact Nat.le_refl _) _))), (by repeat (first | assumption | apply OwnF.drewN | apply OwnF.alloc)), hcl.out⟩
set_option maxHeartbeats 2000000 in
theorem specBend_any (ao : Option Addr) (cap : Nat) (xs : List Nat) (b u c v : Nat) (w : World) (hc : FR w ao xs) (hl : xs.length ≤ 1048576) (hb : Is .f32 b u) (hc2 : Is .f32 c v) : Calls Try.prog 77 #[.slice ao xs.length cap, .float .f32 b, .float .f32 c] w (GivesO (bendO (cl xs) u v) w) := by
  cases h64 : inB (xs.length : Int) 1 64 with
  | false =>
    have h : Hid (bendO (cl xs) u v = none) := by unfold Hid bendO mapO; rw [isTk_cl, h64]; rfl
    go_enter Try.func77, Try.ntmps77
    go_wp2_with (go_at_call 102; refine (l04List_any _ _ _ _ h64 _).mono ?_; rintro _ _ ⟨rfl, rfl⟩)
    go_ret2
    exact givesO_none h.out (by repeat (first | assumption | exact Ext.refl _ | apply Ext.drewN | apply Ext.alloc | (refine Ext.setCell ?_ (by first | assumption | exact Nat.le_refl _) _)))
  | true =>
  cases hf : finK .f32 u with
  | false =>
    have h : Hid (bendO (cl xs) u v = none) := by unfold Hid bendO mapO; rw [isTk_cl, h64, hf]; rfl
    go_enter Try.func77, Try.ntmps77
    go_wp2_with (first | (go_at_call 102; refine (l04List_any _ _ _ _ h64 _).mono ?_; rintro _ _ ⟨rfl, rfl⟩) | (go_at_call 107; refine (l01Finite_any _ _ _ hb hf _).mono ?_; rintro _ _ ⟨rfl, n1, rfl⟩))
    go_ret2
    exact givesO_none h.out (by repeat (first | assumption | exact Ext.refl _ | apply Ext.drewN | apply Ext.alloc | (refine Ext.setCell ?_ (by first | assumption | exact Nat.le_refl _) _)))
  | true =>
  cases hp : hardB v with
  | false =>
    have h : Hid (bendO (cl xs) u v = none) := by unfold Hid bendO mapO; rw [isTk_cl, h64, hf, hp]; rfl
    go_enter Try.func77, Try.ntmps77
    go_wp2_with (first | (go_at_call 102; refine (l04List_any _ _ _ _ h64 _).mono ?_; rintro _ _ ⟨rfl, rfl⟩) | (go_at_call 107; refine (l01Finite_any _ _ _ hb hf _).mono ?_; rintro _ _ ⟨rfl, n1, rfl⟩) | (go_at_call 106; refine (l02Above_any _ _ _ hc2 hp _).mono ?_; rintro _ _ ⟨rfl, n2, rfl⟩))
    go_ret2
    exact givesO_none h.out (by repeat (first | assumption | exact Ext.refl _ | apply Ext.drewN | apply Ext.alloc | (refine Ext.setCell ?_ (by first | assumption | exact Nat.le_refl _) _)))
  | true =>
    have h : Hid (bendO (cl xs) u v = some (tabP (fun k => sampF (cl xs) (bentF (tr k) u v)) xs.length)) := by unfold Hid bendO mapO; rw [isTk_cl, h64, hf, hp, cl_length]; rfl
    go_enter Try.func77, Try.ntmps77
    go_wp2_with (first | (go_at_call 102; refine (l04List_any _ _ _ _ h64 _).mono ?_; rintro _ _ ⟨rfl, rfl⟩) | (go_at_call 107; refine (l01Finite_any _ _ _ hb hf _).mono ?_; rintro _ _ ⟨rfl, n1, rfl⟩) | (go_at_call 106; refine (l02Above_any _ _ _ hc2 hp _).mono ?_; rintro _ _ ⟨rfl, n2, rfl⟩) | (go_at_call 143; refine (sbodyBend_any _ _ _ _ _ _ _ _ (hc.ext (by repeat (first | assumption | exact Ext.refl _ | apply Ext.drewN | apply Ext.alloc | (refine Ext.setCell ?_ (by first | assumption | exact Nat.le_refl _) _)))) hl hb hc2 h64).mono ?_; rintro _ w3 ⟨q, ys, rfl, hE3, hO3, hcl3⟩; (have HC := Lib.hid hcl3); clear hcl3))
    go_ret2
    have hE0 : Ext w w3 := Ext.trans (by repeat (first | assumption | exact Ext.refl _ | apply Ext.drewN | apply Ext.alloc | (refine Ext.setCell ?_ (by first | assumption | exact Nat.le_refl _) _))) hE3
    exact givesO_some h.out hE0 (hO3.mono (by first | exact Nat.le_refl _ | omega | (simp; omega) | simp)) HC.out

end Go.Proofs.Ytncolcjjmllfeaa
