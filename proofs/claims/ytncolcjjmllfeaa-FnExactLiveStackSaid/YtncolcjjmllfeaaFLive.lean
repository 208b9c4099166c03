/- LiveStack: the reference's and the program's. -/
import Derived.Test.YtncolcjjmllfeaaFStack
namespace Go.Proofs.Ytncolcjjmllfeaa
open Go.RowKit
set_option maxRecDepth 100000
set_option linter.unusedVariables false

theorem zero_step {F : Nat → Nat} {k N : Nat} {ys : List Nat} (h : cl ys = tabP F k ++ List.drop k (List.replicate N 0)) (hk : k < N) (hz : F k = 0) : Hid (cl ys = tabP F (k + 1) ++ List.drop (k + 1) (List.replicate N 0)) := by
  unfold Hid
  rw [h, tabP_succ, hz, List.drop_replicate, List.drop_replicate, show N - k = (N - (k + 1)) + 1 by omega, List.replicate_succ, List.append_assoc]
  rfl
set_option maxHeartbeats 4000000 in
theorem implLive_any (t : Int) (pa : Option Addr) (pc : Nat) (ps : List Nat) (ra : Option Addr) (rc : Nat) (rs : List (List Nat)) (w : World) (hp : FR w pa ps) (hr : RS w ra rs) (hl : ps.length + (rs.length + tot rs) ≤ 1048576) : Calls Try.prog 60 #[.agg #[.int .i64 t, .slice pa ps.length pc, .slice ra rs.length rc]] w (GivesO (liveO t (cl ps) (cls rs)) w) := by
  obtain ⟨i0, hi0, hz0, hs0, hb0⟩ := info_parts info32
  generalize hA : w.alloc (.cells #[.int .i64 t, .slice pa ps.length pc, .slice ra rs.length rc] 47) = w0
  have E0 : Ext w w0 := by rw [← hA]; exact (Ext.refl w).alloc _
  have c0 : w0.cell? ⟨w.heap.size, 0, none⟩ = some (.int .i64 t) := by rw [← hA]; exact boxed (Ext.refl _) rfl
  have c1 : w0.cell? ⟨w.heap.size, 1, none⟩ = some (.slice pa ps.length pc) := by rw [← hA]; exact boxed (Ext.refl _) rfl
  have c2 : w0.cell? ⟨w.heap.size, 2, none⟩ = some (.slice ra rs.length rc) := by rw [← hA]; exact boxed (Ext.refl _) rfl
  have hpw := hp.ext E0
  have hrw := hr.ext E0
  have HA := Lib.hid hA
  clear hA
  cases hg : gOk t (cl ps) (cls rs) with
  | false =>
    have h : Hid (liveO t (cl ps) (cls rs) = none) := by unfold Hid liveO; rw [hg]; rfl
    go_enter Try.func60, Try.ntmps60
    go_wp2_with fail
    rw [HA.out]
    go_at_call 47; refine (implValid_any _ _ _ _ _ _ _ _ _ hpw hrw hl hg).mono ?_; rintro _ w1 ⟨rfl, E1⟩
    go_wp2
    go_ret2
    exact givesO_none h.out (E0.trans E1)
  | true =>
    obtain ⟨ht, hpl, hlen, hrow⟩ := gOk_parts hg
    have h : Hid (liveO t (cl ps) (cls rs) = some (tabP (liveF (cls rs)) t.toNat)) := by unfold Hid liveO; rw [hg]; rfl
    obtain ⟨N, rfl⟩ : ∃ N : Nat, t = (N : Int) := ⟨t.toNat, by omega⟩
    have hkr : ∀ k, k < N → ∀ i, i < rs.length → k < (row rs i).length := fun k hk i hi => by have := hrow i hi; omega
    have hN : N ≤ 64 := by omega
    have HR := Lib.hid hrow
    have HL := Lib.hid hlen
    clear hrow hlen
    go_enter Try.func60, Try.ntmps60
    go_wp2_with fail
    rw [HA.out]
    go_at_call 47; refine (implValid_any _ _ _ _ _ _ _ _ _ hpw hrw hl hg).mono ?_; rintro _ w1 ⟨rfl, E1⟩
    have d0 := E1.cell c0
    have d1 := E1.cell c1
    have d2 := E1.cell c2
    have hp1 := hpw.ext E1
    have hr1 := hrw.ext E1
    clear c0 c1 c2 hpw hrw hg
    go_wp2_with (at_make; refine wl_make1 (n := N) rfl Try.underlying22 hi0 hz0 hs0 hb0 rfl rfl rfl (by omega) (by omega) (by omega) ?_; intro wm hOm hEm; (have dm0 := hEm.cell d0))
    go_loopw [16] (fun i wr => ∃ (k : Nat) (ys : List Nat), k ≤ N ∧ i = .int .i64 k ∧ OwnF wr w1.heap.size (.slice (some ⟨w1.heap.size, 0, none⟩) N N) ys ∧ Hid (ys.length = N) ∧ Hid (cl ys = tabP (liveF (cls rs)) k ++ List.drop k (List.replicate N 0)) ∧ Ext w1 wr) (fun i _ => N - (intOf i).toNat)
    case atStart => exact ⟨0, _, Nat.zero_le _, rfl, hOm, by unfold Hid; simp, set_start _ _ (cl_zeros _), hEm⟩
    case round =>
      clear hOm hEm
      obtain ⟨k, ys, hk, rfl, hO, hyl, hcl, hE⟩ := hrel
      have e0 := hE.cell d0
      have e1 := hE.cell d1
      have e2 := hE.cell d2
      by_cases hlt : k < N
      · have hkk := hkr k hlt
        have hky : k < ys.length := by rw [hyl.out]; exact hlt
        go_wp2_with fail
        go_at_call 132; refine (stack_any _ _ _ _ _ _ _ _ _ (hp1.ext hE) (hr1.ext hE) hl hkk).mono ?_; rintro _ w2 ⟨r0, rfl, hr0, E2⟩
        have hO2 := hO.ext E2
        have hE2 := hE.trans E2
        clear hO e0 e1 e2
        have HF : Hid (liveF (cls rs) k = if liveN (cls rs) k rs.length = 0 then 0 else fop .quo .f32 (sumG (cls rs) k rs.length) (floatOfInt .f32 (liveN (cls rs) k rs.length : Int))) := by unfold Hid liveF; rw [cls_len]
        have hqle := liveN_le (cls rs) k rs.length
        generalize liveN (cls rs) k rs.length = q at HF hqle ⊢
        have hl1 : rs.length ≤ 1048576 := by omega
        by_cases hz : q = 0
        · subst hz
          have HZ : Hid (liveF (cls rs) k = 0) := by unfold Hid; rw [HF.out]; rfl
          clear HF
          go_wp2
          go_roundw
          case rel => exact ⟨k + 1, ys, by omega, by go_num, hO2, hyl, zero_step hcl.out hlt HZ.out, hE2⟩
          case measure => simp [intOf]; omega
        · have HZ : Hid (liveF (cls rs) k = fop .quo .f32 (sumG (cls rs) k rs.length) (floatOfInt .f32 (q : Int))) := by unfold Hid; rw [HF.out, if_neg hz]
          have hqp : (0 : Int) < (q : Int) := by omega
          clear HF hz
          obtain ⟨hcw, hfz⟩ := hO2.at' hky
          go_wp2_with (first | (refine wl_bin rfl rfl rfl rfl rfl (by first | assumption | exact is_ofInt _ _ | exact is_self) (by first | assumption | exact is_ofInt _ _ | exact is_self) ?_; intro r n hr) | (refine wl_cmp rfl rfl rfl rfl rfl (by first | assumption | exact is_ofInt _ _ | exact is_self) (by first | assumption | exact is_ofInt _ _ | exact is_self) (by first | assumption | rfl) ?_) | (refine wl_widen rfl rfl rfl (by first | exact rfl | kernel_rfl) (by kernel_rfl) (by first | assumption | exact is_ofInt _ _ | exact is_self) ?_; intro r n hr) | (refine wl_neg rfl rfl rfl (by first | assumption | exact is_ofInt _ _ | exact is_self) ?_; intro r hr))
          have HR : Hid (Is .f32 r (liveF (cls rs) k)) := by unfold Hid; rw [HZ.out]; exact hr
          have hst := hO2.stored k r
          have HO := Lib.hid hst.1
          clear hst hr
          go_roundw
          case rel => exact ⟨k + 1, _, by omega, by go_num, HO.out, by unfold Hid; rw [List.length_set]; exact hyl.out, set_step hcl.out (by simp; exact hlt) (by exact HR.out), Ext.setCell (hE2.drewN _) (Nat.le_refl _) _⟩
          case measure => simp [intOf]; omega
      · go_wp2
        go_ret2
        obtain rfl : N = k := by omega
        exact givesO_some h.out (E0.trans (E1.trans hE)) (hO.mono (E0.trans E1).size) (by rw [hcl.out]; simp)
set_option maxHeartbeats 4000000 in
theorem specLive_any (t : Int) (pa : Option Addr) (pc : Nat) (ps : List Nat) (ra : Option Addr) (rc : Nat) (rs : List (List Nat)) (w : World) (hp : FR w pa ps) (hr : RS w ra rs) (hl : ps.length + (rs.length + tot rs) ≤ 1048576) : Calls Try.prog 59 #[.agg #[.int .i64 t, .slice pa ps.length pc, .slice ra rs.length rc]] w (GivesO (liveO t (cl ps) (cls rs)) w) := by
  obtain ⟨i0, hi0, hz0, hs0, hb0⟩ := info_parts info32
  generalize hA : w.alloc (.cells #[.int .i64 t, .slice pa ps.length pc, .slice ra rs.length rc] 47) = w0
  have E0 : Ext w w0 := by rw [← hA]; exact (Ext.refl w).alloc _
  have c0 : w0.cell? ⟨w.heap.size, 0, none⟩ = some (.int .i64 t) := by rw [← hA]; exact boxed (Ext.refl _) rfl
  have c1 : w0.cell? ⟨w.heap.size, 1, none⟩ = some (.slice pa ps.length pc) := by rw [← hA]; exact boxed (Ext.refl _) rfl
  have c2 : w0.cell? ⟨w.heap.size, 2, none⟩ = some (.slice ra rs.length rc) := by rw [← hA]; exact boxed (Ext.refl _) rfl
  have hpw := hp.ext E0
  have hrw := hr.ext E0
  have HA := Lib.hid hA
  clear hA
  cases hg : gOk t (cl ps) (cls rs) with
  | false =>
    have h : Hid (liveO t (cl ps) (cls rs) = none) := by unfold Hid liveO; rw [hg]; rfl
    go_enter Try.func59, Try.ntmps59
    go_wp2_with fail
    rw [HA.out]
    go_at_call 119; refine (l04Is_any _ _ _ _ _ _ _ _ _ _ c0 c1 c2 hpw hrw hl hg).mono ?_; rintro _ _ ⟨rfl, n1, rfl⟩
    go_wp2
    go_ret2
    exact givesO_none h.out (E0.drewN _)
  | true =>
    obtain ⟨ht, hpl, hlen, hrow⟩ := gOk_parts hg
    have h : Hid (liveO t (cl ps) (cls rs) = some (tabP (liveF (cls rs)) t.toNat)) := by unfold Hid liveO; rw [hg]; rfl
    obtain ⟨N, rfl⟩ : ∃ N : Nat, t = (N : Int) := ⟨t.toNat, by omega⟩
    have hkr : ∀ k, k < N → ∀ i, i < rs.length → k < (row rs i).length := fun k hk i hi => by have := hrow i hi; omega
    have hN : N ≤ 64 := by omega
    have HR := Lib.hid hrow
    have HL := Lib.hid hlen
    clear hrow hlen
    go_enter Try.func59, Try.ntmps59
    go_wp2_with fail
    rw [HA.out]
    go_at_call 119; refine (l04Is_any _ _ _ _ _ _ _ _ _ _ c0 c1 c2 hpw hrw hl hg).mono ?_; rintro _ _ ⟨rfl, n1, rfl⟩
    clear hg
    go_wp2
    go_loopw [4, 5] (fun v i wr => ∃ (k : Nat) (ys : List Nat), k ≤ N ∧ i = .int .i64 k ∧ OwnF wr w0.heap.size v ys ∧ ys.length ≤ k ∧ Hid (cl ys = tabP (liveF (cls rs)) k) ∧ Ext w0 wr) (fun _ i _ => N - (intOf i).toNat)
    case atStart => exact ⟨0, [], Nat.zero_le _, rfl, (by first | exact OwnF.nil _ _ | exact ownF_empty _ _ (by repeat (first | assumption | exact Ext.refl _ | apply Ext.drewN | apply Ext.alloc | (refine Ext.setCell ?_ (by first | assumption | exact Nat.le_refl _) _)))), Nat.le_refl _, rfl, (by repeat (first | assumption | exact Ext.refl _ | apply Ext.drewN | apply Ext.alloc | (refine Ext.setCell ?_ (by first | assumption | exact Nat.le_refl _) _)))⟩
    case round =>
      obtain ⟨k, ys, hk, rfl, hO, hyl, hcl, hE⟩ := hrel
      have e0 := hE.cell c0
      have e2 := hE.cell c2
      by_cases hlt : k < N
      · have hkk := hkr k hlt
        go_wp2_with fail
        go_at_call 131; refine (l04Sum_any _ (N : Int) pa pc ps ra rc rs _ _ e2 (hpw.ext hE) (hrw.ext hE) hl hkk).mono ?_; rintro _ w2 ⟨r0, rfl, hr0, E2⟩
        have hO2 := hO.ext E2
        have f2 := E2.cell e2
        have hE2 := hE.trans E2
        clear hO e0 e2
        have HF : Hid (liveF (cls rs) k = if liveN (cls rs) k rs.length = 0 then 0 else fop .quo .f32 (sumG (cls rs) k rs.length) (floatOfInt .f32 (liveN (cls rs) k rs.length : Int))) := by unfold Hid liveF; rw [cls_len]
        have hqle := liveN_le (cls rs) k rs.length
        generalize liveN (cls rs) k rs.length = q at HF hqle ⊢
        have hl1 : rs.length ≤ 1048576 := by omega
        by_cases hz : q = 0
        · subst hz
          have HZ : Hid (liveF (cls rs) k = 0) := by unfold Hid; rw [HF.out]; rfl
          clear HF
          go_wp2_with (first | (at_builtin; refine wl_append1 _ rfl Try.underlying22 hi0 hz0 hs0 hb0 rfl rfl rfl (by repeat (first | assumption | apply OwnF.drewN | apply OwnF.alloc)) (by repeat (first | assumption | exact Ext.refl _ | apply Ext.drewN | apply Ext.alloc | (refine Ext.setCell ?_ (by first | assumption | exact Nat.le_refl _) _))) (by omega) (by first | exact cell_new _ _ _ | exact cell_newD _ _ _ _) ?_; intro v2 w2 hO2 hE2) | (refine wl_bin rfl rfl rfl rfl rfl (by first | assumption | exact is_ofInt _ _ | exact is_self) (by first | assumption | exact is_ofInt _ _ | exact is_self) ?_; intro r n hr) | (refine wl_cmp rfl rfl rfl rfl rfl (by first | assumption | exact is_ofInt _ _ | exact is_self) (by first | assumption | exact is_ofInt _ _ | exact is_self) (by first | assumption | rfl) ?_) | (refine wl_widen rfl rfl rfl (by first | exact rfl | kernel_rfl) (by kernel_rfl) (by first | assumption | exact is_ofInt _ _ | exact is_self) ?_; intro r n hr) | (refine wl_neg rfl rfl rfl (by first | assumption | exact is_ofInt _ _ | exact is_self) ?_; intro r hr))
          have HR : Hid (Is .f32 0 (liveF (cls rs) k)) := by unfold Hid; rw [HZ.out]; exact is_zero
          go_roundw
          case rel => exact ⟨k + 1, _, by omega, by go_num, (by repeat (first | assumption | apply OwnF.drewN | apply OwnF.alloc)), by simp; omega, app_step hcl.out (by exact HR.out), (by repeat (first | assumption | exact Ext.refl _ | apply Ext.drewN | apply Ext.alloc | (refine Ext.setCell ?_ (by first | assumption | exact Nat.le_refl _) _)))⟩
          case measure => simp [intOf]; omega
        · have HZ : Hid (liveF (cls rs) k = fop .quo .f32 (sumG (cls rs) k rs.length) (floatOfInt .f32 (q : Int))) := by unfold Hid; rw [HF.out, if_neg hz]
          have hqp : ¬ (q : Int) = 0 := by omega
          clear HF hz
          go_wp2_with (first | (at_builtin; refine wl_append1 _ rfl Try.underlying22 hi0 hz0 hs0 hb0 rfl rfl rfl (by repeat (first | assumption | apply OwnF.drewN | apply OwnF.alloc)) (by repeat (first | assumption | exact Ext.refl _ | apply Ext.drewN | apply Ext.alloc | (refine Ext.setCell ?_ (by first | assumption | exact Nat.le_refl _) _))) (by omega) (by first | exact cell_new _ _ _ | exact cell_newD _ _ _ _) ?_; intro v2 w2 hO2 hE2) | (refine wl_bin rfl rfl rfl rfl rfl (by first | assumption | exact is_ofInt _ _ | exact is_self) (by first | assumption | exact is_ofInt _ _ | exact is_self) ?_; intro r n hr) | (refine wl_cmp rfl rfl rfl rfl rfl (by first | assumption | exact is_ofInt _ _ | exact is_self) (by first | assumption | exact is_ofInt _ _ | exact is_self) (by first | assumption | rfl) ?_) | (refine wl_widen rfl rfl rfl (by first | exact rfl | kernel_rfl) (by kernel_rfl) (by first | assumption | exact is_ofInt _ _ | exact is_self) ?_; intro r n hr) | (refine wl_neg rfl rfl rfl (by first | assumption | exact is_ofInt _ _ | exact is_self) ?_; intro r hr))
          have HR : Hid (Is .f32 r (liveF (cls rs) k)) := by unfold Hid; rw [HZ.out]; exact hr
          clear hr
          go_roundw
          case rel => exact ⟨k + 1, _, by omega, by go_num, (by repeat (first | assumption | apply OwnF.drewN | apply OwnF.alloc)), by simp; omega, app_step hcl.out (by exact HR.out), (by repeat (first | assumption | exact Ext.refl _ | apply Ext.drewN | apply Ext.alloc | (refine Ext.setCell ?_ (by first | assumption | exact Nat.le_refl _) _)))⟩
          case measure => simp [intOf]; omega
      · go_wp2
        go_ret2
        obtain rfl : N = k := by omega
        exact givesO_some h.out (E0.trans hE) (hO.mono E0.size) (by rw [hcl.out]; simp)
end Go.Proofs.Ytncolcjjmllfeaa
