/- HardnessOf: the program's. -/
import Derived.Test.YtncolcjjmllfeaaFHardS
namespace Go.Proofs.Ytncolcjjmllfeaa
open Go.RowKit
set_option maxRecDepth 100000
set_option linter.unusedVariables false

set_option maxHeartbeats 4000000 in
theorem implHard_any (b0 f : Nat) (ao : Option Addr) (cap : Nat) (xs : List Nat) (w : World) (hb : Is .f32 b0 f) (hc : FR w ao xs) (hl : xs.length ≤ 1048576) :
    Calls Try.prog 34 #[.float .f32 b0, .slice ao xs.length cap] w (GivesO (hardO f (cl xs)) w) := by
  obtain ⟨i0, hi0, hz0, hs0, hb0⟩ := info_parts info32
  cases ht0 : hardB f with
  | false =>
    have hn : Hid (hardO f (cl xs) = none) := by unfold Hid hardO; rw [ht0]; rfl
    have h1 := all_one b0 f hb _ ht0
    have hfr := OwnF.toFR (ownF_one w w (Ext.refl _) b0)
    go_enter Try.func34, Try.ntmps34
    go_wp2_with (first | (go_at_call 99; refine (arePositive_any _ _ [b0] _ _ hfr (by simp) h1).mono ?_; rintro _ _ ⟨rfl, n1, rfl⟩) | (go_at_call 93; refine (within_any _ _ _ _ (by first | assumption | rfl) _).mono ?_; rintro _ _ ⟨rfl, rfl⟩) | (go_at_call 90; refine (l00In_any _ _ _ _ (by first | assumption | rfl) _).mono ?_; rintro _ _ ⟨rfl, rfl⟩) | (go_at_call 101; refine (isCount_any _ _ (by first | assumption | rfl) _).mono ?_; rintro _ _ ⟨rfl, rfl⟩) | (go_at_call 88; refine (isTrace_any _ _ _ _ (by first | assumption | rfl) _).mono ?_; rintro _ _ ⟨rfl, rfl⟩) | (go_at_call 85; refine (l03Is_any _ _ _ _ (by first | assumption | rfl) (by omega) _).mono ?_; rintro _ _ ⟨rfl, rfl⟩) | (go_at_call 94; refine (length32_any _ _ _ _).mono ?_; rintro _ _ ⟨rfl, rfl⟩) | (go_at_call 160; refine (isFinite64_any _ _ _ (by assumption) (by first | assumption | rfl) _).mono ?_; rintro _ _ ⟨rfl, n, rfl⟩) | (go_at_call 111; refine (isFinite_any _ _ _ (by first | assumption | exact is_ofInt _ _ | exact is_self) (by first | assumption | rfl) _).mono ?_; rintro _ _ ⟨rfl, n, rfl⟩) | (go_at_call 107; refine (l01Finite_any _ _ _ (by first | assumption | exact is_ofInt _ _ | exact is_self) (by first | assumption | rfl) _).mono ?_; rintro _ _ ⟨rfl, n, rfl⟩))
    go_ret2
    exact givesO_none hn.out (by repeat (first | assumption | exact Ext.refl _ | apply Ext.drewN | apply Ext.alloc | (refine Ext.setCell ?_ (by first | assumption | exact Nat.le_refl _) _)))
  | true =>
  cases ht1 : areB (cl xs) with
  | false =>
    have hn : Hid (hardO f (cl xs) = none) := by unfold Hid hardO; rw [ht0, ht1]; rfl
    have h1 := all_one b0 f hb _ ht0
    have hfr := OwnF.toFR (ownF_one w w (Ext.refl _) b0)
    have hcx := hc.ext ((Ext.refl w).alloc (.cells #[.float .f32 b0] 23))
    go_enter Try.func34, Try.ntmps34
    go_wp2_with (first | (go_at_call 99; refine (arePositive_any _ _ [b0] _ _ hfr (by simp) h1).mono ?_; rintro _ _ ⟨rfl, n1, rfl⟩) | (go_at_call 100; refine (are_any _ _ _ _ _ (hcx.drewN _) hl ht1).mono ?_; rintro _ _ ⟨rfl, n2, rfl⟩) | (go_at_call 93; refine (within_any _ _ _ _ (by first | assumption | rfl) _).mono ?_; rintro _ _ ⟨rfl, rfl⟩) | (go_at_call 90; refine (l00In_any _ _ _ _ (by first | assumption | rfl) _).mono ?_; rintro _ _ ⟨rfl, rfl⟩) | (go_at_call 101; refine (isCount_any _ _ (by first | assumption | rfl) _).mono ?_; rintro _ _ ⟨rfl, rfl⟩) | (go_at_call 88; refine (isTrace_any _ _ _ _ (by first | assumption | rfl) _).mono ?_; rintro _ _ ⟨rfl, rfl⟩) | (go_at_call 85; refine (l03Is_any _ _ _ _ (by first | assumption | rfl) (by omega) _).mono ?_; rintro _ _ ⟨rfl, rfl⟩) | (go_at_call 94; refine (length32_any _ _ _ _).mono ?_; rintro _ _ ⟨rfl, rfl⟩) | (go_at_call 160; refine (isFinite64_any _ _ _ (by assumption) (by first | assumption | rfl) _).mono ?_; rintro _ _ ⟨rfl, n, rfl⟩) | (go_at_call 111; refine (isFinite_any _ _ _ (by first | assumption | exact is_ofInt _ _ | exact is_self) (by first | assumption | rfl) _).mono ?_; rintro _ _ ⟨rfl, n, rfl⟩) | (go_at_call 107; refine (l01Finite_any _ _ _ (by first | assumption | exact is_ofInt _ _ | exact is_self) (by first | assumption | rfl) _).mono ?_; rintro _ _ ⟨rfl, n, rfl⟩))
    go_ret2
    exact givesO_none hn.out (by repeat (first | assumption | exact Ext.refl _ | apply Ext.drewN | apply Ext.alloc | (refine Ext.setCell ?_ (by first | assumption | exact Nat.le_refl _) _)))
  | true =>
    have h24 := areB_len ht1
    rw [cl_length] at h24
    have h1 := all_one b0 f hb _ ht0
    have hfr := OwnF.toFR (ownF_one w w (Ext.refl _) b0)
    have hcx := hc.ext ((Ext.refl w).alloc (.cells #[.float .f32 b0] 23))
    obtain ⟨b, off, rfl, _⟩ := hc 0 (by omega)
    have HB0 : Hid (cl [b0] = recP (hardF f (cl xs)) 1) := by unfold Hid; show [canon .f32 b0] = [hardF f (cl xs) []]; unfold hardF; rw [if_pos List.length_nil, hb.out']
    have HT0 := Lib.hid ht0
    have HT1 := Lib.hid ht1
    go_enter Try.func34, Try.ntmps34
    go_wp2_with (first | (go_at_call 99; refine (arePositive_any _ _ [b0] _ _ hfr (by simp) h1).mono ?_; rintro _ _ ⟨rfl, n1, rfl⟩) | (go_at_call 100; refine (are_any _ _ _ _ _ (hcx.drewN _) hl ht1).mono ?_; rintro _ _ ⟨rfl, n2, rfl⟩) | (go_at_call 93; refine (within_any _ _ _ _ (by first | assumption | rfl) _).mono ?_; rintro _ _ ⟨rfl, rfl⟩) | (go_at_call 90; refine (l00In_any _ _ _ _ (by first | assumption | rfl) _).mono ?_; rintro _ _ ⟨rfl, rfl⟩) | (go_at_call 101; refine (isCount_any _ _ (by first | assumption | rfl) _).mono ?_; rintro _ _ ⟨rfl, rfl⟩) | (go_at_call 88; refine (isTrace_any _ _ _ _ (by first | assumption | rfl) _).mono ?_; rintro _ _ ⟨rfl, rfl⟩) | (go_at_call 85; refine (l03Is_any _ _ _ _ (by first | assumption | rfl) (by omega) _).mono ?_; rintro _ _ ⟨rfl, rfl⟩) | (go_at_call 94; refine (length32_any _ _ _ _).mono ?_; rintro _ _ ⟨rfl, rfl⟩) | (go_at_call 160; refine (isFinite64_any _ _ _ (by assumption) (by first | assumption | rfl) _).mono ?_; rintro _ _ ⟨rfl, n, rfl⟩) | (go_at_call 111; refine (isFinite_any _ _ _ (by first | assumption | exact is_ofInt _ _ | exact is_self) (by first | assumption | rfl) _).mono ?_; rintro _ _ ⟨rfl, n, rfl⟩) | (go_at_call 107; refine (l01Finite_any _ _ _ (by first | assumption | exact is_ofInt _ _ | exact is_self) (by first | assumption | rfl) _).mono ?_; rintro _ _ ⟨rfl, n, rfl⟩))
    clear ht0 ht1 h1 hfr hcx
    go_loopw [6, 22] (fun v i wr => ∃ (k : Nat) (ys : List Nat), k ≤ xs.length ∧ i = .int .i64 k ∧ OwnF wr w.heap.size v ys ∧ Hid (cl ys = recP (hardF f (cl xs)) (k + 1)) ∧ Ext w wr) (fun _ i _ => xs.length - (intOf i).toNat)
    case atStart => exact ⟨0, [b0], Nat.zero_le _, rfl, ownF_oneAt _ _ (by repeat (first | assumption | exact Ext.refl _ | apply Ext.drewN | apply Ext.alloc | (refine Ext.setCell ?_ (by first | assumption | exact Nat.le_refl _) _))) _ _ (by simp), HB0, (by repeat (first | assumption | exact Ext.refl _ | apply Ext.drewN | apply Ext.alloc | (refine Ext.setCell ?_ (by first | assumption | exact Nat.le_refl _) _)))⟩
    case round =>
      obtain ⟨k, ys, hk, rfl, hO, hcl, hE⟩ := hrel
      have hyl := rec_len hcl.out
      have h1 := Nat.le_of_eq hyl
      have h2 := Nat.le_of_eq hyl.symm
      have HY := Lib.hid hyl
      clear hyl
      obtain ⟨ao', cap', rfl, hfr⟩ := OwnF.fr hO
      by_cases hlt : k < xs.length
      · obtain ⟨g, off2, rfl, _⟩ := hfr 0 (by omega)
        have hcA := FR.cellW hc hlt wr hE
        have hcB := FR.cellW hfr (show k < ys.length by omega) wr (Ext.refl _)
        have hA := is_el hlt
        have hB := is_el (show k < ys.length by omega)
        have e7 : k < ys.length := by omega
        go_wp2_with (first | (at_builtin; refine wl_append1 _ rfl Try.underlying22 hi0 hz0 hs0 hb0 rfl rfl rfl (by repeat (first | assumption | apply OwnF.drewN | apply OwnF.alloc)) (by repeat (first | assumption | exact Ext.refl _ | apply Ext.drewN | apply Ext.alloc | (refine Ext.setCell ?_ (by first | assumption | exact Nat.le_refl _) _))) (by omega) (by first | exact cell_new _ _ _ | exact cell_newD _ _ _ _) ?_; intro v2 w2 hO2 hE2) | (refine wl_bin rfl rfl rfl rfl rfl (by first | assumption | exact is_ofInt _ _ | exact is_self) (by first | assumption | exact is_ofInt _ _ | exact is_self) ?_; intro r n hr) | (refine wl_cmp rfl rfl rfl rfl rfl (by first | assumption | exact is_ofInt _ _ | exact is_self) (by first | assumption | exact is_ofInt _ _ | exact is_self) (by first | assumption | rfl) ?_) | (refine wl_widen rfl rfl rfl (by first | exact rfl | kernel_rfl) (by kernel_rfl) (by first | assumption | exact is_ofInt _ _ | exact is_self) ?_; intro r n hr) | (refine wl_neg rfl rfl rfl (by first | assumption | exact is_ofInt _ _ | exact is_self) ?_; intro r hr))
        have HR : Hid (Is .f32 r (hardF f (cl xs) (cl ys))) := by unfold Hid; rw [hardF_step f (cl xs) k (by rw [cl_length, HY.out])]; exact hr
        clear hr
        go_roundw
        case rel => exact ⟨k + 1, _, by omega, by go_num, (by repeat (first | assumption | apply OwnF.drewN | apply OwnF.alloc)), rec_step hcl.out HR.out, (by repeat (first | assumption | exact Ext.refl _ | apply Ext.drewN | apply Ext.alloc | (refine Ext.setCell ?_ (by first | assumption | exact Nat.le_refl _) _)))⟩
        case measure => simp [intOf]; omega
      · obtain rfl : xs.length = k := by omega
        have HL : Hid (cl ys = hardL f (cl xs)) := by unfold Hid hardL; rw [cl_length]; exact hcl.out
        cases ha : allP hardB (cl ys) ys.length with
        | false =>
          have hn : Hid (hardO f (cl xs) = none) := by unfold Hid hardO; rw [HT0.out, HT1.out, ← HL.out, cl_length, ← HY.out, ha]; rfl
          go_wp2_with (first | (go_at_call 99; refine (arePositive_any _ _ _ _ _ hfr (by omega) ha).mono ?_; rintro _ _ ⟨rfl, n3, rfl⟩))
          go_ret2
          exact givesO_none hn.out (by repeat (first | assumption | exact Ext.refl _ | apply Ext.drewN | apply Ext.alloc | (refine Ext.setCell ?_ (by first | assumption | exact Nat.le_refl _) _)))
        | true =>
          have hs : Hid (hardO f (cl xs) = some (hardL f (cl xs))) := by unfold Hid hardO; rw [HT0.out, HT1.out, ← HL.out, cl_length, ← HY.out, ha]; rfl
          go_wp2_with (first | (go_at_call 99; refine (arePositive_any _ _ _ _ _ hfr (by omega) ha).mono ?_; rintro _ _ ⟨rfl, n3, rfl⟩))
          go_ret2
          exact givesO_some hs.out (by repeat (first | assumption | exact Ext.refl _ | apply Ext.drewN | apply Ext.alloc | (refine Ext.setCell ?_ (by first | assumption | exact Nat.le_refl _) _))) (by repeat (first | assumption | apply OwnF.drewN | apply OwnF.alloc)) HL.out
end Go.Proofs.Ytncolcjjmllfeaa
