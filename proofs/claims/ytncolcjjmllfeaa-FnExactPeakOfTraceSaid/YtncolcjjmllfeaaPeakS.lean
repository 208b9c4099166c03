/- The greatest by its size: the reference's. -/
import Derived.Test.YtncolcjjmllfeaaPeak
import Derived.Test.YtncolcjjmllfeaaLexw
namespace Go.Proofs.Ytncolcjjmllfeaa
open Go.RowKit
set_option maxRecDepth 100000
set_option linter.unusedVariables false

theorem l03Size_any (b s : Nat) (hb : Is .f32 b s) (w : World) : Calls Try.prog 151 #[.float .f32 b] w (GivesF .f32 (sizeF s) w) := by
  cases h1 : fcmp .lss .f32 s (canon .f32 0) with
  | true =>
    have h : Hid (sizeF s = fneg .f32 s) := by unfold Hid sizeF; rw [h1]; rfl
    go_enter Try.func151, Try.ntmps151
    go_wp2_with (first | (refine wl_bin rfl rfl rfl rfl rfl (by first | assumption | exact is_ofInt _ _ | exact is_self) (by first | assumption | exact is_ofInt _ _ | exact is_self) ?_; intro r n hr) | (refine wl_cmp rfl rfl rfl rfl rfl (by first | assumption | exact is_ofInt _ _ | exact is_self) (by first | assumption | exact is_ofInt _ _ | exact is_self) (by first | assumption | rfl) ?_) | (refine wl_widen rfl rfl rfl (by first | exact rfl | kernel_rfl) (by kernel_rfl) (by first | assumption | exact is_ofInt _ _ | exact is_self) ?_; intro r n hr) | (refine wl_neg rfl rfl rfl (by first | assumption | exact is_ofInt _ _ | exact is_self) ?_; intro r hr))
    go_ret
    exact ⟨_, 0, rfl, by rw [h.out]; assumption, rfl⟩
  | false =>
    have h : Hid (sizeF s = s) := by unfold Hid sizeF; rw [h1]; rfl
    go_enter Try.func151, Try.ntmps151
    go_wp2_with (first | (refine wl_bin rfl rfl rfl rfl rfl (by first | assumption | exact is_ofInt _ _ | exact is_self) (by first | assumption | exact is_ofInt _ _ | exact is_self) ?_; intro r n hr) | (refine wl_cmp rfl rfl rfl rfl rfl (by first | assumption | exact is_ofInt _ _ | exact is_self) (by first | assumption | exact is_ofInt _ _ | exact is_self) (by first | assumption | rfl) ?_) | (refine wl_widen rfl rfl rfl (by first | exact rfl | kernel_rfl) (by kernel_rfl) (by first | assumption | exact is_ofInt _ _ | exact is_self) ?_; intro r n hr) | (refine wl_neg rfl rfl rfl (by first | assumption | exact is_ofInt _ _ | exact is_self) ?_; intro r hr))
    go_ret
    exact ⟨_, 0, rfl, by rw [h.out]; exact hb, rfl⟩
set_option maxHeartbeats 4000000 in
theorem l03Peak_any (ao : Option Addr) (cap : Nat) (xs : List Nat) (w : World) (hc : FR w ao xs) (hl : xs.length ≤ 1048576) : Calls Try.prog 84 #[.slice ao xs.length cap] w fun e w' => ∃ o : Int, e = .returned (.int .i64 o) ∧ Hid (o = pkP (cl xs) xs.length) ∧ ∃ m, w' = w.drewN m := by
  go_enter Try.func84, Try.ntmps84
  go_wp2
  go_loopw [3, 7] (fun o i wr => ∃ (k : Nat) (q : Int), k ≤ xs.length ∧ i = .int .i64 k ∧ o = .int .i64 q ∧ Hid (q = pkP (cl xs) k) ∧ ∃ n, wr = w.drewN n) (fun _ i _ => xs.length - (intOf i).toNat)
  case atStart => exact ⟨0, -1, Nat.zero_le _, rfl, rfl, rfl, 0, rfl⟩
  case round =>
    obtain ⟨k, o, hk, rfl, rfl, hq, n, rfl⟩ := hrel
    by_cases hlt : k < xs.length
    · obtain ⟨b, off, rfl, hcell⟩ := hc k hlt
      have hel := is_el hlt
      have HB : Hid (pkP (cl xs) (k + 1) = if fcmp .eql .f32 (el (cl xs) k) (el (cl xs) k) && (decide (o < 0) || fcmp .gtr .f32 (sizeF (el (cl xs) k)) (sizeF (el (cl xs) o.toNat))) then (k : Int) else o) := by unfold Hid; rw [hq.out]; rfl
      have hb : -1 ≤ o ∧ o < (k : Int) ∧ (o < 0 → o = -1) := by rw [hq.out]; exact pkP_lt (cl xs) k
      clear hq
      cases h0 : fcmp .eql .f32 (el (cl xs) k) (el (cl xs) k) with
      | false =>
        have HN : Hid (pkP (cl xs) (k + 1) = o) := by unfold Hid; rw [HB.out, h0]; rfl
        go_wp2
        refine wp_region_lex (fun _ => Drawn w) (fun _ => false) (fun _ _ => True) (by kernel_rfl) (by kernel_rfl) (by kernel_rfl) (fun _ => drawn_more _) (fun _ => ⟨n, rfl⟩) (fun n0 => ?_)
        repeat (first
          | (refine lw_nil ?_; intro nq)
          | (refine lw_skip rfl ?_; go_simp)
          | (refine lw_move rfl rfl rfl rfl ?_; go_simp)
          | (refine lw_assign rfl rfl rfl rfl ?_; go_simp)
          | (refine lw_not rfl rfl rfl rfl ?_; go_simp)
          | (refine lw_bin rfl rfl rfl rfl rfl rfl (by first | assumption | exact is_ofInt _ _ | exact is_self) (by first | assumption | exact is_ofInt _ _ | exact is_self) ?_; intro r hr; go_simp)
          | (refine lw_cmp rfl rfl rfl rfl rfl rfl (by first | assumption | exact is_ofInt _ _ | exact is_self) (by first | assumption | exact is_ofInt _ _ | exact is_self) (by first | assumption | rfl) ?_; go_simp)
          | (refine lw_widen rfl rfl rfl rfl (by first | exact rfl | kernel_rfl) (by kernel_rfl) (by first | assumption | exact is_ofInt _ _ | exact is_self) ?_; intro r hr; go_simp)
          | (refine lw_valD rfl rfl (fun nn => by go_simp; rfl) ?_; go_simp))
        go_wp2
        go_roundw
        case rel => exact ⟨k + 1, _, by omega, by go_num, rfl, HN.out.symm, _, rfl⟩
        case measure => simp [intOf]; omega
      | true =>
        by_cases ho : o < 0
        · obtain rfl : o = -1 := hb.2.2 ho
          have HN : Hid (pkP (cl xs) (k + 1) = (k : Int)) := by unfold Hid; rw [HB.out, h0]; rfl
          go_wp2
          refine wp_region_lex (fun _ => Drawn w) (fun _ => false) (fun _ _ => True) (by kernel_rfl) (by kernel_rfl) (by kernel_rfl) (fun _ => drawn_more _) (fun _ => ⟨n, rfl⟩) (fun n0 => ?_)
          repeat (first
          | (refine lw_nil ?_; intro nq)
          | (refine lw_skip rfl ?_; go_simp)
          | (refine lw_move rfl rfl rfl rfl ?_; go_simp)
          | (refine lw_assign rfl rfl rfl rfl ?_; go_simp)
          | (refine lw_not rfl rfl rfl rfl ?_; go_simp)
          | (refine lw_bin rfl rfl rfl rfl rfl rfl (by first | assumption | exact is_ofInt _ _ | exact is_self) (by first | assumption | exact is_ofInt _ _ | exact is_self) ?_; intro r hr; go_simp)
          | (refine lw_cmp rfl rfl rfl rfl rfl rfl (by first | assumption | exact is_ofInt _ _ | exact is_self) (by first | assumption | exact is_ofInt _ _ | exact is_self) (by first | assumption | rfl) ?_; go_simp)
          | (refine lw_widen rfl rfl rfl rfl (by first | exact rfl | kernel_rfl) (by kernel_rfl) (by first | assumption | exact is_ofInt _ _ | exact is_self) ?_; intro r hr; go_simp)
          | (refine lw_valD rfl rfl (fun nn => by go_simp; rfl) ?_; go_simp))
          go_wp2
          go_roundw
          case rel => exact ⟨k + 1, _, by omega, by go_num, rfl, HN.out.symm, _, rfl⟩
          case measure => simp [intOf]; omega
        · obtain ⟨m, rfl⟩ : ∃ m : Nat, o = (m : Int) := ⟨o.toNat, by omega⟩
          have hm : m < xs.length := by omega
          obtain ⟨b', off', e1, hcell2⟩ := hc m hm
          injection e1 with e1
          injection e1 with e1 e2
          subst e1 e2
          have helm := is_el hm
          have ho2 : ¬ (m : Int) < 0 := by omega
          have HB2 : Hid (pkP (cl xs) (k + 1) = if fcmp .gtr .f32 (sizeF (el (cl xs) k)) (sizeF (el (cl xs) m)) then (k : Int) else (m : Int)) := by
            unfold Hid; rw [HB.out, h0, decide_eq_false ho2, Bool.false_or, Bool.true_and]; rfl
          clear HB
          cases h1 : fcmp .gtr .f32 (sizeF (el (cl xs) k)) (sizeF (el (cl xs) m)) with
          | true =>
            have HN : Hid (pkP (cl xs) (k + 1) = (k : Int)) := by unfold Hid; rw [HB2.out, h1]; rfl
            go_wp2
            refine wp_region_lex (fun _ => Drawn w) (fun _ => false) (fun j v => ∃ r, v = .float .f32 r ∧ Is .f32 r (if j = 17 then sizeF (el (cl xs) k) else sizeF (el (cl xs) m))) (by kernel_rfl) (by kernel_rfl) (by kernel_rfl) (fun _ => drawn_more _) (fun _ => ⟨n, rfl⟩) (fun n0 => ?_)
            repeat (first
          | (refine lw_nil ?_; intro nq)
          | (refine lw_skip rfl ?_; go_simp)
          | (refine lw_move rfl rfl rfl rfl ?_; go_simp)
          | (refine lw_assign rfl rfl rfl rfl ?_; go_simp)
          | (refine lw_not rfl rfl rfl rfl ?_; go_simp)
          | (refine lw_bin rfl rfl rfl rfl rfl rfl (by first | assumption | exact is_ofInt _ _ | exact is_self) (by first | assumption | exact is_ofInt _ _ | exact is_self) ?_; intro r hr; go_simp)
          | (refine lw_cmp rfl rfl rfl rfl rfl rfl (by first | assumption | exact is_ofInt _ _ | exact is_self) (by first | assumption | exact is_ofInt _ _ | exact is_self) (by first | assumption | rfl) ?_; go_simp)
          | (refine lw_widen rfl rfl rfl rfl (by first | exact rfl | kernel_rfl) (by kernel_rfl) (by first | assumption | exact is_ofInt _ _ | exact is_self) ?_; intro r hr; go_simp)
          | (refine lw_valD rfl rfl (fun nn => by go_simp; rfl) ?_; go_simp))
            refine lw_call (args := #[.float .f32 (el xs k)]) rfl rfl (fun w' hw' => by go_simp; try rfl) (fun w' hw' => (l03Size_any _ _ hel w').mono fun e w'' ⟨r, q, h1, h2, h3⟩ => ⟨_, h1, ⟨r, rfl, by rw [if_pos (by decide)]; exact h2⟩, q, h3⟩) ?_
            rintro _ ⟨r1, rfl, hr1⟩
            rw [if_pos (by decide)] at hr1
            go_simp
            repeat (first
          | (refine lw_nil ?_; intro nq)
          | (refine lw_skip rfl ?_; go_simp)
          | (refine lw_move rfl rfl rfl rfl ?_; go_simp)
          | (refine lw_assign rfl rfl rfl rfl ?_; go_simp)
          | (refine lw_not rfl rfl rfl rfl ?_; go_simp)
          | (refine lw_bin rfl rfl rfl rfl rfl rfl (by first | assumption | exact is_ofInt _ _ | exact is_self) (by first | assumption | exact is_ofInt _ _ | exact is_self) ?_; intro r hr; go_simp)
          | (refine lw_cmp rfl rfl rfl rfl rfl rfl (by first | assumption | exact is_ofInt _ _ | exact is_self) (by first | assumption | exact is_ofInt _ _ | exact is_self) (by first | assumption | rfl) ?_; go_simp)
          | (refine lw_widen rfl rfl rfl rfl (by first | exact rfl | kernel_rfl) (by kernel_rfl) (by first | assumption | exact is_ofInt _ _ | exact is_self) ?_; intro r hr; go_simp)
          | (refine lw_valD rfl rfl (fun nn => by go_simp; rfl) ?_; go_simp))
            refine lw_call (args := #[.float .f32 (el xs m)]) rfl rfl (fun w' hw' => by go_simp; try rfl) (fun w' hw' => (l03Size_any _ _ helm w').mono fun e w'' ⟨r, q, h1, h2, h3⟩ => ⟨_, h1, ⟨r, rfl, by rw [if_neg (by decide)]; exact h2⟩, q, h3⟩) ?_
            rintro _ ⟨r2, rfl, hr2⟩
            rw [if_neg (by decide)] at hr2
            go_simp
            repeat (first
          | (refine lw_nil ?_; intro nq)
          | (refine lw_skip rfl ?_; go_simp)
          | (refine lw_move rfl rfl rfl rfl ?_; go_simp)
          | (refine lw_assign rfl rfl rfl rfl ?_; go_simp)
          | (refine lw_not rfl rfl rfl rfl ?_; go_simp)
          | (refine lw_bin rfl rfl rfl rfl rfl rfl (by first | assumption | exact is_ofInt _ _ | exact is_self) (by first | assumption | exact is_ofInt _ _ | exact is_self) ?_; intro r hr; go_simp)
          | (refine lw_cmp rfl rfl rfl rfl rfl rfl (by first | assumption | exact is_ofInt _ _ | exact is_self) (by first | assumption | exact is_ofInt _ _ | exact is_self) (by first | assumption | rfl) ?_; go_simp)
          | (refine lw_widen rfl rfl rfl rfl (by first | exact rfl | kernel_rfl) (by kernel_rfl) (by first | assumption | exact is_ofInt _ _ | exact is_self) ?_; intro r hr; go_simp)
          | (refine lw_valD rfl rfl (fun nn => by go_simp; rfl) ?_; go_simp))
            go_wp2
            go_roundw
            case rel => exact ⟨k + 1, _, by omega, by go_num, rfl, HN.out.symm, _, rfl⟩
            case measure => simp [intOf]; omega
          | false =>
            have HN : Hid (pkP (cl xs) (k + 1) = (m : Int)) := by unfold Hid; rw [HB2.out, h1]; rfl
            go_wp2
            refine wp_region_lex (fun _ => Drawn w) (fun _ => false) (fun j v => ∃ r, v = .float .f32 r ∧ Is .f32 r (if j = 17 then sizeF (el (cl xs) k) else sizeF (el (cl xs) m))) (by kernel_rfl) (by kernel_rfl) (by kernel_rfl) (fun _ => drawn_more _) (fun _ => ⟨n, rfl⟩) (fun n0 => ?_)
            repeat (first
          | (refine lw_nil ?_; intro nq)
          | (refine lw_skip rfl ?_; go_simp)
          | (refine lw_move rfl rfl rfl rfl ?_; go_simp)
          | (refine lw_assign rfl rfl rfl rfl ?_; go_simp)
          | (refine lw_not rfl rfl rfl rfl ?_; go_simp)
          | (refine lw_bin rfl rfl rfl rfl rfl rfl (by first | assumption | exact is_ofInt _ _ | exact is_self) (by first | assumption | exact is_ofInt _ _ | exact is_self) ?_; intro r hr; go_simp)
          | (refine lw_cmp rfl rfl rfl rfl rfl rfl (by first | assumption | exact is_ofInt _ _ | exact is_self) (by first | assumption | exact is_ofInt _ _ | exact is_self) (by first | assumption | rfl) ?_; go_simp)
          | (refine lw_widen rfl rfl rfl rfl (by first | exact rfl | kernel_rfl) (by kernel_rfl) (by first | assumption | exact is_ofInt _ _ | exact is_self) ?_; intro r hr; go_simp)
          | (refine lw_valD rfl rfl (fun nn => by go_simp; rfl) ?_; go_simp))
            refine lw_call (args := #[.float .f32 (el xs k)]) rfl rfl (fun w' hw' => by go_simp; try rfl) (fun w' hw' => (l03Size_any _ _ hel w').mono fun e w'' ⟨r, q, h1, h2, h3⟩ => ⟨_, h1, ⟨r, rfl, by rw [if_pos (by decide)]; exact h2⟩, q, h3⟩) ?_
            rintro _ ⟨r1, rfl, hr1⟩
            rw [if_pos (by decide)] at hr1
            go_simp
            repeat (first
          | (refine lw_nil ?_; intro nq)
          | (refine lw_skip rfl ?_; go_simp)
          | (refine lw_move rfl rfl rfl rfl ?_; go_simp)
          | (refine lw_assign rfl rfl rfl rfl ?_; go_simp)
          | (refine lw_not rfl rfl rfl rfl ?_; go_simp)
          | (refine lw_bin rfl rfl rfl rfl rfl rfl (by first | assumption | exact is_ofInt _ _ | exact is_self) (by first | assumption | exact is_ofInt _ _ | exact is_self) ?_; intro r hr; go_simp)
          | (refine lw_cmp rfl rfl rfl rfl rfl rfl (by first | assumption | exact is_ofInt _ _ | exact is_self) (by first | assumption | exact is_ofInt _ _ | exact is_self) (by first | assumption | rfl) ?_; go_simp)
          | (refine lw_widen rfl rfl rfl rfl (by first | exact rfl | kernel_rfl) (by kernel_rfl) (by first | assumption | exact is_ofInt _ _ | exact is_self) ?_; intro r hr; go_simp)
          | (refine lw_valD rfl rfl (fun nn => by go_simp; rfl) ?_; go_simp))
            refine lw_call (args := #[.float .f32 (el xs m)]) rfl rfl (fun w' hw' => by go_simp; try rfl) (fun w' hw' => (l03Size_any _ _ helm w').mono fun e w'' ⟨r, q, h1, h2, h3⟩ => ⟨_, h1, ⟨r, rfl, by rw [if_neg (by decide)]; exact h2⟩, q, h3⟩) ?_
            rintro _ ⟨r2, rfl, hr2⟩
            rw [if_neg (by decide)] at hr2
            go_simp
            repeat (first
          | (refine lw_nil ?_; intro nq)
          | (refine lw_skip rfl ?_; go_simp)
          | (refine lw_move rfl rfl rfl rfl ?_; go_simp)
          | (refine lw_assign rfl rfl rfl rfl ?_; go_simp)
          | (refine lw_not rfl rfl rfl rfl ?_; go_simp)
          | (refine lw_bin rfl rfl rfl rfl rfl rfl (by first | assumption | exact is_ofInt _ _ | exact is_self) (by first | assumption | exact is_ofInt _ _ | exact is_self) ?_; intro r hr; go_simp)
          | (refine lw_cmp rfl rfl rfl rfl rfl rfl (by first | assumption | exact is_ofInt _ _ | exact is_self) (by first | assumption | exact is_ofInt _ _ | exact is_self) (by first | assumption | rfl) ?_; go_simp)
          | (refine lw_widen rfl rfl rfl rfl (by first | exact rfl | kernel_rfl) (by kernel_rfl) (by first | assumption | exact is_ofInt _ _ | exact is_self) ?_; intro r hr; go_simp)
          | (refine lw_valD rfl rfl (fun nn => by go_simp; rfl) ?_; go_simp))
            go_wp2
            go_roundw
            case rel => exact ⟨k + 1, _, by omega, by go_num, rfl, HN.out.symm, _, rfl⟩
            case measure => simp [intOf]; omega
    · go_wp2
      go_ret
      obtain rfl : k = xs.length := by omega
      exact ⟨_, rfl, hq, _, rfl⟩
set_option maxHeartbeats 2000000 in
theorem specPeak_any (ao : Option Addr) (cap : Nat) (xs : List Nat) (w : World) (hc : FR w ao xs) (hl : xs.length ≤ 1048576) : Calls Try.prog 24 #[.slice ao xs.length cap] w (GivesIFE (peakO (cl xs)) w) := by
  go_enter Try.func24, Try.ntmps24
  go_wp2_with fail
  go_at_call 84; refine (l03Peak_any _ _ _ _ hc hl).mono ?_; rintro _ _ ⟨o, rfl, ho, n, rfl⟩
  have hb : -1 ≤ o ∧ o < (xs.length : Int) ∧ (o < 0 → o = -1) := by rw [ho.out]; exact pkP_lt _ _
  have hP : Hid (peakO (cl xs) = if inB (xs.length : Int) 1 128 && decide (0 ≤ o) then some (o, el (cl xs) o.toNat) else none) := by
    unfold Hid peakO; rw [isTr_cl, cl_length, ho.out, pk_best _ _ (by rw [cl_length]; exact Nat.le_refl _)]
  clear ho
  cases ht : inB (xs.length : Int) 1 128 with
  | false =>
    have hn : Hid (peakO (cl xs) = none) := by unfold Hid; rw [hP.out, ht]; rfl
    by_cases ho : o < 0 <;>
    (go_wp2_with (first | (go_at_call 93; refine (within_any _ _ _ _ (by first | assumption | rfl) _).mono ?_; rintro _ _ ⟨rfl, rfl⟩) | (go_at_call 90; refine (l00In_any _ _ _ _ (by first | assumption | rfl) _).mono ?_; rintro _ _ ⟨rfl, rfl⟩) | (go_at_call 101; refine (isCount_any _ _ (by first | assumption | rfl) _).mono ?_; rintro _ _ ⟨rfl, rfl⟩) | (go_at_call 88; refine (isTrace_any _ _ _ _ (by first | assumption | rfl) _).mono ?_; rintro _ _ ⟨rfl, rfl⟩) | (go_at_call 85; refine (l03Is_any _ _ _ _ (by first | assumption | rfl) (by omega) _).mono ?_; rintro _ _ ⟨rfl, rfl⟩) | (go_at_call 94; refine (length32_any _ _ _ _).mono ?_; rintro _ _ ⟨rfl, rfl⟩) | (go_at_call 160; refine (isFinite64_any _ _ _ (by assumption) (by first | assumption | rfl) _).mono ?_; rintro _ _ ⟨rfl, n, rfl⟩) | (go_at_call 111; refine (isFinite_any _ _ _ (by first | assumption | exact is_ofInt _ _ | exact is_self) (by first | assumption | rfl) _).mono ?_; rintro _ _ ⟨rfl, n, rfl⟩) | (go_at_call 107; refine (l01Finite_any _ _ _ (by first | assumption | exact is_ofInt _ _ | exact is_self) (by first | assumption | rfl) _).mono ?_; rintro _ _ ⟨rfl, n, rfl⟩) | (refine wl_bin rfl rfl rfl rfl rfl (by first | assumption | exact is_ofInt _ _ | exact is_self) (by first | assumption | exact is_ofInt _ _ | exact is_self) ?_; intro r n hr) | (refine wl_cmp rfl rfl rfl rfl rfl (by first | assumption | exact is_ofInt _ _ | exact is_self) (by first | assumption | exact is_ofInt _ _ | exact is_self) (by first | assumption | rfl) ?_) | (refine wl_widen rfl rfl rfl (by first | exact rfl | kernel_rfl) (by kernel_rfl) (by first | assumption | exact is_ofInt _ _ | exact is_self) ?_; intro r n hr) | (refine wl_neg rfl rfl rfl (by first | assumption | exact is_ofInt _ _ | exact is_self) ?_; intro r hr))
     go_ret3
     exact givesIFE_none hn.out (by repeat (first | assumption | exact Ext.refl _ | apply Ext.drewN | apply Ext.alloc | (refine Ext.setCell ?_ (by first | assumption | exact Nat.le_refl _) _))))
  | true =>
    by_cases ho : o < 0
    · have hn : Hid (peakO (cl xs) = none) := by unfold Hid; rw [hP.out, decide_eq_false (by omega : ¬ 0 ≤ o), Bool.and_false]; rfl
      go_wp2_with (first | (go_at_call 93; refine (within_any _ _ _ _ (by first | assumption | rfl) _).mono ?_; rintro _ _ ⟨rfl, rfl⟩) | (go_at_call 90; refine (l00In_any _ _ _ _ (by first | assumption | rfl) _).mono ?_; rintro _ _ ⟨rfl, rfl⟩) | (go_at_call 101; refine (isCount_any _ _ (by first | assumption | rfl) _).mono ?_; rintro _ _ ⟨rfl, rfl⟩) | (go_at_call 88; refine (isTrace_any _ _ _ _ (by first | assumption | rfl) _).mono ?_; rintro _ _ ⟨rfl, rfl⟩) | (go_at_call 85; refine (l03Is_any _ _ _ _ (by first | assumption | rfl) (by omega) _).mono ?_; rintro _ _ ⟨rfl, rfl⟩) | (go_at_call 94; refine (length32_any _ _ _ _).mono ?_; rintro _ _ ⟨rfl, rfl⟩) | (go_at_call 160; refine (isFinite64_any _ _ _ (by assumption) (by first | assumption | rfl) _).mono ?_; rintro _ _ ⟨rfl, n, rfl⟩) | (go_at_call 111; refine (isFinite_any _ _ _ (by first | assumption | exact is_ofInt _ _ | exact is_self) (by first | assumption | rfl) _).mono ?_; rintro _ _ ⟨rfl, n, rfl⟩) | (go_at_call 107; refine (l01Finite_any _ _ _ (by first | assumption | exact is_ofInt _ _ | exact is_self) (by first | assumption | rfl) _).mono ?_; rintro _ _ ⟨rfl, n, rfl⟩) | (refine wl_bin rfl rfl rfl rfl rfl (by first | assumption | exact is_ofInt _ _ | exact is_self) (by first | assumption | exact is_ofInt _ _ | exact is_self) ?_; intro r n hr) | (refine wl_cmp rfl rfl rfl rfl rfl (by first | assumption | exact is_ofInt _ _ | exact is_self) (by first | assumption | exact is_ofInt _ _ | exact is_self) (by first | assumption | rfl) ?_) | (refine wl_widen rfl rfl rfl (by first | exact rfl | kernel_rfl) (by kernel_rfl) (by first | assumption | exact is_ofInt _ _ | exact is_self) ?_; intro r n hr) | (refine wl_neg rfl rfl rfl (by first | assumption | exact is_ofInt _ _ | exact is_self) ?_; intro r hr))
      go_ret3
      exact givesIFE_none hn.out (by repeat (first | assumption | exact Ext.refl _ | apply Ext.drewN | apply Ext.alloc | (refine Ext.setCell ?_ (by first | assumption | exact Nat.le_refl _) _)))
    · obtain ⟨m, rfl⟩ : ∃ m : Nat, o = (m : Int) := ⟨o.toNat, by omega⟩
      have hm : m < xs.length := by omega
      have hs : Hid (peakO (cl xs) = some ((m : Int), el (cl xs) m)) := by unfold Hid; rw [hP.out, ht, decide_eq_true (by omega : 0 ≤ (m : Int))]; rfl
      obtain ⟨b, off, rfl, hcell⟩ := hc m hm
      have hel := is_el hm
      go_wp2_with (first | (go_at_call 93; refine (within_any _ _ _ _ (by first | assumption | rfl) _).mono ?_; rintro _ _ ⟨rfl, rfl⟩) | (go_at_call 90; refine (l00In_any _ _ _ _ (by first | assumption | rfl) _).mono ?_; rintro _ _ ⟨rfl, rfl⟩) | (go_at_call 101; refine (isCount_any _ _ (by first | assumption | rfl) _).mono ?_; rintro _ _ ⟨rfl, rfl⟩) | (go_at_call 88; refine (isTrace_any _ _ _ _ (by first | assumption | rfl) _).mono ?_; rintro _ _ ⟨rfl, rfl⟩) | (go_at_call 85; refine (l03Is_any _ _ _ _ (by first | assumption | rfl) (by omega) _).mono ?_; rintro _ _ ⟨rfl, rfl⟩) | (go_at_call 94; refine (length32_any _ _ _ _).mono ?_; rintro _ _ ⟨rfl, rfl⟩) | (go_at_call 160; refine (isFinite64_any _ _ _ (by assumption) (by first | assumption | rfl) _).mono ?_; rintro _ _ ⟨rfl, n, rfl⟩) | (go_at_call 111; refine (isFinite_any _ _ _ (by first | assumption | exact is_ofInt _ _ | exact is_self) (by first | assumption | rfl) _).mono ?_; rintro _ _ ⟨rfl, n, rfl⟩) | (go_at_call 107; refine (l01Finite_any _ _ _ (by first | assumption | exact is_ofInt _ _ | exact is_self) (by first | assumption | rfl) _).mono ?_; rintro _ _ ⟨rfl, n, rfl⟩) | (refine wl_bin rfl rfl rfl rfl rfl (by first | assumption | exact is_ofInt _ _ | exact is_self) (by first | assumption | exact is_ofInt _ _ | exact is_self) ?_; intro r n hr) | (refine wl_cmp rfl rfl rfl rfl rfl (by first | assumption | exact is_ofInt _ _ | exact is_self) (by first | assumption | exact is_ofInt _ _ | exact is_self) (by first | assumption | rfl) ?_) | (refine wl_widen rfl rfl rfl (by first | exact rfl | kernel_rfl) (by kernel_rfl) (by first | assumption | exact is_ofInt _ _ | exact is_self) ?_; intro r n hr) | (refine wl_neg rfl rfl rfl (by first | assumption | exact is_ofInt _ _ | exact is_self) ?_; intro r hr))
      refine wp_region_mix (fun _ => Drawn w) (fun _ => false) (fun _ _ => True) (by kernel_rfl) (by kernel_rfl) (by kernel_rfl) (fun _ => drawn_more _) (fun _ => ⟨n, rfl⟩) (fun n0 => ?_)
      repeat (first
          | (refine lx_nil ?_; intro nq)
          | (refine lx_skip rfl ?_; go_simp)
          | (refine lx_move rfl rfl rfl rfl ?_; go_simp)
          | (refine lx_assign rfl rfl rfl rfl ?_; go_simp)
          | (refine lx_bin rfl rfl rfl rfl rfl rfl (by first | assumption | exact is_ofInt _ _ | exact is_self) (by first | assumption | exact is_ofInt _ _ | exact is_self) ?_; intro r hr; go_simp)
          | (refine lx_cmp rfl rfl rfl rfl rfl rfl (by first | assumption | exact is_ofInt _ _ | exact is_self) (by first | assumption | exact is_ofInt _ _ | exact is_self) (by first | assumption | rfl) ?_; go_simp)
          | (refine lx_widen rfl rfl rfl rfl (by first | exact rfl | kernel_rfl) (by kernel_rfl) (by first | assumption | exact is_ofInt _ _ | exact is_self) ?_; intro r hr; go_simp)
          | (refine lx_valD rfl rfl (fun nn => by go_simp; rfl) ?_; go_simp))
      go_wp2
      go_ret3
      exact givesIFE_some hs.out hel (by repeat (first | assumption | exact Ext.refl _ | apply Ext.drewN | apply Ext.alloc | (refine Ext.setCell ?_ (by first | assumption | exact Nat.le_refl _) _)))
end Go.Proofs.Ytncolcjjmllfeaa
