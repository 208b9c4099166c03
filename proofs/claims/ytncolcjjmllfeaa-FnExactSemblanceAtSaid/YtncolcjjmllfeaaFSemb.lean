/- SemblanceAt: the reference's and the program's. -/
import Derived.Test.YtncolcjjmllfeaaFStack
namespace Go.Proofs.Ytncolcjjmllfeaa
open Go.RowKit
set_option maxRecDepth 100000
set_option linter.unusedVariables false

def inn (rs : List (List Nat)) (k a : Nat) : Nat → Nat
  | 0 => a
  | i + 1 => fop .add .f32 (inn rs k a i) (fop .mul .f32 (tickF rs k i) (tickF rs k i))
def oneA (rs : List (List Nat)) (lo n : Nat) : Nat → Nat
  | 0 => 0
  | c + 1 => fop .add .f32 (oneA rs lo n c) (fop .mul .f32 (sumG rs (lo + c) n) (sumG rs (lo + c) n))
def allA (rs : List (List Nat)) (lo n : Nat) : Nat → Nat
  | 0 => 0
  | c + 1 => inn rs (lo + c) (allA rs lo n c) n
def semF (rs : List (List Nat)) (lo c n : Nat) : Nat :=
  if fcmp .gtr .f32 (fop .mul .f32 (floatOfInt .f32 (n : Int)) (allA rs lo n c)) (canon .f32 0) then fop .quo .f32 (oneA rs lo n c) (fop .mul .f32 (floatOfInt .f32 (n : Int)) (allA rs lo n c)) else 0
theorem one_step (rs : List (List Nat)) (lo n k : Nat) (h : lo ≤ k) : oneA rs lo n (k + 1 - lo) = fop .add .f32 (oneA rs lo n (k - lo)) (fop .mul .f32 (sumG rs k n) (sumG rs k n)) := by
  rw [show k + 1 - lo = (k - lo) + 1 by omega]
  show fop .add .f32 (oneA rs lo n (k - lo)) (fop .mul .f32 (sumG rs (lo + (k - lo)) n) (sumG rs (lo + (k - lo)) n)) = _
  rw [show lo + (k - lo) = k by omega]
theorem all_step (rs : List (List Nat)) (lo n k : Nat) (h : lo ≤ k) : allA rs lo n (k + 1 - lo) = inn rs k (allA rs lo n (k - lo)) n := by
  rw [show k + 1 - lo = (k - lo) + 1 by omega]
  show inn rs (lo + (k - lo)) (allA rs lo n (k - lo)) n = _
  rw [show lo + (k - lo) = k by omega]
theorem run_max_ii (P : Program) (w : World) (a b : Int) (ts : Array TypeId) (t : TypeId) : (Builtin.max_ ts t #[.int .i64 a, .int .i64 b]).run P w = .ok (.int .i64 (if a < b then b else a)) w := by
  simp [Builtin.max_, Builtin.max2]
theorem run_min_ii (P : Program) (w : World) (a b : Int) (ts : Array TypeId) (t : TypeId) : (Builtin.min_ ts t #[.int .i64 a, .int .i64 b]).run P w = .ok (.int .i64 (if b < a then b else a)) w := by
  simp [Builtin.min_, Builtin.min2]
theorem l00Max_any (a b c : Int) (h : (if b < a then a else b) = c) (w : World) : Calls Try.prog 170 #[.int .i64 a, .int .i64 b] w fun e w' => e = .returned (.int .i64 c) ∧ w = w' := by
  subst h
  by_cases h : b < a
  · rw [if_pos h]
    go_enter Try.func170, Try.ntmps170
    go_wp2
    go_ret
    exact ⟨rfl, rfl⟩
  · rw [if_neg h]
    go_enter Try.func170, Try.ntmps170
    go_wp2
    go_ret
    exact ⟨rfl, rfl⟩
theorem l00Min_any (a b c : Int) (h : (if a < b then a else b) = c) (w : World) : Calls Try.prog 171 #[.int .i64 a, .int .i64 b] w fun e w' => e = .returned (.int .i64 c) ∧ w = w' := by
  subst h
  by_cases h : a < b
  · rw [if_pos h]
    go_enter Try.func171, Try.ntmps171
    go_wp2
    go_ret
    exact ⟨rfl, rfl⟩
  · rw [if_neg h]
    go_enter Try.func171, Try.ntmps171
    go_wp2
    go_ret
    exact ⟨rfl, rfl⟩
set_option maxHeartbeats 4000000 in
theorem semb_any (N tk re lo hi : Nat) (pa : Option Addr) (pc : Nat) (ps : List Nat) (ra : Option Addr) (rc : Nat) (rs : List (List Nat)) (w : World) (hp : FR w pa ps) (hr : RS w ra rs) (hl : ps.length + (rs.length + tot rs) ≤ 1048576) (hN : N ≤ 64) (hre : re ≤ 64) (htk : tk < N) (hlo : lo = tk - re) (hhi : hi = min (N - 1) (tk + re)) (hkr : ∀ k, k < N → ∀ i, i < rs.length → k < (row rs i).length) :
    Calls Try.prog 136 #[.agg #[.int .i64 (N : Int), .slice pa ps.length pc, .slice ra rs.length rc], .int .i64 (tk : Int), .int .i64 (re : Int)] w (GivesFX (semF (cls rs) lo (hi + 1 - lo) rs.length) w) := by
  have hI1 : (0 : Int) ≤ (tk : Int) := by omega
  have HLO : Hid ((if (tk : Int) - (re : Int) < 0 then 0 else (tk : Int) - (re : Int)) = (lo : Int)) := by unfold Hid; split <;> omega
  have HHI : Hid ((if (N : Int) - 1 < (tk : Int) + (re : Int) then (N : Int) - 1 else (tk : Int) + (re : Int)) = (hi : Int)) := by unfold Hid; split <;> omega
  have hlo1 : lo ≤ hi + 1 := by omega
  have hhi1 : hi < N := by omega
  have hl1 : rs.length ≤ 1048576 := by omega
  generalize hA : w.alloc (.cells #[.int .i64 (N : Int), .slice pa ps.length pc, .slice ra rs.length rc] 47) = w0
  have E0 : Ext w w0 := by rw [← hA]; exact (Ext.refl w).alloc _
  have c0 : w0.cell? ⟨w.heap.size, 0, none⟩ = some (.int .i64 (N : Int)) := by rw [← hA]; exact boxed (Ext.refl _) rfl
  have c1 : w0.cell? ⟨w.heap.size, 1, none⟩ = some (.slice pa ps.length pc) := by rw [← hA]; exact boxed (Ext.refl _) rfl
  have c2 : w0.cell? ⟨w.heap.size, 2, none⟩ = some (.slice ra rs.length rc) := by rw [← hA]; exact boxed (Ext.refl _) rfl
  have hpw := hp.ext E0
  have hrw := hr.ext E0
  have HA := Lib.hid hA
  clear hA
  have e3 := fun (w' : World) (ts : Array TypeId) (ty : TypeId) => run_max_ii Try.prog w' 0 ((tk : Int) - (re : Int)) ts ty
  have elo : (if (0 : Int) < (tk : Int) - (re : Int) then (tk : Int) - (re : Int) else 0) = (lo : Int) := by split <;> omega
  rw [elo] at e3
  have e5 := fun (w' : World) (ts : Array TypeId) (ty : TypeId) => run_min_ii Try.prog w' ((N : Int) - 1) ((tk : Int) + (re : Int)) ts ty
  have ehi : (if (tk : Int) + (re : Int) < (N : Int) - 1 then (tk : Int) + (re : Int) else (N : Int) - 1) = (hi : Int) := by split <;> omega
  rw [ehi] at e5
  clear elo ehi
  clear hlo hhi
  go_enter Try.func136, Try.ntmps136
  go_wp2
  rw [HA.out]
  go_loopw [7, 8, 9] (fun s1 s2 kv wr => ∃ (k b1 b2 : Nat), lo ≤ k ∧ k ≤ hi + 1 ∧ kv = .int .i64 k ∧ s1 = .float .f32 b1 ∧ Is .f32 b1 (oneA (cls rs) lo rs.length (k - lo)) ∧ s2 = .float .f32 b2 ∧ Is .f32 b2 (allA (cls rs) lo rs.length (k - lo)) ∧ Ext w0 wr) (fun _ _ kv _ => hi + 1 - (intOf kv).toNat)
  case atStart => exact ⟨lo, 0, 0, Nat.le_refl _, by omega, rfl, rfl, by rw [Nat.sub_self]; exact is_zero, rfl, by rw [Nat.sub_self]; exact is_zero, (by repeat (first | assumption | exact Ext.refl _ | apply Ext.drewN | apply Ext.alloc | (refine Ext.setCell ?_ (by first | assumption | exact Nat.le_refl _) _)))⟩
  case round =>
    obtain ⟨k, b1, b2, hk1, hk2, rfl, rfl, hb1, rfl, hb2, hE⟩ := hrel
    have e0 := hE.cell c0
    have e1 := hE.cell c1
    have e2 := hE.cell c2
    by_cases hlt : k ≤ hi
    · have hkN : k < N := by omega
      have hkk := hkr k hkN
      have hlt2 : (k : Int) ≤ (hi : Int) := by omega
      go_wp2_with fail
      go_at_call 132; refine (stack_any _ _ _ _ _ _ _ _ _ (hpw.ext hE) (hrw.ext hE) hl hkk).mono ?_; rintro _ w2 ⟨r0, rfl, hr0, E2⟩
      have hE2 := hE.trans E2
      clear e0 e1 e2
      have e0 := hE2.cell c0
      have e1 := hE2.cell c1
      have e2 := hE2.cell c2
      have HO : Hid (oneA (cls rs) lo rs.length (k + 1 - lo) = fop .add .f32 (oneA (cls rs) lo rs.length (k - lo)) (fop .mul .f32 (sumG (cls rs) k rs.length) (sumG (cls rs) k rs.length))) := one_step _ _ _ _ hk1
      have HA2 : Hid (allA (cls rs) lo rs.length (k + 1 - lo) = inn (cls rs) k (allA (cls rs) lo rs.length (k - lo)) rs.length) := all_step _ _ _ _ hk1
      have hbb2 := hb2
      go_wp2_with (first | (refine wl_bin rfl rfl rfl rfl rfl (by first | assumption | exact is_ofInt _ _ | exact is_self) (by first | assumption | exact is_ofInt _ _ | exact is_self) ?_; intro r n hr) | (refine wl_cmp rfl rfl rfl rfl rfl (by first | assumption | exact is_ofInt _ _ | exact is_self) (by first | assumption | exact is_ofInt _ _ | exact is_self) (by first | assumption | rfl) ?_) | (refine wl_widen rfl rfl rfl (by first | exact rfl | kernel_rfl) (by kernel_rfl) (by first | assumption | exact is_ofInt _ _ | exact is_self) ?_; intro r n hr) | (refine wl_neg rfl rfl rfl (by first | assumption | exact is_ofInt _ _ | exact is_self) ?_; intro r hr))
      have HONE : Hid (Is .f32 r (oneA (cls rs) lo rs.length (k + 1 - lo))) := by unfold Hid; rw [HO.out]; exact hr
      clear hr HO hb1 hr0 hb2
      go_loopw [8, 44] (fun s i wq => ∃ (j bb : Nat), j ≤ rs.length ∧ i = .int .i64 j ∧ s = .float .f32 bb ∧ Is .f32 bb (inn (cls rs) k (allA (cls rs) lo rs.length (k - lo)) j) ∧ Ext w0 wq) (fun _ i _ => rs.length - (intOf i).toNat)
      case atStart => exact ⟨0, b2, Nat.zero_le _, rfl, rfl, hbb2, (by repeat (first | assumption | exact Ext.refl _ | apply Ext.drewN | apply Ext.alloc | (refine Ext.setCell ?_ (by first | assumption | exact Nat.le_refl _) _)))⟩
      case round =>
        obtain ⟨j, bb, hj, rfl, rfl, hbb, hEq⟩ := hrel
        have e0 := hEq.cell c0
        have e1 := hEq.cell c1
        have e2 := hEq.cell c2
        by_cases hlt3 : j < rs.length
        · obtain ⟨b, off, rb, rd, rfl, hcell, hf⟩ := hrw.ext hEq j hlt3
          have hkj := hkk j hlt3
          obtain ⟨b3, off2, rfl, hcell2⟩ := hf k hkj
          have hel := is_el hkj
          rw [← cls_row] at hel
          have HS : Hid (inn (cls rs) k (allA (cls rs) lo rs.length (k - lo)) (j + 1) = fop .add .f32 (inn (cls rs) k (allA (cls rs) lo rs.length (k - lo)) j) (fop .mul .f32 (el (row (cls rs) j) k) (el (row (cls rs) j) k))) := rfl
          have hkj2 : (k : Int) < ((row rs j).length : Int) := by omega
          have hj2 : (j : Int) < (rs.length : Int) := by omega
          go_wp2
          refine wp_region_lex (fun _ => Drawn wr) (fun _ => false) (fun _ _ => True) (by kernel_rfl) (by kernel_rfl) (by kernel_rfl) (fun _ => drawn_more _) (fun _ => ⟨0, rfl⟩) (fun n0 => ?_)
          (refine lw_move rfl rfl rfl rfl ?_; go_simp)
          (refine lw_move rfl rfl rfl rfl ?_; go_simp)
          (refine lw_move rfl rfl rfl rfl ?_; go_simp)
          (refine lw_valD rfl rfl (fun nn => by go_simp; rfl) ?_; go_simp)
          (refine lw_valD rfl rfl (fun nn => by go_simp; rfl) ?_; go_simp)
          (refine lw_move rfl rfl rfl rfl ?_; go_simp)
          (refine lw_move rfl rfl rfl rfl ?_; go_simp)
          (refine lw_valD rfl rfl (fun nn => by go_simp; rfl) ?_; go_simp)
          (refine lw_valD rfl rfl (fun nn => by go_simp; rfl) ?_; go_simp)
          (refine lw_bin rfl rfl rfl rfl rfl rfl (by first | assumption | exact is_ofInt _ _ | exact is_self) (by first | assumption | exact is_ofInt _ _ | exact is_self) ?_; intro r hr; go_simp)
          (refine lw_bin rfl rfl rfl rfl rfl rfl (by first | assumption | exact is_ofInt _ _ | exact is_self) (by first | assumption | exact is_ofInt _ _ | exact is_self) ?_; intro r hr; go_simp)
          (refine lw_assign rfl rfl rfl rfl ?_; go_simp)
          (refine lw_nil ?_; intro nq)
          have HR : Hid (Is .f32 r (inn (cls rs) k (allA (cls rs) lo rs.length (k - lo)) (j + 1))) := by unfold Hid; rw [HS.out]; exact hr
          clear hr
          go_wp2
          go_roundw
          case rel => exact ⟨j + 1, _, by omega, by go_num, rfl, HR.out, (by repeat (first | assumption | exact Ext.refl _ | apply Ext.drewN | apply Ext.alloc | (refine Ext.setCell ?_ (by first | assumption | exact Nat.le_refl _) _)))⟩
          case measure => simp [intOf]; omega
        · obtain rfl : rs.length = j := by omega
          go_wp2
          go_roundw
          case rel => exact ⟨k + 1, _, _, by omega, by omega, by go_num, rfl, HONE.out, rfl, by rw [HA2.out]; exact hbb, hEq⟩
          case measure => simp [intOf]; omega
    · obtain rfl : k = hi + 1 := by omega
      have hlt2 : ¬ ((hi + 1 : Nat) : Int) ≤ (hi : Int) := by omega
      cases hq : fcmp .gtr .f32 (fop .mul .f32 (floatOfInt .f32 (rs.length : Int)) (allA (cls rs) lo rs.length (hi + 1 - lo))) (canon .f32 0) with
      | true =>
        have hv : Hid (semF (cls rs) lo (hi + 1 - lo) rs.length = fop .quo .f32 (oneA (cls rs) lo rs.length (hi + 1 - lo)) (fop .mul .f32 (floatOfInt .f32 (rs.length : Int)) (allA (cls rs) lo rs.length (hi + 1 - lo)))) := by unfold Hid semF; rw [hq]; rfl
        go_wp2_with (first | (refine wl_bin rfl rfl rfl rfl rfl (by first | assumption | exact is_ofInt _ _ | exact is_self) (by first | assumption | exact is_ofInt _ _ | exact is_self) ?_; intro r n hr) | (refine wl_cmp rfl rfl rfl rfl rfl (by first | assumption | exact is_ofInt _ _ | exact is_self) (by first | assumption | exact is_ofInt _ _ | exact is_self) (by first | assumption | rfl) ?_) | (refine wl_widen rfl rfl rfl (by first | exact rfl | kernel_rfl) (by kernel_rfl) (by first | assumption | exact is_ofInt _ _ | exact is_self) ?_; intro r n hr) | (refine wl_neg rfl rfl rfl (by first | assumption | exact is_ofInt _ _ | exact is_self) ?_; intro r hr))
        go_ret
        exact ⟨_, rfl, by rw [hv.out]; assumption, E0.trans (by repeat (first | assumption | exact Ext.refl _ | apply Ext.drewN | apply Ext.alloc | (refine Ext.setCell ?_ (by first | assumption | exact Nat.le_refl _) _)))⟩
      | false =>
        have hv : Hid (semF (cls rs) lo (hi + 1 - lo) rs.length = 0) := by unfold Hid semF; rw [hq]; rfl
        go_wp2_with (first | (refine wl_bin rfl rfl rfl rfl rfl (by first | assumption | exact is_ofInt _ _ | exact is_self) (by first | assumption | exact is_ofInt _ _ | exact is_self) ?_; intro r n hr) | (refine wl_cmp rfl rfl rfl rfl rfl (by first | assumption | exact is_ofInt _ _ | exact is_self) (by first | assumption | exact is_ofInt _ _ | exact is_self) (by first | assumption | rfl) ?_) | (refine wl_widen rfl rfl rfl (by first | exact rfl | kernel_rfl) (by kernel_rfl) (by first | assumption | exact is_ofInt _ _ | exact is_self) ?_; intro r n hr) | (refine wl_neg rfl rfl rfl (by first | assumption | exact is_ofInt _ _ | exact is_self) ?_; intro r hr))
        go_ret
        exact ⟨_, rfl, by rw [hv.out]; exact is_zero, E0.trans (by repeat (first | assumption | exact Ext.refl _ | apply Ext.drewN | apply Ext.alloc | (refine Ext.setCell ?_ (by first | assumption | exact Nat.le_refl _) _)))⟩
set_option maxHeartbeats 4000000 in
theorem l04Semb_any (B : Nat) (N tk re lo hi : Nat) (pa : Option Addr) (pc : Nat) (ps : List Nat) (ra : Option Addr) (rc : Nat) (rs : List (List Nat)) (w0 : World) (c0 : w0.cell? ⟨B, 0, none⟩ = some (.int .i64 (N : Int))) (c1 : w0.cell? ⟨B, 1, none⟩ = some (.slice pa ps.length pc)) (c2 : w0.cell? ⟨B, 2, none⟩ = some (.slice ra rs.length rc)) (hpw : FR w0 pa ps) (hrw : RS w0 ra rs) (hl : ps.length + (rs.length + tot rs) ≤ 1048576) (hN : N ≤ 64) (hre : re ≤ 64) (htk : tk < N) (hlo : lo = tk - re) (hhi : hi = min (N - 1) (tk + re)) (hkr : ∀ k, k < N → ∀ i, i < rs.length → k < (row rs i).length) :
    Calls Try.prog 134 #[.pointer (some ⟨B, 0, none⟩), .int .i64 (tk : Int), .int .i64 (re : Int)] w0 (GivesFX (semF (cls rs) lo (hi + 1 - lo) rs.length) w0) := by
  have hI1 : (0 : Int) ≤ (tk : Int) := by omega
  have HLO : Hid ((if (tk : Int) - (re : Int) < 0 then 0 else (tk : Int) - (re : Int)) = (lo : Int)) := by unfold Hid; split <;> omega
  have HHI : Hid ((if (N : Int) - 1 < (tk : Int) + (re : Int) then (N : Int) - 1 else (tk : Int) + (re : Int)) = (hi : Int)) := by unfold Hid; split <;> omega
  have hlo1 : lo ≤ hi + 1 := by omega
  have hhi1 : hi < N := by omega
  have hl1 : rs.length ≤ 1048576 := by omega
  clear hlo hhi
  go_enter Try.func134, Try.ntmps134
  go_wp2_with (go_at_call 170; refine (l00Max_any 0 ((tk : Int) - (re : Int)) lo HLO.out _).mono ?_; rintro _ _ ⟨rfl, rfl⟩)
  go_loopw [7, 8, 9] (fun s1 s2 kv wr => ∃ (k b1 b2 : Nat), lo ≤ k ∧ k ≤ hi + 1 ∧ kv = .int .i64 k ∧ s1 = .float .f32 b1 ∧ Is .f32 b1 (oneA (cls rs) lo rs.length (k - lo)) ∧ s2 = .float .f32 b2 ∧ Is .f32 b2 (allA (cls rs) lo rs.length (k - lo)) ∧ Ext w0 wr) (fun _ _ kv _ => hi + 1 - (intOf kv).toNat)
  case atStart => exact ⟨lo, 0, 0, Nat.le_refl _, by omega, rfl, rfl, by rw [Nat.sub_self]; exact is_zero, rfl, by rw [Nat.sub_self]; exact is_zero, (by repeat (first | assumption | exact Ext.refl _ | apply Ext.drewN | apply Ext.alloc | (refine Ext.setCell ?_ (by first | assumption | exact Nat.le_refl _) _)))⟩
  case round =>
    obtain ⟨k, b1, b2, hk1, hk2, rfl, rfl, hb1, rfl, hb2, hE⟩ := hrel
    have e0 := hE.cell c0
    have e1 := hE.cell c1
    have e2 := hE.cell c2
    by_cases hlt : k ≤ hi
    · have hkN : k < N := by omega
      have hkk := hkr k hkN
      have hlt2 : (k : Int) ≤ (hi : Int) := by omega
      go_wp2_with (go_at_call 171; refine (l00Min_any ((N : Int) - 1) ((tk : Int) + (re : Int)) hi HHI.out _).mono ?_; rintro _ _ ⟨rfl, rfl⟩)
      go_at_call 131; refine (l04Sum_any _ (N : Int) pa pc ps ra rc rs _ _ e2 (hpw.ext hE) (hrw.ext hE) hl hkk).mono ?_; rintro _ w2 ⟨r0, rfl, hr0, E2⟩
      have hE2 := hE.trans E2
      clear e0 e1 e2
      have e0 := hE2.cell c0
      have e1 := hE2.cell c1
      have e2 := hE2.cell c2
      have HO : Hid (oneA (cls rs) lo rs.length (k + 1 - lo) = fop .add .f32 (oneA (cls rs) lo rs.length (k - lo)) (fop .mul .f32 (sumG (cls rs) k rs.length) (sumG (cls rs) k rs.length))) := one_step _ _ _ _ hk1
      have HA2 : Hid (allA (cls rs) lo rs.length (k + 1 - lo) = inn (cls rs) k (allA (cls rs) lo rs.length (k - lo)) rs.length) := all_step _ _ _ _ hk1
      have hbb2 := hb2
      go_wp2_with (first | (refine wl_bin rfl rfl rfl rfl rfl (by first | assumption | exact is_ofInt _ _ | exact is_self) (by first | assumption | exact is_ofInt _ _ | exact is_self) ?_; intro r n hr) | (refine wl_cmp rfl rfl rfl rfl rfl (by first | assumption | exact is_ofInt _ _ | exact is_self) (by first | assumption | exact is_ofInt _ _ | exact is_self) (by first | assumption | rfl) ?_) | (refine wl_widen rfl rfl rfl (by first | exact rfl | kernel_rfl) (by kernel_rfl) (by first | assumption | exact is_ofInt _ _ | exact is_self) ?_; intro r n hr) | (refine wl_neg rfl rfl rfl (by first | assumption | exact is_ofInt _ _ | exact is_self) ?_; intro r hr))
      have HONE : Hid (Is .f32 r (oneA (cls rs) lo rs.length (k + 1 - lo))) := by unfold Hid; rw [HO.out]; exact hr
      clear hr HO hb1 hr0 hb2
      go_loopw [8, 12] (fun s i wq => ∃ (j bb : Nat), j ≤ rs.length ∧ i = .int .i64 j ∧ s = .float .f32 bb ∧ Is .f32 bb (inn (cls rs) k (allA (cls rs) lo rs.length (k - lo)) j) ∧ Ext w0 wq) (fun _ i _ => rs.length - (intOf i).toNat)
      case atStart => exact ⟨0, b2, Nat.zero_le _, rfl, rfl, hbb2, (by repeat (first | assumption | exact Ext.refl _ | apply Ext.drewN | apply Ext.alloc | (refine Ext.setCell ?_ (by first | assumption | exact Nat.le_refl _) _)))⟩
      case round =>
        obtain ⟨j, bb, hj, rfl, rfl, hbb, hEq⟩ := hrel
        have e0 := hEq.cell c0
        have e1 := hEq.cell c1
        have e2 := hEq.cell c2
        by_cases hlt3 : j < rs.length
        · obtain ⟨b, off, rb, rd, rfl, hcell, hf⟩ := hrw.ext hEq j hlt3
          have hkj := hkk j hlt3
          obtain ⟨b3, off2, rfl, hcell2⟩ := hf k hkj
          have hel := is_el hkj
          rw [← cls_row] at hel
          have HS : Hid (inn (cls rs) k (allA (cls rs) lo rs.length (k - lo)) (j + 1) = fop .add .f32 (inn (cls rs) k (allA (cls rs) lo rs.length (k - lo)) j) (fop .mul .f32 (el (row (cls rs) j) k) (el (row (cls rs) j) k))) := rfl
          have hkj2 : (k : Int) < ((row rs j).length : Int) := by omega
          have hj2 : (j : Int) < (rs.length : Int) := by omega
          go_wp2
          refine wp_region_lex (fun _ => Drawn wr) (fun _ => false) (fun _ _ => True) (by kernel_rfl) (by kernel_rfl) (by kernel_rfl) (fun _ => drawn_more _) (fun _ => ⟨0, rfl⟩) (fun n0 => ?_)
          (refine lw_move rfl rfl rfl rfl ?_; go_simp)
          (refine lw_move rfl rfl rfl rfl ?_; go_simp)
          (refine lw_valD rfl rfl (fun nn => by go_simp; rfl) ?_; go_simp)
          (refine lw_valD rfl rfl (fun nn => by go_simp; rfl) ?_; go_simp)
          (refine lw_valD rfl rfl (fun nn => by go_simp; rfl) ?_; go_simp)
          (refine lw_move rfl rfl rfl rfl ?_; go_simp)
          (refine lw_valD rfl rfl (fun nn => by go_simp; rfl) ?_; go_simp)
          (refine lw_valD rfl rfl (fun nn => by go_simp; rfl) ?_; go_simp)
          (refine lw_move rfl rfl rfl rfl ?_; go_simp)
          (refine lw_valD rfl rfl (fun nn => by go_simp; rfl) ?_; go_simp)
          (refine lw_valD rfl rfl (fun nn => by go_simp; rfl) ?_; go_simp)
          (refine lw_move rfl rfl rfl rfl ?_; go_simp)
          (refine lw_valD rfl rfl (fun nn => by go_simp; rfl) ?_; go_simp)
          (refine lw_valD rfl rfl (fun nn => by go_simp; rfl) ?_; go_simp)
          (refine lw_valD rfl rfl (fun nn => by go_simp; rfl) ?_; go_simp)
          (refine lw_move rfl rfl rfl rfl ?_; go_simp)
          (refine lw_valD rfl rfl (fun nn => by go_simp; rfl) ?_; go_simp)
          (refine lw_valD rfl rfl (fun nn => by go_simp; rfl) ?_; go_simp)
          (refine lw_move rfl rfl rfl rfl ?_; go_simp)
          (refine lw_valD rfl rfl (fun nn => by go_simp; rfl) ?_; go_simp)
          (refine lw_valD rfl rfl (fun nn => by go_simp; rfl) ?_; go_simp)
          (refine lw_bin rfl rfl rfl rfl rfl rfl (by first | assumption | exact is_ofInt _ _ | exact is_self) (by first | assumption | exact is_ofInt _ _ | exact is_self) ?_; intro r hr; go_simp)
          (refine lw_bin rfl rfl rfl rfl rfl rfl (by first | assumption | exact is_ofInt _ _ | exact is_self) (by first | assumption | exact is_ofInt _ _ | exact is_self) ?_; intro r hr; go_simp)
          (refine lw_assign rfl rfl rfl rfl ?_; go_simp)
          (refine lw_nil ?_; intro nq)
          have HR : Hid (Is .f32 r (inn (cls rs) k (allA (cls rs) lo rs.length (k - lo)) (j + 1))) := by unfold Hid; rw [HS.out]; exact hr
          clear hr
          go_wp2
          go_roundw
          case rel => exact ⟨j + 1, _, by omega, by go_num, rfl, HR.out, (by repeat (first | assumption | exact Ext.refl _ | apply Ext.drewN | apply Ext.alloc | (refine Ext.setCell ?_ (by first | assumption | exact Nat.le_refl _) _)))⟩
          case measure => simp [intOf]; omega
        · obtain rfl : rs.length = j := by omega
          go_wp2
          go_roundw
          case rel => exact ⟨k + 1, _, _, by omega, by omega, by go_num, rfl, HONE.out, rfl, by rw [HA2.out]; exact hbb, hEq⟩
          case measure => simp [intOf]; omega
    · obtain rfl : k = hi + 1 := by omega
      have hlt2 : ¬ ((hi + 1 : Nat) : Int) ≤ (hi : Int) := by omega
      cases hq : fcmp .gtr .f32 (fop .mul .f32 (floatOfInt .f32 (rs.length : Int)) (allA (cls rs) lo rs.length (hi + 1 - lo))) (canon .f32 0) with
      | true =>
        have hv : Hid (semF (cls rs) lo (hi + 1 - lo) rs.length = fop .quo .f32 (oneA (cls rs) lo rs.length (hi + 1 - lo)) (fop .mul .f32 (floatOfInt .f32 (rs.length : Int)) (allA (cls rs) lo rs.length (hi + 1 - lo)))) := by unfold Hid semF; rw [hq]; rfl
        go_wp2_with (first | (go_at_call 171; refine (l00Min_any ((N : Int) - 1) ((tk : Int) + (re : Int)) hi HHI.out _).mono ?_; rintro _ _ ⟨rfl, rfl⟩) | (refine wl_bin rfl rfl rfl rfl rfl (by first | assumption | exact is_ofInt _ _ | exact is_self) (by first | assumption | exact is_ofInt _ _ | exact is_self) ?_; intro r n hr) | (refine wl_cmp rfl rfl rfl rfl rfl (by first | assumption | exact is_ofInt _ _ | exact is_self) (by first | assumption | exact is_ofInt _ _ | exact is_self) (by first | assumption | rfl) ?_) | (refine wl_widen rfl rfl rfl (by first | exact rfl | kernel_rfl) (by kernel_rfl) (by first | assumption | exact is_ofInt _ _ | exact is_self) ?_; intro r n hr) | (refine wl_neg rfl rfl rfl (by first | assumption | exact is_ofInt _ _ | exact is_self) ?_; intro r hr))
        go_ret
        exact ⟨_, rfl, by rw [hv.out]; assumption, (by repeat (first | assumption | exact Ext.refl _ | apply Ext.drewN | apply Ext.alloc | (refine Ext.setCell ?_ (by first | assumption | exact Nat.le_refl _) _)))⟩
      | false =>
        have hv : Hid (semF (cls rs) lo (hi + 1 - lo) rs.length = 0) := by unfold Hid semF; rw [hq]; rfl
        go_wp2_with (first | (go_at_call 171; refine (l00Min_any ((N : Int) - 1) ((tk : Int) + (re : Int)) hi HHI.out _).mono ?_; rintro _ _ ⟨rfl, rfl⟩) | (refine wl_bin rfl rfl rfl rfl rfl (by first | assumption | exact is_ofInt _ _ | exact is_self) (by first | assumption | exact is_ofInt _ _ | exact is_self) ?_; intro r n hr) | (refine wl_cmp rfl rfl rfl rfl rfl (by first | assumption | exact is_ofInt _ _ | exact is_self) (by first | assumption | exact is_ofInt _ _ | exact is_self) (by first | assumption | rfl) ?_) | (refine wl_widen rfl rfl rfl (by first | exact rfl | kernel_rfl) (by kernel_rfl) (by first | assumption | exact is_ofInt _ _ | exact is_self) ?_; intro r n hr) | (refine wl_neg rfl rfl rfl (by first | assumption | exact is_ofInt _ _ | exact is_self) ?_; intro r hr))
        go_ret
        exact ⟨_, rfl, by rw [hv.out]; exact is_zero, (by repeat (first | assumption | exact Ext.refl _ | apply Ext.drewN | apply Ext.alloc | (refine Ext.setCell ?_ (by first | assumption | exact Nat.le_refl _) _)))⟩
end Go.Proofs.Ytncolcjjmllfeaa
