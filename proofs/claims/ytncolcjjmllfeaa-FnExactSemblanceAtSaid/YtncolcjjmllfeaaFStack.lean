/- The sum of a tick; StackOf, LiveStack: the reference's and the program's. -/
import Derived.Test.YtncolcjjmllfeaaFGat
import Derived.Test.YtncolcjjmllfeaaSum
namespace Go.Proofs.Ytncolcjjmllfeaa
open Go.RowKit
set_option maxRecDepth 100000
set_option linter.unusedVariables false

def tickF (rs : List (List Nat)) (k i : Nat) : Nat := el (row rs i) k
def sumG (rs : List (List Nat)) (k n : Nat) : Nat := sumP (tickF rs k) n
def liveN (rs : List (List Nat)) (k : Nat) : Nat → Nat
  | 0 => 0
  | n + 1 => if fcmp .neq .f32 (tickF rs k n) (canon .f32 0) then liveN rs k n + 1 else liveN rs k n
theorem liveN_le (rs : List (List Nat)) (k n : Nat) : liveN rs k n ≤ n := by
  induction n with
  | zero => exact Nat.le_refl _
  | succ n ih => unfold liveN; split <;> omega
/-- The sum of a tick, and how many are not zero. -/
def GivesSum (s n : Nat) (w : World) (e : Ending) (w' : World) : Prop := ∃ r, e = .returned (.tuple #[.float .f32 r, .int .i64 (n : Int)]) ∧ Is .f32 r s ∧ Ext w w'
set_option maxHeartbeats 2000000 in
theorem stack_any (t : Int) (pa : Option Addr) (pc : Nat) (ps : List Nat) (ra : Option Addr) (rc : Nat) (rs : List (List Nat)) (k : Nat) (w : World) (hp : FR w pa ps) (hr : RS w ra rs) (hl : ps.length + (rs.length + tot rs) ≤ 1048576) (hk : ∀ i, i < rs.length → k < (row rs i).length) :
    Calls Try.prog 132 #[.agg #[.int .i64 t, .slice pa ps.length pc, .slice ra rs.length rc], .int .i64 (k : Int)] w (GivesSum (sumG (cls rs) k rs.length) (liveN (cls rs) k rs.length) w) := by
  have hrw := hr.ext ((Ext.refl w).alloc (.cells #[.int .i64 t, .slice pa ps.length pc, .slice ra rs.length rc] 47))
  go_enter Try.func132, Try.ntmps132
  go_wp2
  go_loopw [6, 7, 13] (fun s l i wr => ∃ (j bb q n0 : Nat), j ≤ rs.length ∧ i = .int .i64 j ∧ s = .float .f32 bb ∧ Is .f32 bb (sumG (cls rs) k j) ∧ l = .int .i64 (q : Int) ∧ Hid (q = liveN (cls rs) k j) ∧ q ≤ j ∧ wr = (w.alloc (.cells #[.int .i64 t, .slice pa ps.length pc, .slice ra rs.length rc] 47)).drewN n0) (fun _ _ i _ => rs.length - (intOf i).toNat)
  case atStart => exact ⟨0, 0, 0, 0, Nat.zero_le _, rfl, rfl, is_zero, rfl, rfl, Nat.le_refl _, rfl⟩
  case round =>
    obtain ⟨j, bb, q, n0, hj, rfl, rfl, hbb, rfl, hq, hqj, rfl⟩ := hrel
    by_cases hlt : j < rs.length
    · obtain ⟨b, off, rb, rd, rfl, hcell, hf⟩ := hrw j hlt
      have hkj := hk j hlt
      obtain ⟨b2, off2, rfl, hcell2⟩ := hf k hkj
      have hel := is_el hkj
      rw [← cls_row] at hel
      have HS : Hid (sumG (cls rs) k (j + 1) = fop .add .f32 (sumG (cls rs) k j) (el (row (cls rs) j) k)) := by unfold Hid sumG; rw [sumP_succ]; rfl
      have HQ : Hid (liveN (cls rs) k (j + 1) = if fcmp .neq .f32 (el (row (cls rs) j) k) (canon .f32 0) then q + 1 else q) := by unfold Hid; rw [hq.out]; rfl
      have hl1 : rs.length ≤ 1048576 := by omega
      cases h0 : fcmp .neq .f32 (el (row (cls rs) j) k) (canon .f32 0) with
      | true =>
        have HN : Hid (liveN (cls rs) k (j + 1) = q + 1) := by unfold Hid; rw [HQ.out, h0]; rfl
        go_wp2_with (first | (refine wl_bin rfl rfl rfl rfl rfl (by first | assumption | exact is_ofInt _ _ | exact is_self) (by first | assumption | exact is_ofInt _ _ | exact is_self) ?_; intro r n hr) | (refine wl_cmp rfl rfl rfl rfl rfl (by first | assumption | exact is_ofInt _ _ | exact is_self) (by first | assumption | exact is_ofInt _ _ | exact is_self) (by first | assumption | rfl) ?_) | (refine wl_widen rfl rfl rfl (by first | exact rfl | kernel_rfl) (by kernel_rfl) (by first | assumption | exact is_ofInt _ _ | exact is_self) ?_; intro r n hr) | (refine wl_neg rfl rfl rfl (by first | assumption | exact is_ofInt _ _ | exact is_self) ?_; intro r hr))
        go_roundw
        case rel => exact ⟨j + 1, _, q + 1, _, by omega, by go_num, rfl, by rw [HS.out]; assumption, by go_num, HN.out.symm, by omega, rfl⟩
        case measure => simp [intOf]; omega
      | false =>
        have HN : Hid (liveN (cls rs) k (j + 1) = q) := by unfold Hid; rw [HQ.out, h0]; rfl
        go_wp2_with (first | (refine wl_bin rfl rfl rfl rfl rfl (by first | assumption | exact is_ofInt _ _ | exact is_self) (by first | assumption | exact is_ofInt _ _ | exact is_self) ?_; intro r n hr) | (refine wl_cmp rfl rfl rfl rfl rfl (by first | assumption | exact is_ofInt _ _ | exact is_self) (by first | assumption | exact is_ofInt _ _ | exact is_self) (by first | assumption | rfl) ?_) | (refine wl_widen rfl rfl rfl (by first | exact rfl | kernel_rfl) (by kernel_rfl) (by first | assumption | exact is_ofInt _ _ | exact is_self) ?_; intro r n hr) | (refine wl_neg rfl rfl rfl (by first | assumption | exact is_ofInt _ _ | exact is_self) ?_; intro r hr))
        go_roundw
        case rel => exact ⟨j + 1, _, q, _, by omega, by go_num, rfl, by rw [HS.out]; assumption, rfl, HN.out.symm, by omega, rfl⟩
        case measure => simp [intOf]; omega
    · go_wp2
      go_ret2
      obtain rfl : j = rs.length := by omega
      obtain rfl : q = _ := hq.out
      exact ⟨bb, rfl, hbb, (by repeat (first | assumption | exact Ext.refl _ | apply Ext.drewN | apply Ext.alloc | (refine Ext.setCell ?_ (by first | assumption | exact Nat.le_refl _) _)))⟩
set_option maxHeartbeats 2000000 in
theorem l04Sum_any (B : Nat) (t : Int) (pa : Option Addr) (pc : Nat) (ps : List Nat) (ra : Option Addr) (rc : Nat) (rs : List (List Nat)) (k : Nat) (w : World) (h2 : w.cell? ⟨B, 2, none⟩ = some (.slice ra rs.length rc)) (hp : FR w pa ps) (hr : RS w ra rs) (hl : ps.length + (rs.length + tot rs) ≤ 1048576) (hk : ∀ i, i < rs.length → k < (row rs i).length) :
    Calls Try.prog 131 #[.pointer (some ⟨B, 0, none⟩), .int .i64 (k : Int)] w (GivesSum (sumG (cls rs) k rs.length) (liveN (cls rs) k rs.length) w) := by
  go_enter Try.func131, Try.ntmps131
  go_wp2
  go_loopw [6, 7, 8] (fun s l i wr => ∃ (j bb q n0 : Nat), j ≤ rs.length ∧ i = .int .i64 j ∧ s = .float .f32 bb ∧ Is .f32 bb (sumG (cls rs) k j) ∧ l = .int .i64 (q : Int) ∧ Hid (q = liveN (cls rs) k j) ∧ q ≤ j ∧ wr = w.drewN n0) (fun _ _ i _ => rs.length - (intOf i).toNat)
  case atStart => exact ⟨0, 0, 0, 0, Nat.zero_le _, rfl, rfl, is_zero, rfl, rfl, Nat.le_refl _, rfl⟩
  case round =>
    obtain ⟨j, bb, q, n0, hj, rfl, rfl, hbb, rfl, hq, hqj, rfl⟩ := hrel
    by_cases hlt : j < rs.length
    · obtain ⟨b, off, rb, rd, rfl, hcell, hf⟩ := hr j hlt
      have hkj := hk j hlt
      obtain ⟨b2, off2, rfl, hcell2⟩ := hf k hkj
      have hel := is_el hkj
      rw [← cls_row] at hel
      have HS : Hid (sumG (cls rs) k (j + 1) = fop .add .f32 (sumG (cls rs) k j) (el (row (cls rs) j) k)) := by unfold Hid sumG; rw [sumP_succ]; rfl
      have HQ : Hid (liveN (cls rs) k (j + 1) = if fcmp .neq .f32 (el (row (cls rs) j) k) (canon .f32 0) then q + 1 else q) := by unfold Hid; rw [hq.out]; rfl
      have hl1 : rs.length ≤ 1048576 := by omega
      cases h0 : fcmp .neq .f32 (el (row (cls rs) j) k) (canon .f32 0) with
      | true =>
        have HN : Hid (liveN (cls rs) k (j + 1) = q + 1) := by unfold Hid; rw [HQ.out, h0]; rfl
        go_wp2_with (first | (refine wl_bin rfl rfl rfl rfl rfl (by first | assumption | exact is_ofInt _ _ | exact is_self) (by first | assumption | exact is_ofInt _ _ | exact is_self) ?_; intro r n hr) | (refine wl_cmp rfl rfl rfl rfl rfl (by first | assumption | exact is_ofInt _ _ | exact is_self) (by first | assumption | exact is_ofInt _ _ | exact is_self) (by first | assumption | rfl) ?_) | (refine wl_widen rfl rfl rfl (by first | exact rfl | kernel_rfl) (by kernel_rfl) (by first | assumption | exact is_ofInt _ _ | exact is_self) ?_; intro r n hr) | (refine wl_neg rfl rfl rfl (by first | assumption | exact is_ofInt _ _ | exact is_self) ?_; intro r hr))
        go_roundw
        case rel => exact ⟨j + 1, _, q + 1, _, by omega, by go_num, rfl, by rw [HS.out]; assumption, by go_num, HN.out.symm, by omega, rfl⟩
        case measure => simp [intOf]; omega
      | false =>
        have HN : Hid (liveN (cls rs) k (j + 1) = q) := by unfold Hid; rw [HQ.out, h0]; rfl
        go_wp2_with (first | (refine wl_bin rfl rfl rfl rfl rfl (by first | assumption | exact is_ofInt _ _ | exact is_self) (by first | assumption | exact is_ofInt _ _ | exact is_self) ?_; intro r n hr) | (refine wl_cmp rfl rfl rfl rfl rfl (by first | assumption | exact is_ofInt _ _ | exact is_self) (by first | assumption | exact is_ofInt _ _ | exact is_self) (by first | assumption | rfl) ?_) | (refine wl_widen rfl rfl rfl (by first | exact rfl | kernel_rfl) (by kernel_rfl) (by first | assumption | exact is_ofInt _ _ | exact is_self) ?_; intro r n hr) | (refine wl_neg rfl rfl rfl (by first | assumption | exact is_ofInt _ _ | exact is_self) ?_; intro r hr))
        go_roundw
        case rel => exact ⟨j + 1, _, q, _, by omega, by go_num, rfl, by rw [HS.out]; assumption, rfl, HN.out.symm, by omega, rfl⟩
        case measure => simp [intOf]; omega
    · go_wp2
      go_ret2
      obtain rfl : j = rs.length := by omega
      obtain rfl : q = _ := hq.out
      exact ⟨bb, rfl, hbb, (by repeat (first | assumption | exact Ext.refl _ | apply Ext.drewN | apply Ext.alloc | (refine Ext.setCell ?_ (by first | assumption | exact Nat.le_refl _) _)))⟩
def stackO (t : Int) (ps : List Nat) (rs : List (List Nat)) : Option (List Nat) := if gOk t ps rs then some (tabP (fun k => fop .quo .f32 (sumG rs k rs.length) (floatOfInt .f32 (rs.length : Int))) t.toNat) else none
def liveF (rs : List (List Nat)) (k : Nat) : Nat := if liveN rs k rs.length = 0 then 0 else fop .quo .f32 (sumG rs k rs.length) (floatOfInt .f32 (liveN rs k rs.length : Int))
def liveO (t : Int) (ps : List Nat) (rs : List (List Nat)) : Option (List Nat) := if gOk t ps rs then some (tabP (liveF rs) t.toNat) else none
theorem gOk_t {t : Int} {ps : List Nat} {rs : List (List Nat)} (h : gOk t ps rs = true) : t.toNat ≤ 64 := by
  unfold gOk at h
  simp only [Bool.and_eq_true] at h
  have := inB_yes h.1.1.1
  omega
theorem stackO_len (t : Int) (ps : List Nat) (rs : List (List Nat)) : ((stackO t ps rs).getD []).length ≤ 1048576 := gate_len (n := 64) (fun h => by rw [tabP_len]; exact gOk_t h) (by omega)
theorem liveO_len (t : Int) (ps : List Nat) (rs : List (List Nat)) : ((liveO t ps rs).getD []).length ≤ 1048576 := gate_len (n := 64) (fun h => by rw [tabP_len]; exact gOk_t h) (by omega)
set_option maxHeartbeats 4000000 in
theorem implStack_any (t : Int) (pa : Option Addr) (pc : Nat) (ps : List Nat) (ra : Option Addr) (rc : Nat) (rs : List (List Nat)) (w : World) (hp : FR w pa ps) (hr : RS w ra rs) (hl : ps.length + (rs.length + tot rs) ≤ 1048576) : Calls Try.prog 58 #[.agg #[.int .i64 t, .slice pa ps.length pc, .slice ra rs.length rc]] w (GivesO (stackO t (cl ps) (cls rs)) w) := by
  obtain ⟨i0, hi0, hz0, hs0, hb0⟩ := info_parts info32
  generalize hA : w.alloc (.cells #[.int .i64 t, .slice pa ps.length pc, .slice ra rs.length rc] 47) = w0
  have E0 : Ext w w0 := by rw [← hA]; exact (Ext.refl w).alloc _
  have c0 : w0.cell? ⟨w.heap.size, 0, none⟩ = some (.int .i64 t) := by rw [← hA]; exact boxed (Ext.refl _) rfl
  have c1 : w0.cell? ⟨w.heap.size, 1, none⟩ = some (.slice pa ps.length pc) := by rw [← hA]; exact boxed (Ext.refl _) rfl
  have c2 : w0.cell? ⟨w.heap.size, 2, none⟩ = some (.slice ra rs.length rc) := by rw [← hA]; exact boxed (Ext.refl _) rfl
  have hpw := hp.ext E0
  have hrw := hr.ext E0
  have HA := Lib.hid hA
  clear hA
  cases hg : gOk t (cl ps) (cls rs) with
  | false =>
    have h : Hid (stackO t (cl ps) (cls rs) = none) := by unfold Hid stackO; rw [hg]; rfl
    go_enter Try.func58, Try.ntmps58
    go_wp2_with fail
    rw [HA.out]
    go_at_call 47; refine (implValid_any _ _ _ _ _ _ _ _ _ hpw hrw hl hg).mono ?_; rintro _ w1 ⟨rfl, E1⟩
    go_wp2
    go_ret2
    exact givesO_none h.out (E0.trans E1)
  | true =>
    obtain ⟨ht, hpl, hlen, hrow⟩ := gOk_parts hg
    have h : Hid (stackO t (cl ps) (cls rs) = some (tabP (fun k => fop .quo .f32 (sumG (cls rs) k rs.length) (floatOfInt .f32 (rs.length : Int))) t.toNat)) := by unfold Hid stackO; rw [hg, cls_len]; rfl
    obtain ⟨N, rfl⟩ : ∃ N : Nat, t = (N : Int) := ⟨t.toNat, by omega⟩
    have hkr : ∀ k, k < N → ∀ i, i < rs.length → k < (row rs i).length := fun k hk i hi => by have := hrow i hi; omega
    have hN : N ≤ 64 := by omega
    have HR := Lib.hid hrow
    have HL := Lib.hid hlen
    clear hrow hlen
    go_enter Try.func58, Try.ntmps58
    go_wp2_with fail
    rw [HA.out]
    go_at_call 47; refine (implValid_any _ _ _ _ _ _ _ _ _ hpw hrw hl hg).mono ?_; rintro _ w1 ⟨rfl, E1⟩
    have d0 := E1.cell c0
    have d1 := E1.cell c1
    have d2 := E1.cell c2
    have hp1 := hpw.ext E1
    have hr1 := hrw.ext E1
    clear c0 c1 c2 hpw hrw hg
    go_wp2
    go_loopw [4, 13] (fun v i wr => ∃ (k : Nat) (ys : List Nat), k ≤ N ∧ i = .int .i64 k ∧ OwnF wr w1.heap.size v ys ∧ ys.length ≤ k ∧ Hid (cl ys = tabP (fun k => fop .quo .f32 (sumG (cls rs) k rs.length) (floatOfInt .f32 (rs.length : Int))) k) ∧ Ext w1 wr) (fun _ i _ => N - (intOf i).toNat)
    case atStart => exact ⟨0, [], Nat.zero_le _, rfl, OwnF.nil _ _, Nat.le_refl _, rfl, Ext.refl _⟩
    case round =>
      obtain ⟨k, ys, hk, rfl, hO, hyl, hcl, hE⟩ := hrel
      have e0 := hE.cell d0
      have e1 := hE.cell d1
      have e2 := hE.cell d2
      by_cases hlt : k < N
      · have hkk := hkr k hlt
        go_wp2_with fail
        go_at_call 132; refine (stack_any _ _ _ _ _ _ _ _ _ (hp1.ext hE) (hr1.ext hE) hl hkk).mono ?_; rintro _ w2 ⟨r0, rfl, hr0, E2⟩
        have hO2 := hO.ext E2
        have f2 := E2.cell e2
        have hE2 := hE.trans E2
        clear hO e0 e1 e2
        go_wp2_with (first | (at_builtin; refine wl_append1 _ rfl Try.underlying22 hi0 hz0 hs0 hb0 rfl rfl rfl (by repeat (first | assumption | apply OwnF.drewN | apply OwnF.alloc)) (by repeat (first | assumption | exact Ext.refl _ | apply Ext.drewN | apply Ext.alloc | (refine Ext.setCell ?_ (by first | assumption | exact Nat.le_refl _) _))) (by omega) (by first | exact cell_new _ _ _ | exact cell_newD _ _ _ _) ?_; intro v2 w2 hO2 hE2) | (refine wl_bin rfl rfl rfl rfl rfl (by first | assumption | exact is_ofInt _ _ | exact is_self) (by first | assumption | exact is_ofInt _ _ | exact is_self) ?_; intro r n hr) | (refine wl_cmp rfl rfl rfl rfl rfl (by first | assumption | exact is_ofInt _ _ | exact is_self) (by first | assumption | exact is_ofInt _ _ | exact is_self) (by first | assumption | rfl) ?_) | (refine wl_widen rfl rfl rfl (by first | exact rfl | kernel_rfl) (by kernel_rfl) (by first | assumption | exact is_ofInt _ _ | exact is_self) ?_; intro r n hr) | (refine wl_neg rfl rfl rfl (by first | assumption | exact is_ofInt _ _ | exact is_self) ?_; intro r hr))
        have HR : Hid (Is .f32 r (fop .quo .f32 (sumG (cls rs) k rs.length) (floatOfInt .f32 (rs.length : Int)))) := hr
        clear hr
        go_roundw
        case rel => exact ⟨k + 1, _, by omega, by go_num, (by repeat (first | assumption | apply OwnF.drewN | apply OwnF.alloc)), by simp; omega, app_step hcl.out (by exact HR.out), (by repeat (first | assumption | exact Ext.refl _ | apply Ext.drewN | apply Ext.alloc | (refine Ext.setCell ?_ (by first | assumption | exact Nat.le_refl _) _)))⟩
        case measure => simp [intOf]; omega
      · go_wp2
        go_ret2
        obtain rfl : N = k := by omega
        exact givesO_some h.out (E0.trans (E1.trans hE)) (hO.mono (E0.trans E1).size) (by rw [hcl.out]; simp)
set_option maxHeartbeats 4000000 in
theorem specStack_any (t : Int) (pa : Option Addr) (pc : Nat) (ps : List Nat) (ra : Option Addr) (rc : Nat) (rs : List (List Nat)) (w : World) (hp : FR w pa ps) (hr : RS w ra rs) (hl : ps.length + (rs.length + tot rs) ≤ 1048576) : Calls Try.prog 57 #[.agg #[.int .i64 t, .slice pa ps.length pc, .slice ra rs.length rc]] w (GivesO (stackO t (cl ps) (cls rs)) w) := by
  obtain ⟨i0, hi0, hz0, hs0, hb0⟩ := info_parts info32
  generalize hA : w.alloc (.cells #[.int .i64 t, .slice pa ps.length pc, .slice ra rs.length rc] 47) = w0
  have E0 : Ext w w0 := by rw [← hA]; exact (Ext.refl w).alloc _
  have c0 : w0.cell? ⟨w.heap.size, 0, none⟩ = some (.int .i64 t) := by rw [← hA]; exact boxed (Ext.refl _) rfl
  have c1 : w0.cell? ⟨w.heap.size, 1, none⟩ = some (.slice pa ps.length pc) := by rw [← hA]; exact boxed (Ext.refl _) rfl
  have c2 : w0.cell? ⟨w.heap.size, 2, none⟩ = some (.slice ra rs.length rc) := by rw [← hA]; exact boxed (Ext.refl _) rfl
  have hpw := hp.ext E0
  have hrw := hr.ext E0
  have HA := Lib.hid hA
  clear hA
  cases hg : gOk t (cl ps) (cls rs) with
  | false =>
    have h : Hid (stackO t (cl ps) (cls rs) = none) := by unfold Hid stackO; rw [hg]; rfl
    go_enter Try.func57, Try.ntmps57
    go_wp2_with fail
    rw [HA.out]
    go_at_call 119; refine (l04Is_any _ _ _ _ _ _ _ _ _ _ c0 c1 c2 hpw hrw hl hg).mono ?_; rintro _ _ ⟨rfl, n1, rfl⟩
    go_wp2
    go_ret2
    exact givesO_none h.out (E0.drewN _)
  | true =>
    obtain ⟨ht, hpl, hlen, hrow⟩ := gOk_parts hg
    have h : Hid (stackO t (cl ps) (cls rs) = some (tabP (fun k => fop .quo .f32 (sumG (cls rs) k rs.length) (floatOfInt .f32 (rs.length : Int))) t.toNat)) := by unfold Hid stackO; rw [hg, cls_len]; rfl
    obtain ⟨N, rfl⟩ : ∃ N : Nat, t = (N : Int) := ⟨t.toNat, by omega⟩
    have hkr : ∀ k, k < N → ∀ i, i < rs.length → k < (row rs i).length := fun k hk i hi => by have := hrow i hi; omega
    have hN : N ≤ 64 := by omega
    have HR := Lib.hid hrow
    have HL := Lib.hid hlen
    clear hrow hlen
    go_enter Try.func57, Try.ntmps57
    go_wp2_with fail
    rw [HA.out]
    go_at_call 119; refine (l04Is_any _ _ _ _ _ _ _ _ _ _ c0 c1 c2 hpw hrw hl hg).mono ?_; rintro _ _ ⟨rfl, n1, rfl⟩
    clear hg
    go_wp2
    go_loopw [4, 5] (fun v i wr => ∃ (k : Nat) (ys : List Nat), k ≤ N ∧ i = .int .i64 k ∧ OwnF wr w0.heap.size v ys ∧ ys.length ≤ k ∧ Hid (cl ys = tabP (fun k => fop .quo .f32 (sumG (cls rs) k rs.length) (floatOfInt .f32 (rs.length : Int))) k) ∧ Ext w0 wr) (fun _ i _ => N - (intOf i).toNat)
    case atStart => exact ⟨0, [], Nat.zero_le _, rfl, (by first | exact OwnF.nil _ _ | exact ownF_empty _ _ (by repeat (first | assumption | exact Ext.refl _ | apply Ext.drewN | apply Ext.alloc | (refine Ext.setCell ?_ (by first | assumption | exact Nat.le_refl _) _)))), Nat.le_refl _, rfl, (by repeat (first | assumption | exact Ext.refl _ | apply Ext.drewN | apply Ext.alloc | (refine Ext.setCell ?_ (by first | assumption | exact Nat.le_refl _) _)))⟩
    case round =>
      obtain ⟨k, ys, hk, rfl, hO, hyl, hcl, hE⟩ := hrel
      have e0 := hE.cell c0
      have e2 := hE.cell c2
      by_cases hlt : k < N
      · have hkk := hkr k hlt
        go_wp2_with fail
        go_at_call 131; refine (l04Sum_any _ (N : Int) pa pc ps ra rc rs _ _ e2 (hpw.ext hE) (hrw.ext hE) hl hkk).mono ?_; rintro _ w2 ⟨r0, rfl, hr0, E2⟩
        have hO2 := hO.ext E2
        have f2 := E2.cell e2
        have hE2 := hE.trans E2
        clear hO e0 e2
        go_wp2_with (first | (at_builtin; refine wl_append1 _ rfl Try.underlying22 hi0 hz0 hs0 hb0 rfl rfl rfl (by repeat (first | assumption | apply OwnF.drewN | apply OwnF.alloc)) (by repeat (first | assumption | exact Ext.refl _ | apply Ext.drewN | apply Ext.alloc | (refine Ext.setCell ?_ (by first | assumption | exact Nat.le_refl _) _))) (by omega) (by first | exact cell_new _ _ _ | exact cell_newD _ _ _ _) ?_; intro v2 w2 hO2 hE2) | (refine wl_bin rfl rfl rfl rfl rfl (by first | assumption | exact is_ofInt _ _ | exact is_self) (by first | assumption | exact is_ofInt _ _ | exact is_self) ?_; intro r n hr) | (refine wl_cmp rfl rfl rfl rfl rfl (by first | assumption | exact is_ofInt _ _ | exact is_self) (by first | assumption | exact is_ofInt _ _ | exact is_self) (by first | assumption | rfl) ?_) | (refine wl_widen rfl rfl rfl (by first | exact rfl | kernel_rfl) (by kernel_rfl) (by first | assumption | exact is_ofInt _ _ | exact is_self) ?_; intro r n hr) | (refine wl_neg rfl rfl rfl (by first | assumption | exact is_ofInt _ _ | exact is_self) ?_; intro r hr))
        have HR : Hid (Is .f32 r (fop .quo .f32 (sumG (cls rs) k rs.length) (floatOfInt .f32 (rs.length : Int)))) := hr
        clear hr
        go_roundw
        case rel => exact ⟨k + 1, _, by omega, by go_num, (by repeat (first | assumption | apply OwnF.drewN | apply OwnF.alloc)), by simp; omega, app_step hcl.out (by exact HR.out), (by repeat (first | assumption | exact Ext.refl _ | apply Ext.drewN | apply Ext.alloc | (refine Ext.setCell ?_ (by first | assumption | exact Nat.le_refl _) _)))⟩
        case measure => simp [intOf]; omega
      · go_wp2
        go_ret2
        obtain rfl : N = k := by omega
        exact givesO_some h.out (E0.trans hE) (hO.mono E0.size) (by rw [hcl.out]; simp)
end Go.Proofs.Ytncolcjjmllfeaa
