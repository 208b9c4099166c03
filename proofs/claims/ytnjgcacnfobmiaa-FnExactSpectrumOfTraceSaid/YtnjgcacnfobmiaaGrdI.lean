/- Grounds: the program's test of one. -/
import Derived.Test.YtnjgcacnfobmiaaGrdH
namespace Go.Proofs.Ytnjgcacnfobmiaa
open Go.RowKit
set_option maxRecDepth 100000
set_option linter.unusedVariables false

theorem ownF_threeAt (w : World) (w0 : World) (h : Ext w0 w) (r q p g : Nat) (hg : g = w.heap.size) : OwnF (w.alloc (.cells #[.float .f32 r, .float .f32 q, .float .f32 p] 34)) w0.heap.size (.slice (some ⟨g, 0, none⟩) 3 3) [r, q, p] := by subst hg; exact ownF_three w w0 h r q p
set_option maxHeartbeats 1000000 in
theorem validGClo_any (p q r s : Nat) (v : Bool) (w : World) (hv : (!(hardB (canon .f32 p) && (hardB (canon .f32 q) && (hardB (canon .f32 r) && lossB (canon .f32 s))))) = v) : Calls Try.prog 167 #[.agg #[.float .f32 p, .float .f32 q, .float .f32 r, .float .f32 s]] w (GivesE (.bool v) w) := by
  have HV := Lib.hid hv
  clear hv
  generalize hA : w.alloc (.cells #[.float .f32 p, .float .f32 q, .float .f32 r, .float .f32 s] 125) = w0
  have E0 : Ext w w0 := by rw [← hA]; exact (Ext.refl w).alloc _
  have c0 : w0.cell? ⟨w.heap.size, 0, none⟩ = some (.float .f32 p) := by rw [← hA]; exact boxed (Ext.refl _) rfl
  have c1 : w0.cell? ⟨w.heap.size, 1, none⟩ = some (.float .f32 q) := by rw [← hA]; exact boxed (Ext.refl _) rfl
  have c2 : w0.cell? ⟨w.heap.size, 2, none⟩ = some (.float .f32 r) := by rw [← hA]; exact boxed (Ext.refl _) rfl
  have c3 : w0.cell? ⟨w.heap.size, 3, none⟩ = some (.float .f32 s) := by rw [← hA]; exact boxed (Ext.refl _) rfl
  have hsz : w.heap.size + 1 = w0.heap.size := by rw [← hA, size_alloc]
  have HA := Lib.hid hA
  clear hA
  have h3 := all_hard3 p q r _ _ _ (is_self (k := .f32) (b := p)) (is_self (b := q)) (is_self (b := r))
  cases hq : (hardB (canon .f32 p) && (hardB (canon .f32 q) && hardB (canon .f32 r))) with
  | false =>
    rw [hq] at h3
    have h : Hid (v = true) := by
      unfold Hid; rw [← HV.out]
      cases a0 : hardB (canon .f32 p) <;> cases a1 : hardB (canon .f32 q) <;> cases a2 : hardB (canon .f32 r) <;> simp_all
    go_enter Try.func167, Try.ntmps167
    go_wp2_with fail
    rw [HA.out]
    go_wp2_with (go_at_call 165; refine (arePositive_any _ _ [p, q, r] _ _ (by exact OwnF.toFR (ownF_threeAt w0 w0 (Ext.refl _) _ _ _ _ (by first | rfl | exact hsz))) (by simp) h3).mono ?_; rintro _ w2 ⟨rfl, n2, hw2⟩; (have E2 : Ext w0 w2 := by rw [hw2]; exact ((Ext.refl _).alloc _).drewN _); (have c3 := E2.cell c3); clear hw2)
    go_ret
    exact ⟨by rw [h.out]; rfl, E0.trans E2⟩
  | true =>
  rw [hq] at h3
  have hq2 : Hid (v = !lossB (canon .f32 s)) := by
    unfold Hid; rw [← HV.out]
    cases a0 : hardB (canon .f32 p) <;> cases a1 : hardB (canon .f32 q) <;> cases a2 : hardB (canon .f32 r) <;> simp_all
  cases a3 : fcmp .geq .f32 (canon .f32 s) (canon .f32 0) with
  | false =>
    have h : Hid (v = true) := by unfold Hid; rw [hq2.out]; unfold lossB; rw [a3]; rfl
    go_enter Try.func167, Try.ntmps167
    go_wp2_with fail
    rw [HA.out]
    go_wp2_with (first | (go_at_call 165; refine (arePositive_any _ _ [p, q, r] _ _ (by exact OwnF.toFR (ownF_threeAt w0 w0 (Ext.refl _) _ _ _ _ (by first | rfl | exact hsz))) (by simp) h3).mono ?_; rintro _ w2 ⟨rfl, n2, hw2⟩; (have E2 : Ext w0 w2 := by rw [hw2]; exact ((Ext.refl _).alloc _).drewN _); (have c3 := E2.cell c3); clear hw2) | (refine wl_cmp rfl rfl rfl rfl rfl is_self is_self a3 ?_))
    go_ret
    exact ⟨by rw [h.out]; rfl, E0.trans E2⟩
  | true =>
  cases a4 : fcmp .lss .f32 (canon .f32 s) (canon .f32 1065353216) with
  | false =>
    have h : Hid (v = true) := by unfold Hid; rw [hq2.out]; unfold lossB; rw [a3, a4]; rfl
    go_enter Try.func167, Try.ntmps167
    go_wp2_with fail
    rw [HA.out]
    go_wp2_with (first | (go_at_call 165; refine (arePositive_any _ _ [p, q, r] _ _ (by exact OwnF.toFR (ownF_threeAt w0 w0 (Ext.refl _) _ _ _ _ (by first | rfl | exact hsz))) (by simp) h3).mono ?_; rintro _ w2 ⟨rfl, n2, hw2⟩; (have E2 : Ext w0 w2 := by rw [hw2]; exact ((Ext.refl _).alloc _).drewN _); (have c3 := E2.cell c3); clear hw2) | (refine wl_cmp rfl rfl rfl rfl rfl is_self is_self a3 ?_) | (refine wl_cmp rfl rfl rfl rfl rfl is_self is_self a4 ?_))
    go_ret
    exact ⟨by rw [h.out]; rfl, E0.trans E2⟩
  | true =>
    have h : Hid (v = false) := by unfold Hid; rw [hq2.out]; unfold lossB; rw [a3, a4]; rfl
    go_enter Try.func167, Try.ntmps167
    go_wp2_with fail
    rw [HA.out]
    go_wp2_with (first | (go_at_call 165; refine (arePositive_any _ _ [p, q, r] _ _ (by exact OwnF.toFR (ownF_threeAt w0 w0 (Ext.refl _) _ _ _ _ (by first | rfl | exact hsz))) (by simp) h3).mono ?_; rintro _ w2 ⟨rfl, n2, hw2⟩; (have E2 : Ext w0 w2 := by rw [hw2]; exact ((Ext.refl _).alloc _).drewN _); (have c3 := E2.cell c3); clear hw2) | (refine wl_cmp rfl rfl rfl rfl rfl is_self is_self a3 ?_) | (refine wl_cmp rfl rfl rfl rfl rfl is_self is_self a4 ?_))
    go_ret
    exact ⟨by rw [h.out]; rfl, E0.trans E2⟩

theorem lay_cl {n k j : Nat} {ls : List Nat} (h : ls.length = n * 4) (hk : k < n) (hj : j < 4) : lay (cl ls) k j = canon .f32 (lay ls k j) := (is_lay h hk hj).out'.symm
def GivesIdxE (found : Bool) (w : World) (e : Ending) (w' : World) : Prop := ∃ i : Int, e = .returned (.int .i64 i) ∧ (decide (0 ≤ i)) = found ∧ Ext w w'
set_option maxHeartbeats 2000000 in
theorem indexLay_any (eg : ∀ (args : Array Value) (w : World), (callFunc 167 args).run Try.prog w = .ok (.enter 167 args) w) (ao : Option Addr) (cap n : Nat) (ls : List Nat) (w : World) (hc : LR w ao n ls) (hl : n ≤ 1048576) :
    Calls Try.prog 190 #[.slice ao n cap, .func (.func 167) #[] #[]] w (GivesIdxE (!layAll (cl ls) n) w) := by
  go_enter Try.func190, Try.ntmps190
  go_wp2
  go_loopw [8] (fun i wr => ∃ k : Nat, k ≤ n ∧ i = .int .i64 k ∧ Hid (layAll (cl ls) k = true) ∧ Ext w wr) (fun i _ => n - (intOf i).toNat)
  case atStart => exact ⟨0, Nat.zero_le _, rfl, rfl, Ext.refl _⟩
  case round =>
    obtain ⟨k, hk, rfl, hall, hE⟩ := hrel
    by_cases hlt : k < n
    · obtain ⟨b, off, rfl, _, q0, q1, q2, q3⟩ := (hc.ext hE).at hlt
      have hB : layB (cl ls) k = (hardB (canon .f32 (lay ls k 0)) && (hardB (canon .f32 (lay ls k 1)) && (hardB (canon .f32 (lay ls k 2)) && lossB (canon .f32 (lay ls k 3))))) := by
        unfold layB
        rw [lay_cl hc.1 hlt (by omega), lay_cl hc.1 hlt (by omega), lay_cl hc.1 hlt (by omega), lay_cl hc.1 hlt (by omega)]
      cases hq : layB (cl ls) k with
      | true =>
        have HN : Hid (layAll (cl ls) (k + 1) = true) := by unfold Hid; show (layAll (cl ls) k && layB (cl ls) k) = true; rw [hall.out, hq]; rfl
        have hv' : (!(hardB (canon .f32 (lay ls k 0)) && (hardB (canon .f32 (lay ls k 1)) && (hardB (canon .f32 (lay ls k 2)) && lossB (canon .f32 (lay ls k 3)))))) = false := by rw [← hB, hq]; rfl
        clear hq hB
        go_wp2_with ((with_reducible refine (validGClo_any _ _ _ _ _ _ hv').mono ?_); rintro _ w1 ⟨rfl, E1⟩)
        go_roundw
        case rel => exact ⟨k + 1, by omega, by go_num, HN, hE.trans E1⟩
        case measure => simp [intOf]; omega
      | false =>
        have HN := Lib.hid (layAll_not hlt hq)
        have hv' : (!(hardB (canon .f32 (lay ls k 0)) && (hardB (canon .f32 (lay ls k 1)) && (hardB (canon .f32 (lay ls k 2)) && lossB (canon .f32 (lay ls k 3)))))) = true := by rw [← hB, hq]; rfl
        clear hq hB
        go_wp2_with ((with_reducible refine (validGClo_any _ _ _ _ _ _ hv').mono ?_); rintro _ w1 ⟨rfl, E1⟩)
        go_ret
        exact ⟨_, rfl, by rw [HN.out]; simp, hE.trans E1⟩
    · go_wp2
      go_ret
      obtain rfl : k = n := by omega
      exact ⟨_, rfl, by rw [hall.out]; rfl, hE⟩
theorem containsLay_any (eg : ∀ (args : Array Value) (w : World), (callFunc 167 args).run Try.prog w = .ok (.enter 167 args) w) (ao : Option Addr) (cap n : Nat) (ls : List Nat) (v : Bool) (w : World) (hc : LR w ao n ls) (hl : n ≤ 1048576) (hv : (!layAll (cl ls) n) = v) :
    Calls Try.prog 166 #[.slice ao n cap, .func (.func 167) #[] #[]] w (GivesE (.bool v) w) := by
  have HV := Lib.hid hv
  clear hv
  go_enter Try.func166, Try.ntmps166
  go_wp2_with (go_at_call 190; refine (indexLay_any eg _ _ _ _ _ hc hl).mono ?_; rintro _ w1 ⟨m, rfl, hn, E1⟩; have HN := Lib.hid hn; clear hn)
  go_ret
  exact ⟨by rw [← HV.out, ← HN.out]; first | rfl | simp, E1⟩

theorem lengthL_any (ao : Option Addr) (n cap : Nat) (w : World) : Calls Try.prog 136 #[.slice ao n cap] w fun e w' => e = .returned (.int .i64 (n : Int)) ∧ w = w' := by
  go_enter Try.func136, Try.ntmps136
  go_wp2
  go_ret
  exact ⟨rfl, rfl⟩
set_option maxHeartbeats 4000000 in
theorem implValidG_any (la : Option Addr) (lc n : Nat) (ls : List Nat) (sp de : Nat) (v : Bool) (w : World) (hc : LR w la n ls) (hl : n ≤ 1048576) (hv : grdB n (cl ls) (canon .f32 sp) (canon .f32 de) = v) : Calls Try.prog 135 #[.agg #[.slice la n lc, .float .f32 sp, .float .f32 de]] w (GivesE (.bool v) w) := by
  have HV := Lib.hid hv
  clear hv
  have eg : ∀ (args : Array Value) (w : World), (callFunc 167 args).run Try.prog w = .ok (.enter 167 args) w := enters_at Try.func167 (by kernel_rfl) rfl
  have EG := Lib.hid eg
  clear eg
  generalize hA : w.alloc (.cells #[.slice la n lc, .float .f32 sp, .float .f32 de] 79) = w0
  have E0 : Ext w w0 := by rw [← hA]; exact (Ext.refl w).alloc _
  have c0 : w0.cell? ⟨w.heap.size, 0, none⟩ = some (.slice la n lc) := by rw [← hA]; exact boxed (Ext.refl _) rfl
  have c1 : w0.cell? ⟨w.heap.size, 1, none⟩ = some (.float .f32 sp) := by rw [← hA]; exact boxed (Ext.refl _) rfl
  have c2 : w0.cell? ⟨w.heap.size, 2, none⟩ = some (.float .f32 de) := by rw [← hA]; exact boxed (Ext.refl _) rfl
  have hcw := hc.ext E0
  have HA := Lib.hid hA
  clear hA
  have h2 := all_hard2 sp de _ _ (is_self (k := .f32) (b := sp)) (is_self (b := de))
  cases hi : inB (n : Int) 1 12 with
  | false =>
    have h : Hid (v = false) := by unfold Hid; rw [← HV.out, grdB_eq, hi]; rfl
    go_enter Try.func135, Try.ntmps135
    go_wp2_with fail
    rw [HA.out]
    go_wp2_with (first | (go_at_call 136; refine (lengthL_any _ _ _ _).mono ?_; rintro _ _ ⟨rfl, rfl⟩) | (go_at_call 165; refine (arePositive_any _ _ [sp, de] _ _ (by exact OwnF.toFR (ownF_two _ _ (Ext.refl _) _ _)) (by simp) h2).mono ?_; rintro _ w2 ⟨rfl, n2, hw2⟩; (have E2 : Ext w0 w2 := by rw [hw2]; exact ((Ext.refl _).alloc _).drewN _); (have c0 := E2.cell c0); (have c1 := E2.cell c1); (have c2 := E2.cell c2); clear hw2) | (go_at_call 166; refine (containsLay_any EG.out _ _ _ _ _ _ (hcw.ext E2) hl hq).mono ?_; rintro _ w1 ⟨rfl, E1⟩) | (go_at_call 77; refine (within_any _ _ _ _ (by first | assumption | rfl) _).mono ?_; rintro _ _ ⟨rfl, rfl⟩) | (go_at_call 90; refine (l00In_any _ _ _ _ (by first | assumption | rfl) _).mono ?_; rintro _ _ ⟨rfl, rfl⟩) | (go_at_call 96; refine (isCount_any _ _ (by first | assumption | rfl) _).mono ?_; rintro _ _ ⟨rfl, rfl⟩) | (go_at_call 88; refine (isTrace_any _ _ _ _ (by first | assumption | rfl) _).mono ?_; rintro _ _ ⟨rfl, rfl⟩) | (go_at_call 85; refine (l03Is_any _ _ _ _ (by first | assumption | rfl) (by omega) _).mono ?_; rintro _ _ ⟨rfl, rfl⟩) | (go_at_call 78; refine (length32_any _ _ _ _).mono ?_; rintro _ _ ⟨rfl, rfl⟩) | (go_at_call 148; refine (isFinite64_any _ _ _ (by assumption) (by first | assumption | rfl) _).mono ?_; rintro _ _ ⟨rfl, n, rfl⟩) | (go_at_call 99; refine (isFinite_any _ _ _ (by first | assumption | exact is_ofInt _ _ | exact is_self) (by first | assumption | rfl) _).mono ?_; rintro _ _ ⟨rfl, n, rfl⟩) | (go_at_call 97; refine (l01Finite_any _ _ _ (by first | assumption | exact is_ofInt _ _ | exact is_self) (by first | assumption | rfl) _).mono ?_; rintro _ _ ⟨rfl, n, rfl⟩))
    go_ret
    exact ⟨by rw [h.out]; rfl, E0⟩
  | true =>
  cases hs : (hardB (canon .f32 sp) && hardB (canon .f32 de)) with
  | false =>
    rw [hs] at h2
    have h : Hid (v = false) := by unfold Hid; rw [← HV.out, grdB_eq, hi, ← Bool.and_assoc (hardB (canon .f32 sp)), hs]; rfl
    go_enter Try.func135, Try.ntmps135
    go_wp2_with fail
    rw [HA.out]
    go_wp2_with (first | (go_at_call 136; refine (lengthL_any _ _ _ _).mono ?_; rintro _ _ ⟨rfl, rfl⟩) | (go_at_call 165; refine (arePositive_any _ _ [sp, de] _ _ (by exact OwnF.toFR (ownF_two _ _ (Ext.refl _) _ _)) (by simp) h2).mono ?_; rintro _ w2 ⟨rfl, n2, hw2⟩; (have E2 : Ext w0 w2 := by rw [hw2]; exact ((Ext.refl _).alloc _).drewN _); (have c0 := E2.cell c0); (have c1 := E2.cell c1); (have c2 := E2.cell c2); clear hw2) | (go_at_call 166; refine (containsLay_any EG.out _ _ _ _ _ _ (hcw.ext E2) hl hq).mono ?_; rintro _ w1 ⟨rfl, E1⟩) | (go_at_call 77; refine (within_any _ _ _ _ (by first | assumption | rfl) _).mono ?_; rintro _ _ ⟨rfl, rfl⟩) | (go_at_call 90; refine (l00In_any _ _ _ _ (by first | assumption | rfl) _).mono ?_; rintro _ _ ⟨rfl, rfl⟩) | (go_at_call 96; refine (isCount_any _ _ (by first | assumption | rfl) _).mono ?_; rintro _ _ ⟨rfl, rfl⟩) | (go_at_call 88; refine (isTrace_any _ _ _ _ (by first | assumption | rfl) _).mono ?_; rintro _ _ ⟨rfl, rfl⟩) | (go_at_call 85; refine (l03Is_any _ _ _ _ (by first | assumption | rfl) (by omega) _).mono ?_; rintro _ _ ⟨rfl, rfl⟩) | (go_at_call 78; refine (length32_any _ _ _ _).mono ?_; rintro _ _ ⟨rfl, rfl⟩) | (go_at_call 148; refine (isFinite64_any _ _ _ (by assumption) (by first | assumption | rfl) _).mono ?_; rintro _ _ ⟨rfl, n, rfl⟩) | (go_at_call 99; refine (isFinite_any _ _ _ (by first | assumption | exact is_ofInt _ _ | exact is_self) (by first | assumption | rfl) _).mono ?_; rintro _ _ ⟨rfl, n, rfl⟩) | (go_at_call 97; refine (l01Finite_any _ _ _ (by first | assumption | exact is_ofInt _ _ | exact is_self) (by first | assumption | rfl) _).mono ?_; rintro _ _ ⟨rfl, n, rfl⟩))
    go_ret
    exact ⟨by rw [h.out]; rfl, E0.trans E2⟩
  | true =>
    rw [hs] at h2
    have hV : Hid (v = layAll (cl ls) n) := by unfold Hid; rw [← HV.out, grdB_eq, hi, ← Bool.and_assoc (hardB (canon .f32 sp)), hs]; rfl
    cases hl2 : layAll (cl ls) n with
    | false =>
      have hq : (!layAll (cl ls) n) = true := by rw [hl2]; rfl
      have h : Hid (v = false) := by unfold Hid; rw [hV.out, hl2]
      clear hl2
      go_enter Try.func135, Try.ntmps135
      go_wp2_with fail
      rw [HA.out]
      go_wp2_with (first | (go_at_call 136; refine (lengthL_any _ _ _ _).mono ?_; rintro _ _ ⟨rfl, rfl⟩) | (go_at_call 165; refine (arePositive_any _ _ [sp, de] _ _ (by exact OwnF.toFR (ownF_two _ _ (Ext.refl _) _ _)) (by simp) h2).mono ?_; rintro _ w2 ⟨rfl, n2, hw2⟩; (have E2 : Ext w0 w2 := by rw [hw2]; exact ((Ext.refl _).alloc _).drewN _); (have c0 := E2.cell c0); (have c1 := E2.cell c1); (have c2 := E2.cell c2); clear hw2) | (go_at_call 166; refine (containsLay_any EG.out _ _ _ _ _ _ (hcw.ext E2) hl hq).mono ?_; rintro _ w1 ⟨rfl, E1⟩) | (go_at_call 77; refine (within_any _ _ _ _ (by first | assumption | rfl) _).mono ?_; rintro _ _ ⟨rfl, rfl⟩) | (go_at_call 90; refine (l00In_any _ _ _ _ (by first | assumption | rfl) _).mono ?_; rintro _ _ ⟨rfl, rfl⟩) | (go_at_call 96; refine (isCount_any _ _ (by first | assumption | rfl) _).mono ?_; rintro _ _ ⟨rfl, rfl⟩) | (go_at_call 88; refine (isTrace_any _ _ _ _ (by first | assumption | rfl) _).mono ?_; rintro _ _ ⟨rfl, rfl⟩) | (go_at_call 85; refine (l03Is_any _ _ _ _ (by first | assumption | rfl) (by omega) _).mono ?_; rintro _ _ ⟨rfl, rfl⟩) | (go_at_call 78; refine (length32_any _ _ _ _).mono ?_; rintro _ _ ⟨rfl, rfl⟩) | (go_at_call 148; refine (isFinite64_any _ _ _ (by assumption) (by first | assumption | rfl) _).mono ?_; rintro _ _ ⟨rfl, n, rfl⟩) | (go_at_call 99; refine (isFinite_any _ _ _ (by first | assumption | exact is_ofInt _ _ | exact is_self) (by first | assumption | rfl) _).mono ?_; rintro _ _ ⟨rfl, n, rfl⟩) | (go_at_call 97; refine (l01Finite_any _ _ _ (by first | assumption | exact is_ofInt _ _ | exact is_self) (by first | assumption | rfl) _).mono ?_; rintro _ _ ⟨rfl, n, rfl⟩))
      go_ret
      exact ⟨by rw [h.out]; rfl, E0.trans (E2.trans E1)⟩
    | true =>
      have hq : (!layAll (cl ls) n) = false := by rw [hl2]; rfl
      have h : Hid (v = true) := by unfold Hid; rw [hV.out, hl2]
      clear hl2
      go_enter Try.func135, Try.ntmps135
      go_wp2_with fail
      rw [HA.out]
      go_wp2_with (first | (go_at_call 136; refine (lengthL_any _ _ _ _).mono ?_; rintro _ _ ⟨rfl, rfl⟩) | (go_at_call 165; refine (arePositive_any _ _ [sp, de] _ _ (by exact OwnF.toFR (ownF_two _ _ (Ext.refl _) _ _)) (by simp) h2).mono ?_; rintro _ w2 ⟨rfl, n2, hw2⟩; (have E2 : Ext w0 w2 := by rw [hw2]; exact ((Ext.refl _).alloc _).drewN _); (have c0 := E2.cell c0); (have c1 := E2.cell c1); (have c2 := E2.cell c2); clear hw2) | (go_at_call 166; refine (containsLay_any EG.out _ _ _ _ _ _ (hcw.ext E2) hl hq).mono ?_; rintro _ w1 ⟨rfl, E1⟩) | (go_at_call 77; refine (within_any _ _ _ _ (by first | assumption | rfl) _).mono ?_; rintro _ _ ⟨rfl, rfl⟩) | (go_at_call 90; refine (l00In_any _ _ _ _ (by first | assumption | rfl) _).mono ?_; rintro _ _ ⟨rfl, rfl⟩) | (go_at_call 96; refine (isCount_any _ _ (by first | assumption | rfl) _).mono ?_; rintro _ _ ⟨rfl, rfl⟩) | (go_at_call 88; refine (isTrace_any _ _ _ _ (by first | assumption | rfl) _).mono ?_; rintro _ _ ⟨rfl, rfl⟩) | (go_at_call 85; refine (l03Is_any _ _ _ _ (by first | assumption | rfl) (by omega) _).mono ?_; rintro _ _ ⟨rfl, rfl⟩) | (go_at_call 78; refine (length32_any _ _ _ _).mono ?_; rintro _ _ ⟨rfl, rfl⟩) | (go_at_call 148; refine (isFinite64_any _ _ _ (by assumption) (by first | assumption | rfl) _).mono ?_; rintro _ _ ⟨rfl, n, rfl⟩) | (go_at_call 99; refine (isFinite_any _ _ _ (by first | assumption | exact is_ofInt _ _ | exact is_self) (by first | assumption | rfl) _).mono ?_; rintro _ _ ⟨rfl, n, rfl⟩) | (go_at_call 97; refine (l01Finite_any _ _ _ (by first | assumption | exact is_ofInt _ _ | exact is_self) (by first | assumption | rfl) _).mono ?_; rintro _ _ ⟨rfl, n, rfl⟩))
      go_ret
      exact ⟨by rw [h.out]; rfl, E0.trans (E2.trans E1)⟩
end Go.Proofs.Ytnjgcacnfobmiaa
