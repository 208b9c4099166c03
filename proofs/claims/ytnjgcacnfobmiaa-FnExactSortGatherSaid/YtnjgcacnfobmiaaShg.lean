/- ShiftGather: what it gives; shifted, the test of the shifts. -/
import Derived.Test.YtnjgcacnfobmiaaKLen
namespace Go.Proofs.Ytnjgcacnfobmiaa
open Go.RowKit
set_option maxRecDepth 100000
set_option linter.unusedVariables false

def atF (l : List Nat) (n : Int) : Nat := if 0 ≤ n ∧ n < (l.length : Int) then el l n.toNat else 0
def shAt (l : List Nat) (d : Int) (k : Nat) : Nat := atF l ((k : Int) + d)
theorem is_atF (xs : List Nat) (n : Int) : Is .f32 (atF xs n) (atF (cl xs) n) := by
  unfold atF
  rw [cl_length]
  split
  · exact is_el (by omega)
  · exact canon_of_not (by decide +kernel)
theorem at_any (ao : Option Addr) (cap : Nat) (xs : List Nat) (n : Int) (w : World) (hc : FR w ao xs) (hl : xs.length ≤ 128) (h1 : -1000 ≤ n) (h2 : n ≤ 1000) :
    Calls Try.prog 154 #[.slice ao xs.length cap, .int .i64 n] w fun e w' => e = .returned (.float .f32 (atF xs n)) ∧ w = w' := by
  cases ht : inB n 0 ((xs.length : Int) - 1) with
  | false =>
    have hn : Hid (atF xs n = 0) := by unfold Hid atF; have := inB_no ht; rw [if_neg (by omega)]
    go_enter Try.func154, Try.ntmps154
    go_wp2_with (first | (go_at_call 77; refine (within_any _ _ _ _ (by first | assumption | rfl) _).mono ?_; rintro _ _ ⟨rfl, rfl⟩) | (go_at_call 90; refine (l00In_any _ _ _ _ (by first | assumption | rfl) _).mono ?_; rintro _ _ ⟨rfl, rfl⟩) | (go_at_call 96; refine (isCount_any _ _ (by first | assumption | rfl) _).mono ?_; rintro _ _ ⟨rfl, rfl⟩) | (go_at_call 88; refine (isTrace_any _ _ _ _ (by first | assumption | rfl) _).mono ?_; rintro _ _ ⟨rfl, rfl⟩) | (go_at_call 85; refine (l03Is_any _ _ _ _ (by first | assumption | rfl) (by omega) _).mono ?_; rintro _ _ ⟨rfl, rfl⟩) | (go_at_call 78; refine (length32_any _ _ _ _).mono ?_; rintro _ _ ⟨rfl, rfl⟩) | (go_at_call 148; refine (isFinite64_any _ _ _ (by assumption) (by first | assumption | rfl) _).mono ?_; rintro _ _ ⟨rfl, n, rfl⟩) | (go_at_call 99; refine (isFinite_any _ _ _ (by first | assumption | exact is_ofInt _ _ | exact is_self) (by first | assumption | rfl) _).mono ?_; rintro _ _ ⟨rfl, n, rfl⟩) | (go_at_call 97; refine (l01Finite_any _ _ _ (by first | assumption | exact is_ofInt _ _ | exact is_self) (by first | assumption | rfl) _).mono ?_; rintro _ _ ⟨rfl, n, rfl⟩) | (refine wl_bin rfl rfl rfl rfl rfl (by first | assumption | exact is_ofInt _ _ | exact is_self) (by first | assumption | exact is_ofInt _ _ | exact is_self) ?_; intro r n hr) | (refine wl_cmp rfl rfl rfl rfl rfl (by first | assumption | exact is_ofInt _ _ | exact is_self) (by first | assumption | exact is_ofInt _ _ | exact is_self) (by first | assumption | rfl) ?_) | (refine wl_widen rfl rfl rfl (by first | exact rfl | kernel_rfl) (by kernel_rfl) (by first | assumption | exact is_ofInt _ _ | exact is_self) ?_; intro r n hr) | (refine wl_neg rfl rfl rfl (by first | assumption | exact is_ofInt _ _ | exact is_self) ?_; intro r hr))
    go_ret
    exact ⟨by rw [hn.out]; rfl, rfl⟩
  | true =>
    have h3 := inB_yes ht
    have hn : Hid (atF xs n = el xs n.toNat) := by unfold Hid atF; rw [if_pos (by omega)]
    obtain ⟨m, rfl⟩ := Int.eq_ofNat_of_zero_le h3.1
    obtain ⟨b, off, rfl, hcell⟩ := hc m (by omega)
    have hlt : m < xs.length := by omega
    go_enter Try.func154, Try.ntmps154
    go_wp2_with (first | (go_at_call 77; refine (within_any _ _ _ _ (by first | assumption | rfl) _).mono ?_; rintro _ _ ⟨rfl, rfl⟩) | (go_at_call 90; refine (l00In_any _ _ _ _ (by first | assumption | rfl) _).mono ?_; rintro _ _ ⟨rfl, rfl⟩) | (go_at_call 96; refine (isCount_any _ _ (by first | assumption | rfl) _).mono ?_; rintro _ _ ⟨rfl, rfl⟩) | (go_at_call 88; refine (isTrace_any _ _ _ _ (by first | assumption | rfl) _).mono ?_; rintro _ _ ⟨rfl, rfl⟩) | (go_at_call 85; refine (l03Is_any _ _ _ _ (by first | assumption | rfl) (by omega) _).mono ?_; rintro _ _ ⟨rfl, rfl⟩) | (go_at_call 78; refine (length32_any _ _ _ _).mono ?_; rintro _ _ ⟨rfl, rfl⟩) | (go_at_call 148; refine (isFinite64_any _ _ _ (by assumption) (by first | assumption | rfl) _).mono ?_; rintro _ _ ⟨rfl, n, rfl⟩) | (go_at_call 99; refine (isFinite_any _ _ _ (by first | assumption | exact is_ofInt _ _ | exact is_self) (by first | assumption | rfl) _).mono ?_; rintro _ _ ⟨rfl, n, rfl⟩) | (go_at_call 97; refine (l01Finite_any _ _ _ (by first | assumption | exact is_ofInt _ _ | exact is_self) (by first | assumption | rfl) _).mono ?_; rintro _ _ ⟨rfl, n, rfl⟩) | (refine wl_bin rfl rfl rfl rfl rfl (by first | assumption | exact is_ofInt _ _ | exact is_self) (by first | assumption | exact is_ofInt _ _ | exact is_self) ?_; intro r n hr) | (refine wl_cmp rfl rfl rfl rfl rfl (by first | assumption | exact is_ofInt _ _ | exact is_self) (by first | assumption | exact is_ofInt _ _ | exact is_self) (by first | assumption | rfl) ?_) | (refine wl_widen rfl rfl rfl (by first | exact rfl | kernel_rfl) (by kernel_rfl) (by first | assumption | exact is_ofInt _ _ | exact is_self) ?_; intro r n hr) | (refine wl_neg rfl rfl rfl (by first | assumption | exact is_ofInt _ _ | exact is_self) ?_; intro r hr))
    go_ret
    exact ⟨by rw [hn.out]; rfl, rfl⟩
set_option maxHeartbeats 2000000 in
theorem shifted_any (ao : Option Addr) (cap : Nat) (xs : List Nat) (d : Int) (w : World) (hc : FR w ao xs) (hl : xs.length ≤ 128) (h1 : -200 ≤ d) (h2 : d ≤ 200) :
    Calls Try.prog 112 #[.slice ao xs.length cap, .int .i64 d] w (GivesS (tabP (shAt (cl xs) d) xs.length) w) := by
  obtain ⟨i0, hi0, hz0, hs0, hb0⟩ := info_parts info32
  go_enter Try.func112, Try.ntmps112
  go_wp2_with (first | (at_make; refine wl_make1 rfl Try.underlying22 hi0 hz0 hs0 hb0 rfl rfl rfl rfl rfl (by omega) ?_; intro w1 hO1 hE1))
  have hg1 : w.heap.size ≤ w.heap.size := Nat.le_refl _
  go_loopw [12] (fun i wr => ∃ (k : Nat) (ys : List Nat), k ≤ xs.length ∧ i = .int .i64 k ∧ OwnF wr w.heap.size (.slice (some ⟨w.heap.size, 0, none⟩) (xs.length) (xs.length)) ys ∧ Hid (ys.length = xs.length) ∧ Hid (cl ys = tabP (shAt (cl xs) d) k ++ List.drop k (List.replicate (xs.length) 0)) ∧ Ext w wr) (fun i _ => xs.length - (intOf i).toNat)
  case atStart => exact ⟨0, _, Nat.zero_le _, rfl, hO1, by simp [Hid], set_start _ _ (cl_zeros _), hE1⟩
  case round =>
    obtain ⟨k, ys, hk, rfl, hO, hyl, hcl, hE⟩ := hrel
    clear hO1 hE1
    by_cases hlt : k < xs.length
    · obtain ⟨hcur, hfz⟩ := OwnF.at' hO (k := k) (by rw [hyl.out]; exact hlt)
      have hst := hO.stored k (atF xs ((k : Int) + d))
      have HO := Lib.hid hst.1
      clear hst
      have HS := set_step hcl.out (by simp; omega) (is_atF xs ((k : Int) + d))
      go_wp2_with (first | (go_at_call 154; refine (at_any _ _ _ _ _ (hc.ext hE) (by omega) (by omega) (by omega)).mono ?_; rintro _ _ ⟨rfl, rfl⟩))
      go_roundw
      case rel => exact ⟨k + 1, _, by omega, by go_num, HO.out, by unfold Hid; rw [List.length_set]; exact hyl.out, HS, (by repeat (first | assumption | exact Ext.refl _ | apply Ext.drewN | apply Ext.alloc | (refine Ext.setCell ?_ (by first | assumption | exact Nat.le_refl _) _)))⟩
      case measure => simp [intOf]; omega
    · go_wp2
      go_ret
      obtain rfl : xs.length = k := by omega
      exact ⟨_, _, rfl, hE, hO, set_done hcl.out (by simp)⟩
def shB (ds : List Int) (n : Nat) : Bool := (List.range n).all fun i => inB (elv ds i) (-64) 64
theorem shB_succ (ds : List Int) (n : Nat) : shB ds (n + 1) = (shB ds n && inB (elv ds n) (-64) 64) := by unfold shB; rw [List.range_succ, List.all_append]; simp
theorem shB_not {ds : List Int} {k n : Nat} (hk : k < n) (h : inB (elv ds k) (-64) 64 = false) : shB ds n = false := by
  unfold shB
  rw [List.all_eq_false]
  exact ⟨k, List.mem_range.2 hk, by simp [h]⟩
theorem shB_at {ds : List Int} {k n : Nat} (hk : k < n) (h : shB ds n = true) : inB (elv ds k) (-64) 64 = true := by
  unfold shB at h
  exact List.all_eq_true.1 h k (List.mem_range.2 hk)
def shR (rs : List (List Nat)) (ds : List Int) (n : Nat) : List (List Nat) := (List.range n).map fun i => tabP (shAt (row rs i) (elv ds i)) (row rs i).length
theorem shR_succ (rs : List (List Nat)) (ds : List Int) (n : Nat) : shR rs ds (n + 1) = shR rs ds n ++ [tabP (shAt (row rs n) (elv ds n)) (row rs n).length] := by unfold shR; rw [List.range_succ, List.map_append]; rfl
theorem shR_len (rs : List (List Nat)) (ds : List Int) (n : Nat) : (shR rs ds n).length = n := by simp [shR]
def shgO (t : Int) (ps : List Nat) (rs : List (List Nat)) (ds : List Int) : Option (Int × List Nat × List (List Nat)) :=
  if gOk t ps rs && (decide (ds.length = rs.length) && shB ds ds.length) then some (t, ps, shR rs ds rs.length) else none
theorem shgO_len (t : Int) (P : List Nat) (R : List (List Nat)) (ds : List Int) : (((shgO t P R ds).map (·.2.1)).getD []).length + ((((shgO t P R ds).map (·.2.2)).getD []).length + tot (((shgO t P R ds).map (·.2.2)).getD [])) ≤ 1048576 := by
  unfold shgO
  split
  · rename_i h
    simp only [Bool.and_eq_true] at h
    have h1 := gOk_small h.1
    have h0 := h.1
    unfold gOk plB at h0
    simp only [Bool.and_eq_true, decide_eq_true_eq] at h0
    obtain ⟨⟨⟨k1, k2, _⟩, k3⟩, k4⟩ := h0
    have j1 := inB_yes k1
    have j2 := inB_yes k2
    have h5 := tot_mul (shR R ds R.length) 64 (fun r hr => by
      unfold shR at hr
      obtain ⟨i, hi, rfl⟩ := List.mem_map.1 hr
      have := lenB_at (List.mem_range.1 hi) k4
      rw [tabP_len]
      omega)
    rw [shR_len] at h5
    simp only [Option.map_some, Option.getD_some, shR_len]
    have : R.length * 64 ≤ 16 * 64 := Nat.mul_le_mul_right _ (by omega)
    omega
  · simp [tot]
theorem shClo_any (d : Int) (v : Bool) (w : World) (hv : (!inB d (-64) 64) = v) : Calls Try.prog 111 #[.int .i64 d] w fun e w' => e = .returned (.bool v) ∧ w = w' := by
  subst hv
  cases hq : inB d (-64) 64 with
  | false =>
    go_enter Try.func111, Try.ntmps111
    go_wp2_with (first | (go_at_call 77; refine (within_any _ _ _ _ (by first | assumption | rfl) _).mono ?_; rintro _ _ ⟨rfl, rfl⟩) | (go_at_call 90; refine (l00In_any _ _ _ _ (by first | assumption | rfl) _).mono ?_; rintro _ _ ⟨rfl, rfl⟩) | (go_at_call 96; refine (isCount_any _ _ (by first | assumption | rfl) _).mono ?_; rintro _ _ ⟨rfl, rfl⟩) | (go_at_call 88; refine (isTrace_any _ _ _ _ (by first | assumption | rfl) _).mono ?_; rintro _ _ ⟨rfl, rfl⟩) | (go_at_call 85; refine (l03Is_any _ _ _ _ (by first | assumption | rfl) (by omega) _).mono ?_; rintro _ _ ⟨rfl, rfl⟩) | (go_at_call 78; refine (length32_any _ _ _ _).mono ?_; rintro _ _ ⟨rfl, rfl⟩) | (go_at_call 148; refine (isFinite64_any _ _ _ (by assumption) (by first | assumption | rfl) _).mono ?_; rintro _ _ ⟨rfl, n, rfl⟩) | (go_at_call 99; refine (isFinite_any _ _ _ (by first | assumption | exact is_ofInt _ _ | exact is_self) (by first | assumption | rfl) _).mono ?_; rintro _ _ ⟨rfl, n, rfl⟩) | (go_at_call 97; refine (l01Finite_any _ _ _ (by first | assumption | exact is_ofInt _ _ | exact is_self) (by first | assumption | rfl) _).mono ?_; rintro _ _ ⟨rfl, n, rfl⟩) | (refine wl_bin rfl rfl rfl rfl rfl (by first | assumption | exact is_ofInt _ _ | exact is_self) (by first | assumption | exact is_ofInt _ _ | exact is_self) ?_; intro r n hr) | (refine wl_cmp rfl rfl rfl rfl rfl (by first | assumption | exact is_ofInt _ _ | exact is_self) (by first | assumption | exact is_ofInt _ _ | exact is_self) (by first | assumption | rfl) ?_) | (refine wl_widen rfl rfl rfl (by first | exact rfl | kernel_rfl) (by kernel_rfl) (by first | assumption | exact is_ofInt _ _ | exact is_self) ?_; intro r n hr) | (refine wl_neg rfl rfl rfl (by first | assumption | exact is_ofInt _ _ | exact is_self) ?_; intro r hr))
    go_ret
    exact ⟨rfl, rfl⟩
  | true =>
    go_enter Try.func111, Try.ntmps111
    go_wp2_with (first | (go_at_call 77; refine (within_any _ _ _ _ (by first | assumption | rfl) _).mono ?_; rintro _ _ ⟨rfl, rfl⟩) | (go_at_call 90; refine (l00In_any _ _ _ _ (by first | assumption | rfl) _).mono ?_; rintro _ _ ⟨rfl, rfl⟩) | (go_at_call 96; refine (isCount_any _ _ (by first | assumption | rfl) _).mono ?_; rintro _ _ ⟨rfl, rfl⟩) | (go_at_call 88; refine (isTrace_any _ _ _ _ (by first | assumption | rfl) _).mono ?_; rintro _ _ ⟨rfl, rfl⟩) | (go_at_call 85; refine (l03Is_any _ _ _ _ (by first | assumption | rfl) (by omega) _).mono ?_; rintro _ _ ⟨rfl, rfl⟩) | (go_at_call 78; refine (length32_any _ _ _ _).mono ?_; rintro _ _ ⟨rfl, rfl⟩) | (go_at_call 148; refine (isFinite64_any _ _ _ (by assumption) (by first | assumption | rfl) _).mono ?_; rintro _ _ ⟨rfl, n, rfl⟩) | (go_at_call 99; refine (isFinite_any _ _ _ (by first | assumption | exact is_ofInt _ _ | exact is_self) (by first | assumption | rfl) _).mono ?_; rintro _ _ ⟨rfl, n, rfl⟩) | (go_at_call 97; refine (l01Finite_any _ _ _ (by first | assumption | exact is_ofInt _ _ | exact is_self) (by first | assumption | rfl) _).mono ?_; rintro _ _ ⟨rfl, n, rfl⟩) | (refine wl_bin rfl rfl rfl rfl rfl (by first | assumption | exact is_ofInt _ _ | exact is_self) (by first | assumption | exact is_ofInt _ _ | exact is_self) ?_; intro r n hr) | (refine wl_cmp rfl rfl rfl rfl rfl (by first | assumption | exact is_ofInt _ _ | exact is_self) (by first | assumption | exact is_ofInt _ _ | exact is_self) (by first | assumption | rfl) ?_) | (refine wl_widen rfl rfl rfl (by first | exact rfl | kernel_rfl) (by kernel_rfl) (by first | assumption | exact is_ofInt _ _ | exact is_self) ?_; intro r n hr) | (refine wl_neg rfl rfl rfl (by first | assumption | exact is_ofInt _ _ | exact is_self) ?_; intro r hr))
    go_ret
    exact ⟨rfl, rfl⟩
theorem indexInts_any (ao : Option Addr) (cap : Nat) (ds : List Int) (w : World) (hr : FRI w ao ds) (hl : ds.length ≤ 1048576) :
    Calls Try.prog 153 #[.slice ao ds.length cap, .func (.func 111) #[] #[]] w (GivesIdx (!shB ds ds.length) w) := by
  have eg : ∀ (args : Array Value) (w : World), (callFunc 111 args).run Try.prog w = .ok (.enter 111 args) w := enters_at Try.func111 (by kernel_rfl) rfl
  go_enter Try.func153, Try.ntmps153
  go_wp2
  go_loopw [8] (fun i wr => ∃ k n : Nat, k ≤ ds.length ∧ i = .int .i64 k ∧ Hid (shB ds k = true) ∧ wr = w.drewN n) (fun i _ => ds.length - (intOf i).toNat)
  case atStart => exact ⟨0, 0, Nat.zero_le _, rfl, rfl, rfl⟩
  case round =>
    obtain ⟨k, n, hk, rfl, hall, rfl⟩ := hrel
    by_cases hlt : k < ds.length
    · obtain ⟨b, off, rfl, hcell⟩ := hr k hlt
      cases hq : inB (elv ds k) (-64) 64 with
      | true =>
        have HN : Hid (shB ds (k + 1) = true) := by unfold Hid; rw [shB_succ, hall.out, hq]; rfl
        have hv' : (!inB (elv ds k) (-64) 64) = false := by rw [hq]; rfl
        clear hq
        go_wp2_with ((with_reducible refine (shClo_any _ _ _ hv').mono ?_); rintro _ _ ⟨rfl, rfl⟩)
        go_roundw
        case rel => exact ⟨k + 1, _, by omega, by go_num, HN, rfl⟩
        case measure => simp [intOf]; omega
      | false =>
        have HN := Lib.hid (shB_not hlt hq)
        have hv' : (!inB (elv ds k) (-64) 64) = true := by rw [hq]; rfl
        clear hq
        go_wp2_with ((with_reducible refine (shClo_any _ _ _ hv').mono ?_); rintro _ _ ⟨rfl, rfl⟩)
        go_ret
        exact ⟨_, rfl, by rw [HN.out]; simp, _, rfl⟩
    · go_wp2
      go_ret
      obtain rfl : k = ds.length := by omega
      exact ⟨_, rfl, by rw [hall.out]; rfl, _, rfl⟩
theorem containsInts_any (ao : Option Addr) (cap n : Nat) (ds : List Int) (v : Bool) (w : World) (hn : n = ds.length) (hr : FRI w ao ds) (hl : ds.length ≤ 1048576) (hv : (!shB ds ds.length) = v) :
    Calls Try.prog 110 #[.slice ao n cap, .func (.func 111) #[] #[]] w (Gives (.bool v) w) := by
  subst hn
  have HV := Lib.hid hv
  clear hv
  go_enter Try.func110, Try.ntmps110
  go_wp2_with (go_at_call 153; refine (indexInts_any _ _ _ _ hr hl).mono ?_; rintro _ _ ⟨n, rfl, hn, m, rfl⟩; have HN := Lib.hid hn; clear hn)
  go_ret
  exact ⟨by rw [← HV.out, ← HN.out]; first | rfl | simp, _, rfl⟩
end Go.Proofs.Ytnjgcacnfobmiaa
