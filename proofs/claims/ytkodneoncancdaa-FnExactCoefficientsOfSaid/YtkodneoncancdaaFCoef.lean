/- CoefficientsOf, HardnessOf: the reference's and the program's. -/
import Derived.Test.YtkodneoncancdaaAre
import Derived.Test.YtkodneoncancdaaFAbout
namespace Go.Proofs.Ytkodneoncancdaa
open Go.RowKit
set_option linter.unusedVariables false

def coefAt (l : List Nat) (k : Nat) : Nat := fop .quo .f32 (fop .sub .f32 (el l (k + 1)) (el l k)) (fop .add .f32 (el l k) (el l (k + 1)))
def coefL (l : List Nat) : List Nat := tabP (coefAt l) (l.length - 1)
def coefO (l : List Nat) : Option (List Nat) := if allP hardB l l.length && areB (coefL l) then some (coefL l) else none
theorem areB_len {l : List Nat} (h : areB l = true) : 1 ≤ l.length ∧ l.length ≤ 24 := by
  unfold areB at h
  simp only [Bool.and_eq_true] at h
  have := inB_yes h.1
  omega
theorem coefO_len (l : List Nat) : ((coefO l).getD []).length ≤ 1048576 :=
  gate_len (n := 24) (fun h => by simp only [Bool.and_eq_true] at h; exact (areB_len h.2).2) (by omega)
theorem coef_short {l : List Nat} (h : inB (l.length : Int) 2 25 = false) : areB (coefL l) = false := by
  cases ha : areB (coefL l) with
  | false => rfl
  | true =>
    have h1 := areB_len ha
    unfold coefL at h1
    rw [tabP_len] at h1
    rw [inB_mk (by omega) (by omega)] at h
    cases h

set_option maxHeartbeats 4000000 in
theorem specCoef_any (ao : Option Addr) (cap : Nat) (xs : List Nat) (w : World) (hc : FR w ao xs) (hl : xs.length ≤ 1048576) :
    Calls Try.prog 56 #[.slice ao xs.length cap] w (GivesO (coefO (cl xs)) w) := by
  obtain ⟨i0, hi0, hz0, hs0, hb0⟩ := info_parts info32
  go_enter Try.func56, Try.ntmps56
  go_wp2
  go_loopw [9] (fun i wr => ∃ k n : Nat, k ≤ xs.length ∧ i = .int .i64 k ∧ Hid (allP hardB (cl xs) k = true) ∧ wr = w.drewN n) (fun i _ => xs.length - (intOf i).toNat)
  case atStart => exact ⟨0, 0, Nat.zero_le _, rfl, rfl, rfl⟩
  case round =>
    obtain ⟨k, n, hk, rfl, hall, rfl⟩ := hrel
    by_cases hlt : k < xs.length
    · obtain ⟨b, off, rfl, hcell⟩ := hc k hlt
      have hel := is_el hlt
      cases hv : hardB (el (cl xs) k) with
      | false =>
        have hn : Hid (coefO (cl xs) = none) := by unfold Hid coefO; rw [cl_length, allP_not hlt hv]; rfl
        go_wp2_with (go_at_call 95; refine (l03Hard_any _ _ _ hel hv _).mono ?_; rintro _ _ ⟨rfl, n1, rfl⟩)
        go_ret2
        exact givesO_none hn.out (by repeat (first | assumption | exact Ext.refl _ | apply Ext.drewN | apply Ext.alloc | (refine Ext.setCell ?_ (by first | assumption | exact Nat.le_refl _) _)))
      | true =>
        have HN : Hid (allP hardB (cl xs) (k + 1) = true) := by unfold Hid; rw [allP_succ, hall.out, hv]; rfl
        go_wp2_with (go_at_call 95; refine (l03Hard_any _ _ _ hel hv _).mono ?_; rintro _ _ ⟨rfl, n1, rfl⟩)
        go_roundw
        case rel => exact ⟨k + 1, _, by omega, by go_num, HN, rfl⟩
        case measure => simp [intOf]; omega
    · obtain rfl : xs.length = k := by omega
      go_wp2
      go_loopw [5, 6] (fun v i wr => ∃ (k : Nat) (ys : List Nat), k ≤ xs.length - 1 ∧ i = .int .i64 ((k : Int) + 1) ∧ OwnF wr w.heap.size v ys ∧ ys.length ≤ k ∧ Hid (cl ys = tabP (coefAt (cl xs)) k) ∧ Ext w wr) (fun _ i _ => xs.length - (intOf i).toNat)
      case atStart => exact ⟨0, [], Nat.zero_le _, by simp, ownF_empty _ _ (by repeat (first | assumption | exact Ext.refl _ | apply Ext.drewN | apply Ext.alloc | (refine Ext.setCell ?_ (by first | assumption | exact Nat.le_refl _) _))), Nat.le_refl _, rfl, (by repeat (first | assumption | exact Ext.refl _ | apply Ext.drewN | apply Ext.alloc | (refine Ext.setCell ?_ (by first | assumption | exact Nat.le_refl _) _)))⟩
      case round =>
        obtain ⟨k, ys, hk2, rfl, hO, hyl, hcl, hE⟩ := hrel
        clear hlt
        by_cases hlt : k + 1 < xs.length
        · obtain ⟨b, off, rfl, _⟩ := hc 0 (by omega)
          have hcA := FR.cellW hc hlt
          have hcB := FR.cellW hc (show k < xs.length by omega)
          have hA := is_el hlt
          have hB := is_el (show k < xs.length by omega)
          have e5 : (k : Int) + 1 < (xs.length : Int) := by omega
          go_wp2
          have e2 : (0 : Int) ≤ (k : Int) + 1 := by omega
          have e3 : ((k : Int) + 1).toNat = k + 1 := by omega
          have e4 : IntKind.i64.wrap ((k : Int) + 1 - 1) = (k : Int) := by rw [IntWalk.i64_in _ (by omega)]; omega
          have e6 : IntKind.i64.wrap (k : Int) = (k : Int) := IntWalk.i64_in _ (by omega)
          have e7 : k < xs.length := by omega
          refine wp_region_mix (fun _ => Ext w) (fun i => [22, 23].contains i) (fun _ _ => True) (by kernel_rfl) (by kernel_rfl) (by kernel_rfl) (fun _ _ _ h => h.drewN _) (fun _ => hE) (fun n0 => ?_)
          repeat (first
          | (refine lx_nil ?_; intro nq)
          | (refine lx_skip rfl ?_; go_simp)
          | (refine lx_move rfl rfl rfl rfl ?_; go_simp)
          | (refine lx_assign rfl rfl rfl rfl ?_; go_simp)
          | (refine lx_bin rfl rfl rfl rfl rfl rfl (by first | assumption | exact is_ofInt _ _ | exact is_self) (by first | assumption | exact is_ofInt _ _ | exact is_self) ?_; intro r hr; go_simp)
          | (refine lx_cmp rfl rfl rfl rfl rfl rfl (by first | assumption | exact is_ofInt _ _ | exact is_self) (by first | assumption | exact is_ofInt _ _ | exact is_self) (by first | assumption | rfl) ?_; go_simp)
          | (refine lx_widen rfl rfl rfl rfl (by first | exact rfl | kernel_rfl) (by kernel_rfl) (by first | assumption | exact is_ofInt _ _ | exact is_self) ?_; intro r hr; go_simp)
          | (refine lx_val rfl rfl (fun w' hw' => by go_simp; rfl) ?_; go_simp))
          refine lx_effV rfl rfl (fun n => by go_simp; exact ⟨rfl, rfl⟩) (fun n _ _ _ => (by repeat (first | assumption | exact Ext.refl _ | apply Ext.drewN | apply Ext.alloc | (refine Ext.setCell ?_ (by first | assumption | exact Nat.le_refl _) _)))) (fun n1 => ?_)
          go_simp
          refine lx_append1 rfl rfl Try.underlying22 hi0 hz0 hs0 hb0 rfl rfl rfl (by repeat (first | assumption | apply OwnF.drewN | apply OwnF.alloc)) (by repeat (first | assumption | exact Ext.refl _ | apply Ext.drewN | apply Ext.alloc | (refine Ext.setCell ?_ (by first | assumption | exact Nat.le_refl _) _))) (by omega) (by first | exact cell_new _ _ _ | exact cell_newD _ _ _ _) ?_
          intro v2 w2 hO2 hE2
          have HR := Lib.hid hr
          clear hr
          go_simp
          repeat (first
          | (refine lx_nil ?_; intro nq)
          | (refine lx_skip rfl ?_; go_simp)
          | (refine lx_move rfl rfl rfl rfl ?_; go_simp)
          | (refine lx_assign rfl rfl rfl rfl ?_; go_simp)
          | (refine lx_bin rfl rfl rfl rfl rfl rfl (by first | assumption | exact is_ofInt _ _ | exact is_self) (by first | assumption | exact is_ofInt _ _ | exact is_self) ?_; intro r hr; go_simp)
          | (refine lx_cmp rfl rfl rfl rfl rfl rfl (by first | assumption | exact is_ofInt _ _ | exact is_self) (by first | assumption | exact is_ofInt _ _ | exact is_self) (by first | assumption | rfl) ?_; go_simp)
          | (refine lx_widen rfl rfl rfl rfl (by first | exact rfl | kernel_rfl) (by kernel_rfl) (by first | assumption | exact is_ofInt _ _ | exact is_self) ?_; intro r hr; go_simp)
          | (refine lx_val rfl rfl (fun w' hw' => by go_simp; rfl) ?_; go_simp))
          clear e2 e3 e4 e5 e6 e7
          go_wp2
          go_roundw
          case rel => exact ⟨k + 1, _, by omega, by first | (go_num; done) | (congr 1; omega), (by repeat (first | assumption | apply OwnF.drewN | apply OwnF.alloc)), by simp; omega, app_step hcl.out (by exact HR.out), (by repeat (first | assumption | exact Ext.refl _ | apply Ext.drewN | apply Ext.alloc | (refine Ext.setCell ?_ (by first | assumption | exact Nat.le_refl _) _)))⟩
          case measure => simp [intOf]; omega
        · have hkk : k = xs.length - 1 := by omega
          have HC : Hid (cl ys = coefL (cl xs)) := by unfold Hid coefL; rw [hcl.out, cl_length, hkk]
          have e5 : ¬ (k : Int) + 1 < (xs.length : Int) := by omega
          clear hkk
          obtain ⟨ao', cap', rfl, hfr⟩ := OwnF.fr hO
          cases ha : areB (cl ys) with
          | false =>
            have hn : Hid (coefO (cl xs) = none) := by unfold Hid coefO; rw [← HC.out, ha, Bool.and_false]; rfl
            go_wp2_with (go_at_call 62; refine (l03Are_any _ _ _ _ _ hfr (by omega) ha).mono ?_; rintro _ _ ⟨rfl, rfl⟩)
            go_ret2
            exact givesO_none hn.out hE
          | true =>
            have hs : Hid (coefO (cl xs) = some (coefL (cl xs))) := by unfold Hid coefO; rw [← HC.out, ha, cl_length, hall.out]; rfl
            go_wp2_with (go_at_call 62; refine (l03Are_any _ _ _ _ _ hfr (by omega) ha).mono ?_; rintro _ _ ⟨rfl, rfl⟩)
            go_ret2
            exact givesO_some hs.out hE hO HC.out
theorem FR.tail {w : World} {b off : Nat} {xs : List Nat} (h : FR w (some ⟨b, off, none⟩) xs) : FR w (some ⟨b, off + 1, none⟩) (xs.drop 1) := fun i hi => by
  simp at hi
  obtain ⟨b', o', e, hcell⟩ := h (1 + i) (by omega)
  simp only [Option.some.injEq, Addr.mk.injEq, and_true] at e
  obtain ⟨rfl, rfl⟩ := e
  refine ⟨b, off + 1, rfl, ?_⟩
  rw [show off + 1 + i = off + (1 + i) by omega, hcell]
  congr 2
  simp [el, List.getD, Nat.add_comm 1 i]
theorem el_tail (xs : List Nat) (i : Nat) : el (xs.drop 1) i = el xs (i + 1) := by
  cases xs <;> simp [el]
set_option maxHeartbeats 4000000 in
theorem implCoef_any (ao : Option Addr) (cap : Nat) (xs : List Nat) (w : World) (hc : FR w ao xs) (hl : xs.length ≤ 1048576) (hcap : xs.length ≤ cap) :
    Calls Try.prog 57 #[.slice ao xs.length cap] w (GivesO (coefO (cl xs)) w) := by
  obtain ⟨i0, hi0, hz0, hs0, hb0⟩ := info_parts info32
  cases ht0 : inB (xs.length : Int) 2 25 with
  | false =>
    have hn : Hid (coefO (cl xs) = none) := by unfold Hid coefO; rw [coef_short (by rw [cl_length]; exact ht0), Bool.and_false]; rfl
    go_enter Try.func57, Try.ntmps57
    go_wp2_with (first | (go_at_call 63; refine (within_any _ _ _ _ (by first | assumption | rfl) _).mono ?_; rintro _ _ ⟨rfl, rfl⟩) | (go_at_call 69; refine (l00In_any _ _ _ _ (by first | assumption | rfl) _).mono ?_; rintro _ _ ⟨rfl, rfl⟩) | (go_at_call 71; refine (isCount_any _ _ (by first | assumption | rfl) _).mono ?_; rintro _ _ ⟨rfl, rfl⟩) | (go_at_call 79; refine (isFilter_any _ _ (by first | assumption | rfl) _).mono ?_; rintro _ _ ⟨rfl, rfl⟩) | (go_at_call 70; refine (isTrace_any _ _ _ _ (by first | assumption | rfl) _).mono ?_; rintro _ _ ⟨rfl, rfl⟩) | (go_at_call 68; refine (l03Is_any _ _ _ _ (by first | assumption | rfl) (by omega) _).mono ?_; rintro _ _ ⟨rfl, rfl⟩) | (go_at_call 64; refine (length32_any _ _ _ _).mono ?_; rintro _ _ ⟨rfl, rfl⟩) | (go_at_call 108; refine (isFinite64_any _ _ _ (by assumption) (by first | assumption | rfl) _).mono ?_; rintro _ _ ⟨rfl, n, rfl⟩) | (go_at_call 105; refine (isFinite_any _ _ _ (by first | assumption | exact is_ofInt _ _ | exact is_self) (by first | assumption | rfl) _).mono ?_; rintro _ _ ⟨rfl, n, rfl⟩) | (go_at_call 101; refine (l01Finite_any _ _ _ (by first | assumption | exact is_ofInt _ _ | exact is_self) (by first | assumption | rfl) _).mono ?_; rintro _ _ ⟨rfl, n, rfl⟩) | (refine wl_bin rfl rfl rfl rfl rfl (by first | assumption | exact is_ofInt _ _ | exact is_self) (by first | assumption | exact is_ofInt _ _ | exact is_self) ?_; intro r n hr) | (refine wl_cmp rfl rfl rfl rfl rfl (by first | assumption | exact is_ofInt _ _ | exact is_self) (by first | assumption | exact is_ofInt _ _ | exact is_self) (by first | assumption | rfl) ?_) | (refine wl_widen rfl rfl rfl (by first | exact rfl | kernel_rfl) (by kernel_rfl) (by first | assumption | exact is_ofInt _ _ | exact is_self) ?_; intro r n hr) | (refine wl_neg rfl rfl rfl (by first | assumption | exact is_ofInt _ _ | exact is_self) ?_; intro r hr))
    go_ret2
    exact givesO_none hn.out (Ext.refl _)
  | true =>
  have hI0 := inB_yes ht0
  cases ht1 : allP hardB (cl xs) xs.length with
  | false =>
    have hn : Hid (coefO (cl xs) = none) := by unfold Hid coefO; rw [cl_length, ht1]; rfl
    go_enter Try.func57, Try.ntmps57
    go_wp2_with (first | (go_at_call 96; refine (arePositive_any _ _ _ _ _ hc hl ht1).mono ?_; rintro _ _ ⟨rfl, n1, rfl⟩) | (go_at_call 63; refine (within_any _ _ _ _ (by first | assumption | rfl) _).mono ?_; rintro _ _ ⟨rfl, rfl⟩) | (go_at_call 69; refine (l00In_any _ _ _ _ (by first | assumption | rfl) _).mono ?_; rintro _ _ ⟨rfl, rfl⟩) | (go_at_call 71; refine (isCount_any _ _ (by first | assumption | rfl) _).mono ?_; rintro _ _ ⟨rfl, rfl⟩) | (go_at_call 79; refine (isFilter_any _ _ (by first | assumption | rfl) _).mono ?_; rintro _ _ ⟨rfl, rfl⟩) | (go_at_call 70; refine (isTrace_any _ _ _ _ (by first | assumption | rfl) _).mono ?_; rintro _ _ ⟨rfl, rfl⟩) | (go_at_call 68; refine (l03Is_any _ _ _ _ (by first | assumption | rfl) (by omega) _).mono ?_; rintro _ _ ⟨rfl, rfl⟩) | (go_at_call 64; refine (length32_any _ _ _ _).mono ?_; rintro _ _ ⟨rfl, rfl⟩) | (go_at_call 108; refine (isFinite64_any _ _ _ (by assumption) (by first | assumption | rfl) _).mono ?_; rintro _ _ ⟨rfl, n, rfl⟩) | (go_at_call 105; refine (isFinite_any _ _ _ (by first | assumption | exact is_ofInt _ _ | exact is_self) (by first | assumption | rfl) _).mono ?_; rintro _ _ ⟨rfl, n, rfl⟩) | (go_at_call 101; refine (l01Finite_any _ _ _ (by first | assumption | exact is_ofInt _ _ | exact is_self) (by first | assumption | rfl) _).mono ?_; rintro _ _ ⟨rfl, n, rfl⟩))
    go_ret2
    exact givesO_none hn.out (by repeat (first | assumption | exact Ext.refl _ | apply Ext.drewN | apply Ext.alloc | (refine Ext.setCell ?_ (by first | assumption | exact Nat.le_refl _) _)))
  | true =>
  have HT := Lib.hid ht1
  obtain ⟨b, off, rfl, _⟩ := hc 0 (by omega)
  have hc1 : ¬ cap = 1 := by omega
  have hsub := FR.tail hc
  have h1l : 1 ≤ xs.length := by omega
  go_enter Try.func57, Try.ntmps57
  go_wp2_with (first | (go_at_call 96; refine (arePositive_any _ _ _ _ _ hc hl ht1).mono ?_; rintro _ _ ⟨rfl, n1, rfl⟩) | (go_at_call 63; refine (within_any _ _ _ _ (by first | assumption | rfl) _).mono ?_; rintro _ _ ⟨rfl, rfl⟩) | (go_at_call 69; refine (l00In_any _ _ _ _ (by first | assumption | rfl) _).mono ?_; rintro _ _ ⟨rfl, rfl⟩) | (go_at_call 71; refine (isCount_any _ _ (by first | assumption | rfl) _).mono ?_; rintro _ _ ⟨rfl, rfl⟩) | (go_at_call 79; refine (isFilter_any _ _ (by first | assumption | rfl) _).mono ?_; rintro _ _ ⟨rfl, rfl⟩) | (go_at_call 70; refine (isTrace_any _ _ _ _ (by first | assumption | rfl) _).mono ?_; rintro _ _ ⟨rfl, rfl⟩) | (go_at_call 68; refine (l03Is_any _ _ _ _ (by first | assumption | rfl) (by omega) _).mono ?_; rintro _ _ ⟨rfl, rfl⟩) | (go_at_call 64; refine (length32_any _ _ _ _).mono ?_; rintro _ _ ⟨rfl, rfl⟩) | (go_at_call 108; refine (isFinite64_any _ _ _ (by assumption) (by first | assumption | rfl) _).mono ?_; rintro _ _ ⟨rfl, n, rfl⟩) | (go_at_call 105; refine (isFinite_any _ _ _ (by first | assumption | exact is_ofInt _ _ | exact is_self) (by first | assumption | rfl) _).mono ?_; rintro _ _ ⟨rfl, n, rfl⟩) | (go_at_call 101; refine (l01Finite_any _ _ _ (by first | assumption | exact is_ofInt _ _ | exact is_self) (by first | assumption | rfl) _).mono ?_; rintro _ _ ⟨rfl, n, rfl⟩))
  go_loopw [4, 19] (fun v i wr => ∃ (k : Nat) (ys : List Nat), k ≤ xs.length - 1 ∧ i = .int .i64 k ∧ OwnF wr w.heap.size v ys ∧ ys.length ≤ k ∧ Hid (cl ys = tabP (coefAt (cl xs)) k) ∧ Ext w wr) (fun _ i _ => xs.length - (intOf i).toNat)
  case atStart => exact ⟨0, [], Nat.zero_le _, rfl, (by first | exact OwnF.nil _ _ | exact ownF_empty _ _ (by repeat (first | assumption | exact Ext.refl _ | apply Ext.drewN | apply Ext.alloc | (refine Ext.setCell ?_ (by first | assumption | exact Nat.le_refl _) _)))), Nat.le_refl _, rfl, (by repeat (first | assumption | exact Ext.refl _ | apply Ext.drewN | apply Ext.alloc | (refine Ext.setCell ?_ (by first | assumption | exact Nat.le_refl _) _)))⟩
  case round =>
    obtain ⟨k, ys, hk, rfl, hO, hyl, hcl, hE⟩ := hrel
    by_cases hlt : k < xs.length - 1
    · have hcA := FR.cellW hsub (show k < (xs.drop 1).length by simp; omega)
      rw [el_tail] at hcA
      have hcB := FR.cellW hc (show k < xs.length by omega)
      have hA := is_el (show k + 1 < xs.length by omega)
      have hB := is_el (show k < xs.length by omega)
      have hcAw := hcA wr hE
      have e7 : k < xs.length := by omega
      have e5 : (k : Int) < (xs.length : Int) - 1 := by omega
      have e6 : k + 1 < xs.length := by omega
      go_wp2
      refine wp_region_mix (fun _ => Ext w) (fun i => [14, 15].contains i) (fun _ _ => True) (by kernel_rfl) (by kernel_rfl) (by kernel_rfl) (fun _ _ _ h => h.drewN _) (fun _ => hE) (fun n0 => ?_)
      repeat (first
          | (refine lx_nil ?_; intro nq)
          | (refine lx_skip rfl ?_; go_simp)
          | (refine lx_move rfl rfl rfl rfl ?_; go_simp)
          | (refine lx_assign rfl rfl rfl rfl ?_; go_simp)
          | (refine lx_bin rfl rfl rfl rfl rfl rfl (by first | assumption | exact is_ofInt _ _ | exact is_self) (by first | assumption | exact is_ofInt _ _ | exact is_self) ?_; intro r hr; go_simp)
          | (refine lx_cmp rfl rfl rfl rfl rfl rfl (by first | assumption | exact is_ofInt _ _ | exact is_self) (by first | assumption | exact is_ofInt _ _ | exact is_self) (by first | assumption | rfl) ?_; go_simp)
          | (refine lx_widen rfl rfl rfl rfl (by first | exact rfl | kernel_rfl) (by kernel_rfl) (by first | assumption | exact is_ofInt _ _ | exact is_self) ?_; intro r hr; go_simp)
          | (refine lx_val rfl rfl (fun w' hw' => by go_simp; rfl) ?_; go_simp))
      refine lx_effV rfl rfl (fun n => by go_simp; exact ⟨rfl, rfl⟩) (fun n _ _ _ => (by repeat (first | assumption | exact Ext.refl _ | apply Ext.drewN | apply Ext.alloc | (refine Ext.setCell ?_ (by first | assumption | exact Nat.le_refl _) _)))) (fun n1 => ?_)
      go_simp
      refine lx_append1 rfl rfl Try.underlying22 hi0 hz0 hs0 hb0 rfl rfl rfl (by repeat (first | assumption | apply OwnF.drewN | apply OwnF.alloc)) (by repeat (first | assumption | exact Ext.refl _ | apply Ext.drewN | apply Ext.alloc | (refine Ext.setCell ?_ (by first | assumption | exact Nat.le_refl _) _))) (by omega) (by first | exact cell_new _ _ _ | exact cell_newD _ _ _ _) ?_
      intro v2 w2 hO2 hE2
      have HR := Lib.hid hr
      clear hr
      go_simp
      repeat (first
          | (refine lx_nil ?_; intro nq)
          | (refine lx_skip rfl ?_; go_simp)
          | (refine lx_move rfl rfl rfl rfl ?_; go_simp)
          | (refine lx_assign rfl rfl rfl rfl ?_; go_simp)
          | (refine lx_bin rfl rfl rfl rfl rfl rfl (by first | assumption | exact is_ofInt _ _ | exact is_self) (by first | assumption | exact is_ofInt _ _ | exact is_self) ?_; intro r hr; go_simp)
          | (refine lx_cmp rfl rfl rfl rfl rfl rfl (by first | assumption | exact is_ofInt _ _ | exact is_self) (by first | assumption | exact is_ofInt _ _ | exact is_self) (by first | assumption | rfl) ?_; go_simp)
          | (refine lx_widen rfl rfl rfl rfl (by first | exact rfl | kernel_rfl) (by kernel_rfl) (by first | assumption | exact is_ofInt _ _ | exact is_self) ?_; intro r hr; go_simp)
          | (refine lx_val rfl rfl (fun w' hw' => by go_simp; rfl) ?_; go_simp))
      clear e5 e6 e7
      go_wp2
      go_roundw
      case rel => exact ⟨k + 1, _, by omega, by go_num, (by repeat (first | assumption | apply OwnF.drewN | apply OwnF.alloc)), by simp; omega, app_step hcl.out (by exact HR.out), (by repeat (first | assumption | exact Ext.refl _ | apply Ext.drewN | apply Ext.alloc | (refine Ext.setCell ?_ (by first | assumption | exact Nat.le_refl _) _)))⟩
      case measure => simp [intOf]; omega
    · have hkk : k = xs.length - 1 := by omega
      have HC : Hid (cl ys = coefL (cl xs)) := by unfold Hid coefL; rw [hcl.out, cl_length, hkk]
      have e5 : ¬ (k : Int) < (xs.length : Int) - 1 := by omega
      have e6 : ¬ k + 1 < xs.length := by omega
      clear hkk
      obtain ⟨ao', cap', rfl, hfr⟩ := OwnF.fr hO
      cases ha : areB (cl ys) with
      | false =>
        have hn : Hid (coefO (cl xs) = none) := by unfold Hid coefO; rw [← HC.out, ha, Bool.and_false]; rfl
        go_wp2_with (go_at_call 23; refine (are_any _ _ _ _ _ hfr (by omega) ha).mono ?_; rintro _ _ ⟨rfl, n2, rfl⟩)
        go_ret2
        exact givesO_none hn.out (by repeat (first | assumption | exact Ext.refl _ | apply Ext.drewN | apply Ext.alloc | (refine Ext.setCell ?_ (by first | assumption | exact Nat.le_refl _) _)))
      | true =>
        have hs : Hid (coefO (cl xs) = some (coefL (cl xs))) := by unfold Hid coefO; rw [← HC.out, ha, cl_length, HT.out]; rfl
        go_wp2_with (go_at_call 23; refine (are_any _ _ _ _ _ hfr (by omega) ha).mono ?_; rintro _ _ ⟨rfl, n2, rfl⟩)
        go_ret2
        exact givesO_some hs.out (by repeat (first | assumption | exact Ext.refl _ | apply Ext.drewN | apply Ext.alloc | (refine Ext.setCell ?_ (by first | assumption | exact Nat.le_refl _) _))) (by repeat (first | assumption | apply OwnF.drewN | apply OwnF.alloc)) HC.out
end Go.Proofs.Ytkodneoncancdaa
