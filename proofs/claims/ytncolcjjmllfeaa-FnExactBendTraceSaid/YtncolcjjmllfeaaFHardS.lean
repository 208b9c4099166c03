/- HardnessOf: the reference's and the program's. -/
import Derived.Test.YtncolcjjmllfeaaFCoef
namespace Go.Proofs.Ytncolcjjmllfeaa
open Go.RowKit
set_option maxRecDepth 100000
set_option linter.unusedVariables false

/-! ### Hardness -/
theorem el_recP (F : List Nat → Nat) {n i : Nat} (h : i < n) : el (recP F n) i = F (recP F i) := by
  induction n with
  | zero => omega
  | succ n ih =>
    rw [recP]
    by_cases h1 : i < n
    · rw [el_append_left (by rw [recP_len]; exact h1)]; exact ih h1
    · obtain rfl : i = n := by omega
      unfold el
      rw [List.getD_eq_getElem?_getD, List.getElem?_append_right (by rw [recP_len]; exact Nat.le_refl _), recP_len, Nat.sub_self]
      rfl
def hardF (f : Nat) (l ys : List Nat) : Nat := if ys.length = 0 then f else fop .quo .f32 (fop .mul .f32 (el ys (ys.length - 1)) (fop .add .f32 (canon .f32 1065353216) (el l (ys.length - 1)))) (fop .sub .f32 (canon .f32 1065353216) (el l (ys.length - 1)))
def hardL (f : Nat) (l : List Nat) : List Nat := recP (hardF f l) (l.length + 1)
def hardO (f : Nat) (l : List Nat) : Option (List Nat) := if hardB f && areB l && allP hardB (hardL f l) (l.length + 1) then some (hardL f l) else none
theorem hardO_len (f : Nat) (l : List Nat) : ((hardO f l).getD []).length ≤ 1048576 :=
  gate_len (n := 25) (fun h => by simp only [Bool.and_eq_true] at h; have := areB_len h.1.2; unfold hardL; rw [recP_len]; omega) (by omega)
theorem hardF_step (f : Nat) (l : List Nat) (k : Nat) {ys : List Nat} (h : ys.length = k + 1) : hardF f l ys = fop .quo .f32 (fop .mul .f32 (el ys k) (fop .add .f32 (canon .f32 1065353216) (el l k))) (fop .sub .f32 (canon .f32 1065353216) (el l k)) := by
  unfold hardF
  rw [if_neg (by omega), h]; rfl
theorem allP_ext {p : Nat → Bool} {l m : List Nat} {n : Nat} (h : ∀ i, i < n → el l i = el m i) : allP p l n = allP p m n := by
  induction n with
  | zero => rfl
  | succ n ih => rw [allP_succ, allP_succ, ih (fun i hi => h i (by omega)), h n (by omega)]
theorem ownF_oneAt (w : World) (w0 : World) (h : Ext w0 w) (r g : Nat) (hg : g = w.heap.size) : OwnF (w.alloc (.cells #[.float .f32 r] 23)) w0.heap.size (.slice (some ⟨g, 0, none⟩) 1 1) [r] := by subst hg; exact ownF_one w w0 h r
theorem all_one (b f : Nat) (hb : Is .f32 b f) (v : Bool) (h : hardB f = v) : allP hardB (cl [b]) [b].length = v := by
  unfold allP
  simp only [List.length_singleton, List.range_one, List.all_cons, List.all_nil, Bool.and_true]
  have : el (cl [b]) 0 = f := hb
  rw [this, h]
set_option maxHeartbeats 4000000 in
theorem specHard_any (b0 f : Nat) (ao : Option Addr) (cap : Nat) (xs : List Nat) (w : World) (hb : Is .f32 b0 f) (hc : FR w ao xs) (hl : xs.length ≤ 1048576) :
    Calls Try.prog 33 #[.float .f32 b0, .slice ao xs.length cap] w (GivesO (hardO f (cl xs)) w) := by
  obtain ⟨i0, hi0, hz0, hs0, hb0⟩ := info_parts info32
  cases ht0 : hardB f with
  | false =>
    have hn : Hid (hardO f (cl xs) = none) := by unfold Hid hardO; rw [ht0]; rfl
    go_enter Try.func33, Try.ntmps33
    go_wp2_with (first | (go_at_call 97; refine (l03Hard_any _ _ _ hb ht0 _).mono ?_; rintro _ _ ⟨rfl, n1, rfl⟩) | (go_at_call 93; refine (within_any _ _ _ _ (by first | assumption | rfl) _).mono ?_; rintro _ _ ⟨rfl, rfl⟩) | (go_at_call 90; refine (l00In_any _ _ _ _ (by first | assumption | rfl) _).mono ?_; rintro _ _ ⟨rfl, rfl⟩) | (go_at_call 101; refine (isCount_any _ _ (by first | assumption | rfl) _).mono ?_; rintro _ _ ⟨rfl, rfl⟩) | (go_at_call 88; refine (isTrace_any _ _ _ _ (by first | assumption | rfl) _).mono ?_; rintro _ _ ⟨rfl, rfl⟩) | (go_at_call 85; refine (l03Is_any _ _ _ _ (by first | assumption | rfl) (by omega) _).mono ?_; rintro _ _ ⟨rfl, rfl⟩) | (go_at_call 94; refine (length32_any _ _ _ _).mono ?_; rintro _ _ ⟨rfl, rfl⟩) | (go_at_call 160; refine (isFinite64_any _ _ _ (by assumption) (by first | assumption | rfl) _).mono ?_; rintro _ _ ⟨rfl, n, rfl⟩) | (go_at_call 111; refine (isFinite_any _ _ _ (by first | assumption | exact is_ofInt _ _ | exact is_self) (by first | assumption | rfl) _).mono ?_; rintro _ _ ⟨rfl, n, rfl⟩) | (go_at_call 107; refine (l01Finite_any _ _ _ (by first | assumption | exact is_ofInt _ _ | exact is_self) (by first | assumption | rfl) _).mono ?_; rintro _ _ ⟨rfl, n, rfl⟩))
    go_ret2
    exact givesO_none hn.out (by repeat (first | assumption | exact Ext.refl _ | apply Ext.drewN | apply Ext.alloc | (refine Ext.setCell ?_ (by first | assumption | exact Nat.le_refl _) _)))
  | true =>
  cases ht1 : areB (cl xs) with
  | false =>
    have hn : Hid (hardO f (cl xs) = none) := by unfold Hid hardO; rw [ht0, ht1]; rfl
    go_enter Try.func33, Try.ntmps33
    go_wp2_with (first | (go_at_call 97; refine (l03Hard_any _ _ _ hb ht0 _).mono ?_; rintro _ _ ⟨rfl, n1, rfl⟩) | (go_at_call 98; refine (l03Are_any _ _ _ _ _ (hc.drewN _) hl ht1).mono ?_; rintro _ _ ⟨rfl, rfl⟩) | (go_at_call 93; refine (within_any _ _ _ _ (by first | assumption | rfl) _).mono ?_; rintro _ _ ⟨rfl, rfl⟩) | (go_at_call 90; refine (l00In_any _ _ _ _ (by first | assumption | rfl) _).mono ?_; rintro _ _ ⟨rfl, rfl⟩) | (go_at_call 101; refine (isCount_any _ _ (by first | assumption | rfl) _).mono ?_; rintro _ _ ⟨rfl, rfl⟩) | (go_at_call 88; refine (isTrace_any _ _ _ _ (by first | assumption | rfl) _).mono ?_; rintro _ _ ⟨rfl, rfl⟩) | (go_at_call 85; refine (l03Is_any _ _ _ _ (by first | assumption | rfl) (by omega) _).mono ?_; rintro _ _ ⟨rfl, rfl⟩) | (go_at_call 94; refine (length32_any _ _ _ _).mono ?_; rintro _ _ ⟨rfl, rfl⟩) | (go_at_call 160; refine (isFinite64_any _ _ _ (by assumption) (by first | assumption | rfl) _).mono ?_; rintro _ _ ⟨rfl, n, rfl⟩) | (go_at_call 111; refine (isFinite_any _ _ _ (by first | assumption | exact is_ofInt _ _ | exact is_self) (by first | assumption | rfl) _).mono ?_; rintro _ _ ⟨rfl, n, rfl⟩) | (go_at_call 107; refine (l01Finite_any _ _ _ (by first | assumption | exact is_ofInt _ _ | exact is_self) (by first | assumption | rfl) _).mono ?_; rintro _ _ ⟨rfl, n, rfl⟩))
    go_ret2
    exact givesO_none hn.out (by repeat (first | assumption | exact Ext.refl _ | apply Ext.drewN | apply Ext.alloc | (refine Ext.setCell ?_ (by first | assumption | exact Nat.le_refl _) _)))
  | true =>
    have h24 := areB_len ht1
    rw [cl_length] at h24
    have HB0 : Hid (cl [b0] = recP (hardF f (cl xs)) 1) := by unfold Hid; show [canon .f32 b0] = [hardF f (cl xs) []]; unfold hardF; rw [if_pos List.length_nil, hb.out']
    have HI0 : Hid (Is .f32 b0 (el (recP (hardF f (cl xs)) 1) 0)) := by unfold Hid; rw [el_recP _ (by omega)]; show Is .f32 b0 (hardF f (cl xs) []); unfold hardF; rw [if_pos List.length_nil]; exact hb
    have HA0 : Hid (allP hardB (recP (hardF f (cl xs)) 1) 1 = true) := by unfold Hid; rw [← HB0.out]; exact all_one b0 f hb _ ht0
    have HT0 := Lib.hid ht0
    have HT1 := Lib.hid ht1
    have hcx := hc
    obtain ⟨b, off, rfl, _⟩ := hc 0 (by omega)
    go_enter Try.func33, Try.ntmps33
    go_wp2_with (first | (go_at_call 97; refine (l03Hard_any _ _ _ hb ht0 _).mono ?_; rintro _ _ ⟨rfl, n1, rfl⟩) | (go_at_call 98; refine (l03Are_any _ _ _ _ _ (hcx.drewN _) hl ht1).mono ?_; rintro _ _ ⟨rfl, rfl⟩) | (go_at_call 93; refine (within_any _ _ _ _ (by first | assumption | rfl) _).mono ?_; rintro _ _ ⟨rfl, rfl⟩) | (go_at_call 90; refine (l00In_any _ _ _ _ (by first | assumption | rfl) _).mono ?_; rintro _ _ ⟨rfl, rfl⟩) | (go_at_call 101; refine (isCount_any _ _ (by first | assumption | rfl) _).mono ?_; rintro _ _ ⟨rfl, rfl⟩) | (go_at_call 88; refine (isTrace_any _ _ _ _ (by first | assumption | rfl) _).mono ?_; rintro _ _ ⟨rfl, rfl⟩) | (go_at_call 85; refine (l03Is_any _ _ _ _ (by first | assumption | rfl) (by omega) _).mono ?_; rintro _ _ ⟨rfl, rfl⟩) | (go_at_call 94; refine (length32_any _ _ _ _).mono ?_; rintro _ _ ⟨rfl, rfl⟩) | (go_at_call 160; refine (isFinite64_any _ _ _ (by assumption) (by first | assumption | rfl) _).mono ?_; rintro _ _ ⟨rfl, n, rfl⟩) | (go_at_call 111; refine (isFinite_any _ _ _ (by first | assumption | exact is_ofInt _ _ | exact is_self) (by first | assumption | rfl) _).mono ?_; rintro _ _ ⟨rfl, n, rfl⟩) | (go_at_call 107; refine (l01Finite_any _ _ _ (by first | assumption | exact is_ofInt _ _ | exact is_self) (by first | assumption | rfl) _).mono ?_; rintro _ _ ⟨rfl, n, rfl⟩))
    clear ht0 ht1 hcx
    go_loopw [6, 7, 22] (fun v q i wr => ∃ (k bb : Nat) (ys : List Nat), k ≤ xs.length ∧ i = .int .i64 k ∧ q = .float .f32 bb ∧ Hid (Is .f32 bb (el (recP (hardF f (cl xs)) (k + 1)) k)) ∧ Hid (allP hardB (recP (hardF f (cl xs)) (k + 1)) (k + 1) = true) ∧ OwnF wr w.heap.size v ys ∧ Hid (cl ys = recP (hardF f (cl xs)) (k + 1)) ∧ Ext w wr) (fun _ _ i _ => xs.length - (intOf i).toNat)
    case atStart => exact ⟨0, b0, [b0], Nat.zero_le _, rfl, rfl, HI0, HA0, ownF_one _ _ (by repeat (first | assumption | exact Ext.refl _ | apply Ext.drewN | apply Ext.alloc | (refine Ext.setCell ?_ (by first | assumption | exact Nat.le_refl _) _))) _, HB0, (by repeat (first | assumption | exact Ext.refl _ | apply Ext.drewN | apply Ext.alloc | (refine Ext.setCell ?_ (by first | assumption | exact Nat.le_refl _) _)))⟩
    case round =>
      clear HB0 HI0 HA0
      obtain ⟨k, bb, ys, hk, rfl, rfl, hbb, hall, hO, hcl, hE⟩ := hrel
      have hyl := rec_len hcl.out
      have h1 := Nat.le_of_eq hyl
      have HY := Lib.hid hyl
      clear hyl
      by_cases hlt : k < xs.length
      · have hcA := FR.cellW hc hlt
        have hA := is_el hlt
        have hB := hbb.out
        go_wp2
        refine wp_region_mix (fun _ => Ext w) (fun i => false) (fun _ _ => True) (by kernel_rfl) (by kernel_rfl) (by kernel_rfl) (fun _ _ _ h => h.drewN _) (fun _ => (by repeat (first | assumption | exact Ext.refl _ | apply Ext.drewN | apply Ext.alloc | (refine Ext.setCell ?_ (by first | assumption | exact Nat.le_refl _) _)))) (fun n0 => ?_)
        repeat (first
          | (refine lx_nil ?_; intro nq)
          | (refine lx_skip rfl ?_; go_simp)
          | (refine lx_move rfl rfl rfl rfl ?_; go_simp)
          | (refine lx_assign rfl rfl rfl rfl ?_; go_simp)
          | (refine lx_bin rfl rfl rfl rfl rfl rfl (by first | assumption | exact is_ofInt _ _ | exact is_self) (by first | assumption | exact is_ofInt _ _ | exact is_self) ?_; intro r hr; go_simp)
          | (refine lx_cmp rfl rfl rfl rfl rfl rfl (by first | assumption | exact is_ofInt _ _ | exact is_self) (by first | assumption | exact is_ofInt _ _ | exact is_self) (by first | assumption | rfl) ?_; go_simp)
          | (refine lx_widen rfl rfl rfl rfl (by first | exact rfl | kernel_rfl) (by kernel_rfl) (by first | assumption | exact is_ofInt _ _ | exact is_self) ?_; intro r hr; go_simp)
          | (refine lx_val rfl rfl (fun w' hw' => by go_simp; rfl) ?_; go_simp))
        have HR : Hid (Is .f32 r (hardF f (cl xs) (recP (hardF f (cl xs)) (k + 1)))) := by unfold Hid; rw [hardF_step f (cl xs) k (by rw [recP_len])]; exact hr
        clear hr hB
        cases hv : hardB (hardF f (cl xs) (recP (hardF f (cl xs)) (k + 1))) with
        | false =>
          have hn : Hid (hardO f (cl xs) = none) := by
            unfold Hid hardO
            rw [allP_not (k := k + 1) (by rw [cl_length]; omega) (by unfold hardL; rw [el_recP _ (by rw [cl_length]; omega)]; exact hv), Bool.and_false]; rfl
          go_wp2_with (first | (go_at_call 97; refine (l03Hard_any _ _ _ HR.out hv _).mono ?_; rintro _ _ ⟨rfl, n1, rfl⟩))
          go_ret2
          exact givesO_none hn.out (by repeat (first | assumption | exact Ext.refl _ | apply Ext.drewN | apply Ext.alloc | (refine Ext.setCell ?_ (by first | assumption | exact Nat.le_refl _) _)))
        | true =>
          have HALL : Hid (allP hardB (recP (hardF f (cl xs)) (k + 1 + 1)) (k + 1 + 1) = true) := by
            unfold Hid
            rw [allP_succ, el_recP _ (by omega), hv, Bool.and_true, ← hall.out]
            exact allP_ext fun i hi => by rw [el_recP _ (by omega), el_recP _ (by omega)]
          have HBB : Hid (Is .f32 r (el (recP (hardF f (cl xs)) (k + 1 + 1)) (k + 1))) := by unfold Hid; rw [el_recP _ (by omega)]; exact HR.out
          go_wp2_with (first | (go_at_call 97; refine (l03Hard_any _ _ _ HR.out hv _).mono ?_; rintro _ _ ⟨rfl, n1, rfl⟩) | (at_builtin; refine wl_append1 _ rfl Try.underlying22 hi0 hz0 hs0 hb0 rfl rfl rfl (by repeat (first | assumption | apply OwnF.drewN | apply OwnF.alloc)) (by repeat (first | assumption | exact Ext.refl _ | apply Ext.drewN | apply Ext.alloc | (refine Ext.setCell ?_ (by first | assumption | exact Nat.le_refl _) _))) (by omega) (by first | exact cell_new _ _ _ | exact cell_newD _ _ _ _) ?_; intro v2 w2 hO2 hE2))
          go_roundw
          case rel => exact ⟨k + 1, r, _, by omega, by go_num, rfl, HBB, HALL, (by repeat (first | assumption | apply OwnF.drewN | apply OwnF.alloc)), rec_step hcl.out (by rw [hcl.out]; exact HR.out), (by repeat (first | assumption | exact Ext.refl _ | apply Ext.drewN | apply Ext.alloc | (refine Ext.setCell ?_ (by first | assumption | exact Nat.le_refl _) _)))⟩
          case measure => simp [intOf]; omega
      · obtain rfl : xs.length = k := by omega
        have HL : Hid (cl ys = hardL f (cl xs)) := by unfold Hid hardL; rw [cl_length]; exact hcl.out
        have hs : Hid (hardO f (cl xs) = some (hardL f (cl xs))) := by unfold Hid hardO hardL; rw [HT0.out, HT1.out, cl_length, hall.out]; rfl
        go_wp2
        go_ret2
        exact givesO_some hs.out (by repeat (first | assumption | exact Ext.refl _ | apply Ext.drewN | apply Ext.alloc | (refine Ext.setCell ?_ (by first | assumption | exact Nat.le_refl _) _))) (by repeat (first | assumption | apply OwnF.drewN | apply OwnF.alloc)) HL.out
end Go.Proofs.Ytncolcjjmllfeaa
