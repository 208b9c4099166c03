/- IntegrateTrace, KeepTrace, EnergyOfTrace, ShareOfSignal: the reference's and the program's. -/
import Derived.Test.YtgilngdbhkefcaaIs
namespace Go.Proofs.Ytgilngdbhkefcaa
open Go.RowKit


/-- The sums. -/
def integP (l : List Nat) : List Nat × Nat := l.foldl (fun p x => (p.1 ++ [fop .add .f32 p.2 x], fop .add .f32 p.2 x)) ([], 0)
def integO (l : List Nat) : Option (List Nat) := if isTr l then some (integP l).1 else none
theorem integ_snoc (l : List Nat) (k : Nat) (h : k < l.length) : integP (l.take (k + 1)) = ((integP (l.take k)).1 ++ [fop .add .f32 (integP (l.take k)).2 (el l k)], fop .add .f32 (integP (l.take k)).2 (el l k)) := by
  rw [take_snoc' l k h]; unfold integP; rw [List.foldl_append]; rfl

theorem integrate_any (ao : Option Addr) (cap : Nat) (xs : List Nat) (w : World) (hc : FR w ao xs) (hl : xs.length ≤ 1048576) :
    Calls Try.prog 35 #[.slice ao xs.length cap] w (GivesO (integO (cl xs)) w) := by
  obtain ⟨i0, hi0, hz0, hs0, hb0⟩ := info_parts info32
  cases ht : inB (xs.length : Int) 1 128 with
  | false =>
    have hn : Hid (integO (cl xs) = none) := by unfold integO Hid; rw [isTr_cl, ht]; rfl
    go_enter Try.func35, Try.ntmps35
    go_wp2_with (first | (go_at_call 48; refine (within_any _ _ _ _ (by first | assumption | rfl) _).mono ?_; rintro _ _ ⟨rfl, rfl⟩) | (go_at_call 47; refine (l00In_any _ _ _ _ (by first | assumption | rfl) _).mono ?_; rintro _ _ ⟨rfl, rfl⟩) | (go_at_call 45; refine (isCount_any _ _ (by first | assumption | rfl) _).mono ?_; rintro _ _ ⟨rfl, rfl⟩) | (go_at_call 59; refine (isFilter_any _ _ (by first | assumption | rfl) _).mono ?_; rintro _ _ ⟨rfl, rfl⟩) | (go_at_call 17; refine (isTrace_any _ _ _ _ (by first | assumption | rfl) _).mono ?_; rintro _ _ ⟨rfl, rfl⟩) | (go_at_call 44; refine (l03Is_any _ _ _ _ (by first | assumption | rfl) (by omega) _).mono ?_; rintro _ _ ⟨rfl, rfl⟩) | (go_at_call 46; refine (length32_any _ _ _ _).mono ?_; rintro _ _ ⟨rfl, rfl⟩) | (go_at_call 64; refine (isFinite64_any _ _ _ (by assumption) (by first | assumption | rfl) _).mono ?_; rintro _ _ ⟨rfl, n, rfl⟩) | (go_at_call 57; refine (isFinite_any _ _ _ (by first | assumption | exact is_ofInt _ _ | exact is_self) (by first | assumption | rfl) _).mono ?_; rintro _ _ ⟨rfl, n, rfl⟩) | (go_at_call 56; refine (l01Finite_any _ _ _ (by first | assumption | exact is_ofInt _ _ | exact is_self) (by first | assumption | rfl) _).mono ?_; rintro _ _ ⟨rfl, n, rfl⟩) | (refine wl_bin rfl rfl rfl rfl rfl (by first | assumption | exact is_ofInt _ _ | exact is_self) (by first | assumption | exact is_ofInt _ _ | exact is_self) ?_; intro r n hr) | (refine wl_cmp rfl rfl rfl rfl rfl (by first | assumption | exact is_ofInt _ _ | exact is_self) (by first | assumption | exact is_ofInt _ _ | exact is_self) (by first | assumption | rfl) ?_) | (refine wl_widen rfl rfl rfl (by first | exact rfl | kernel_rfl) (by kernel_rfl) (by first | assumption | exact is_ofInt _ _ | exact is_self) ?_; intro r n hr) | (refine wl_neg rfl rfl rfl (by first | assumption | exact is_ofInt _ _ | exact is_self) ?_; intro r hr))
    go_ret2
    exact givesO_none hn.out (Ext.refl _)
  | true =>
    have hs : Hid (integO (cl xs) = some (integP (cl xs)).1) := by unfold integO Hid; rw [isTr_cl, ht]; rfl
    go_enter Try.func35, Try.ntmps35
    go_wp2_with (first | (go_at_call 48; refine (within_any _ _ _ _ (by first | assumption | rfl) _).mono ?_; rintro _ _ ⟨rfl, rfl⟩) | (go_at_call 47; refine (l00In_any _ _ _ _ (by first | assumption | rfl) _).mono ?_; rintro _ _ ⟨rfl, rfl⟩) | (go_at_call 45; refine (isCount_any _ _ (by first | assumption | rfl) _).mono ?_; rintro _ _ ⟨rfl, rfl⟩) | (go_at_call 59; refine (isFilter_any _ _ (by first | assumption | rfl) _).mono ?_; rintro _ _ ⟨rfl, rfl⟩) | (go_at_call 17; refine (isTrace_any _ _ _ _ (by first | assumption | rfl) _).mono ?_; rintro _ _ ⟨rfl, rfl⟩) | (go_at_call 44; refine (l03Is_any _ _ _ _ (by first | assumption | rfl) (by omega) _).mono ?_; rintro _ _ ⟨rfl, rfl⟩) | (go_at_call 46; refine (length32_any _ _ _ _).mono ?_; rintro _ _ ⟨rfl, rfl⟩) | (go_at_call 64; refine (isFinite64_any _ _ _ (by assumption) (by first | assumption | rfl) _).mono ?_; rintro _ _ ⟨rfl, n, rfl⟩) | (go_at_call 57; refine (isFinite_any _ _ _ (by first | assumption | exact is_ofInt _ _ | exact is_self) (by first | assumption | rfl) _).mono ?_; rintro _ _ ⟨rfl, n, rfl⟩) | (go_at_call 56; refine (l01Finite_any _ _ _ (by first | assumption | exact is_ofInt _ _ | exact is_self) (by first | assumption | rfl) _).mono ?_; rintro _ _ ⟨rfl, n, rfl⟩) | (refine wl_bin rfl rfl rfl rfl rfl (by first | assumption | exact is_ofInt _ _ | exact is_self) (by first | assumption | exact is_ofInt _ _ | exact is_self) ?_; intro r n hr) | (refine wl_cmp rfl rfl rfl rfl rfl (by first | assumption | exact is_ofInt _ _ | exact is_self) (by first | assumption | exact is_ofInt _ _ | exact is_self) (by first | assumption | rfl) ?_) | (refine wl_widen rfl rfl rfl (by first | exact rfl | kernel_rfl) (by kernel_rfl) (by first | assumption | exact is_ofInt _ _ | exact is_self) ?_; intro r n hr) | (refine wl_neg rfl rfl rfl (by first | assumption | exact is_ofInt _ _ | exact is_self) ?_; intro r hr))
    go_loopw [4, 5, 13] (fun v s i wr => ∃ (k b : Nat) (ys : List Nat), k ≤ xs.length ∧ i = .int .i64 k ∧ s = .float .f32 b ∧ Is .f32 b (integP ((cl xs).take k)).2 ∧ OwnF wr w.heap.size v ys ∧ ys.length ≤ k ∧ Hid (cl ys = (integP ((cl xs).take k)).1) ∧ Ext w wr) (fun _ _ i _ => xs.length - (intOf i).toNat)
    case atStart => exact ⟨0, 0, [], Nat.zero_le _, rfl, rfl, rfl, OwnF.nil _ _, Nat.le_refl _, rfl, Ext.refl _⟩
    case round =>
      obtain ⟨k, bb, ys, hk, rfl, rfl, hb, hO, hyl, hcl, hE⟩ := hrel
      by_cases hlt : k < xs.length
      · obtain ⟨b, off, rfl, hcell⟩ := hc.ext hE k hlt
        have hel := is_el hlt
        have hsn := Lib.hid (integ_snoc (cl xs) k (by rw [cl_length]; exact hlt))
        go_wp2_with (first | (at_builtin; refine wl_append1 _ rfl Try.underlying22 hi0 hz0 hs0 hb0 rfl rfl rfl (by repeat (first | assumption | apply OwnF.drewN | apply OwnF.alloc)) (by repeat (first | assumption | exact Ext.refl _ | apply Ext.drewN | apply Ext.alloc)) (by omega) (by first | exact cell_new _ _ _ | exact cell_newD _ _ _ _) ?_; intro v2 w2 hO2 hE2) | (refine wl_bin rfl rfl rfl rfl rfl (by first | assumption | exact is_ofInt _ _ | exact is_self) (by first | assumption | exact is_ofInt _ _ | exact is_self) ?_; intro r n hr) | (refine wl_cmp rfl rfl rfl rfl rfl (by first | assumption | exact is_ofInt _ _ | exact is_self) (by first | assumption | exact is_ofInt _ _ | exact is_self) (by first | assumption | rfl) ?_) | (refine wl_widen rfl rfl rfl (by first | exact rfl | kernel_rfl) (by kernel_rfl) (by first | assumption | exact is_ofInt _ _ | exact is_self) ?_; intro r n hr) | (refine wl_neg rfl rfl rfl (by first | assumption | exact is_ofInt _ _ | exact is_self) ?_; intro r hr))
        go_roundw
        case rel => exact ⟨k + 1, r, _, by omega, by go_num, rfl, by rw [hsn.out]; exact hr, hO2, by simp; omega, by unfold Hid; rw [cl_append, hcl.out, hsn.out]; simp only [cl, List.map_cons, List.map_nil, hr.out'], hE2⟩
        case measure => simp [intOf]; omega
      · go_wp2
        go_ret2
        have e : (cl xs).take k = cl xs := List.take_of_length_le (by rw [cl_length]; omega)
        exact givesO_some hs.out hE hO (by rw [hcl.out, e])
theorem specIntegrate_any (ao : Option Addr) (cap : Nat) (xs : List Nat) (w : World) (hc : FR w ao xs) (hl : xs.length ≤ 1048576) :
    Calls Try.prog 34 #[.slice ao xs.length cap] w (GivesO (integO (cl xs)) w) := by
  obtain ⟨i0, hi0, hz0, hs0, hb0⟩ := info_parts info32
  cases ht : inB (xs.length : Int) 1 128 with
  | false =>
    have hn : Hid (integO (cl xs) = none) := by unfold integO Hid; rw [isTr_cl, ht]; rfl
    go_enter Try.func34, Try.ntmps34
    go_wp2_with (first | (go_at_call 48; refine (within_any _ _ _ _ (by first | assumption | rfl) _).mono ?_; rintro _ _ ⟨rfl, rfl⟩) | (go_at_call 47; refine (l00In_any _ _ _ _ (by first | assumption | rfl) _).mono ?_; rintro _ _ ⟨rfl, rfl⟩) | (go_at_call 45; refine (isCount_any _ _ (by first | assumption | rfl) _).mono ?_; rintro _ _ ⟨rfl, rfl⟩) | (go_at_call 59; refine (isFilter_any _ _ (by first | assumption | rfl) _).mono ?_; rintro _ _ ⟨rfl, rfl⟩) | (go_at_call 17; refine (isTrace_any _ _ _ _ (by first | assumption | rfl) _).mono ?_; rintro _ _ ⟨rfl, rfl⟩) | (go_at_call 44; refine (l03Is_any _ _ _ _ (by first | assumption | rfl) (by omega) _).mono ?_; rintro _ _ ⟨rfl, rfl⟩) | (go_at_call 46; refine (length32_any _ _ _ _).mono ?_; rintro _ _ ⟨rfl, rfl⟩) | (go_at_call 64; refine (isFinite64_any _ _ _ (by assumption) (by first | assumption | rfl) _).mono ?_; rintro _ _ ⟨rfl, n, rfl⟩) | (go_at_call 57; refine (isFinite_any _ _ _ (by first | assumption | exact is_ofInt _ _ | exact is_self) (by first | assumption | rfl) _).mono ?_; rintro _ _ ⟨rfl, n, rfl⟩) | (go_at_call 56; refine (l01Finite_any _ _ _ (by first | assumption | exact is_ofInt _ _ | exact is_self) (by first | assumption | rfl) _).mono ?_; rintro _ _ ⟨rfl, n, rfl⟩) | (refine wl_bin rfl rfl rfl rfl rfl (by first | assumption | exact is_ofInt _ _ | exact is_self) (by first | assumption | exact is_ofInt _ _ | exact is_self) ?_; intro r n hr) | (refine wl_cmp rfl rfl rfl rfl rfl (by first | assumption | exact is_ofInt _ _ | exact is_self) (by first | assumption | exact is_ofInt _ _ | exact is_self) (by first | assumption | rfl) ?_) | (refine wl_widen rfl rfl rfl (by first | exact rfl | kernel_rfl) (by kernel_rfl) (by first | assumption | exact is_ofInt _ _ | exact is_self) ?_; intro r n hr) | (refine wl_neg rfl rfl rfl (by first | assumption | exact is_ofInt _ _ | exact is_self) ?_; intro r hr))
    go_ret2
    exact givesO_none hn.out (Ext.refl _)
  | true =>
    have hs : Hid (integO (cl xs) = some (integP (cl xs)).1) := by unfold integO Hid; rw [isTr_cl, ht]; rfl
    go_enter Try.func34, Try.ntmps34
    go_wp2_with (first | (go_at_call 48; refine (within_any _ _ _ _ (by first | assumption | rfl) _).mono ?_; rintro _ _ ⟨rfl, rfl⟩) | (go_at_call 47; refine (l00In_any _ _ _ _ (by first | assumption | rfl) _).mono ?_; rintro _ _ ⟨rfl, rfl⟩) | (go_at_call 45; refine (isCount_any _ _ (by first | assumption | rfl) _).mono ?_; rintro _ _ ⟨rfl, rfl⟩) | (go_at_call 59; refine (isFilter_any _ _ (by first | assumption | rfl) _).mono ?_; rintro _ _ ⟨rfl, rfl⟩) | (go_at_call 17; refine (isTrace_any _ _ _ _ (by first | assumption | rfl) _).mono ?_; rintro _ _ ⟨rfl, rfl⟩) | (go_at_call 44; refine (l03Is_any _ _ _ _ (by first | assumption | rfl) (by omega) _).mono ?_; rintro _ _ ⟨rfl, rfl⟩) | (go_at_call 46; refine (length32_any _ _ _ _).mono ?_; rintro _ _ ⟨rfl, rfl⟩) | (go_at_call 64; refine (isFinite64_any _ _ _ (by assumption) (by first | assumption | rfl) _).mono ?_; rintro _ _ ⟨rfl, n, rfl⟩) | (go_at_call 57; refine (isFinite_any _ _ _ (by first | assumption | exact is_ofInt _ _ | exact is_self) (by first | assumption | rfl) _).mono ?_; rintro _ _ ⟨rfl, n, rfl⟩) | (go_at_call 56; refine (l01Finite_any _ _ _ (by first | assumption | exact is_ofInt _ _ | exact is_self) (by first | assumption | rfl) _).mono ?_; rintro _ _ ⟨rfl, n, rfl⟩) | (refine wl_bin rfl rfl rfl rfl rfl (by first | assumption | exact is_ofInt _ _ | exact is_self) (by first | assumption | exact is_ofInt _ _ | exact is_self) ?_; intro r n hr) | (refine wl_cmp rfl rfl rfl rfl rfl (by first | assumption | exact is_ofInt _ _ | exact is_self) (by first | assumption | exact is_ofInt _ _ | exact is_self) (by first | assumption | rfl) ?_) | (refine wl_widen rfl rfl rfl (by first | exact rfl | kernel_rfl) (by kernel_rfl) (by first | assumption | exact is_ofInt _ _ | exact is_self) ?_; intro r n hr) | (refine wl_neg rfl rfl rfl (by first | assumption | exact is_ofInt _ _ | exact is_self) ?_; intro r hr))
    go_loopw [4, 5, 13] (fun v s i wr => ∃ (k b : Nat) (ys : List Nat), k ≤ xs.length ∧ i = .int .i64 k ∧ s = .float .f32 b ∧ Is .f32 b (integP ((cl xs).take k)).2 ∧ OwnF wr w.heap.size v ys ∧ ys.length ≤ k ∧ Hid (cl ys = (integP ((cl xs).take k)).1) ∧ Ext w wr) (fun _ _ i _ => xs.length - (intOf i).toNat)
    case atStart => exact ⟨0, 0, [], Nat.zero_le _, rfl, rfl, rfl, ownF_empty _ _ (Ext.refl _), Nat.le_refl _, rfl, (Ext.refl _).alloc _⟩
    case round =>
      obtain ⟨k, bb, ys, hk, rfl, rfl, hb, hO, hyl, hcl, hE⟩ := hrel
      by_cases hlt : k < xs.length
      · obtain ⟨b, off, rfl, hcell⟩ := hc.ext hE k hlt
        have hel := is_el hlt
        have hsn := Lib.hid (integ_snoc (cl xs) k (by rw [cl_length]; exact hlt))
        go_wp2_with (first | (at_builtin; refine wl_append1 _ rfl Try.underlying22 hi0 hz0 hs0 hb0 rfl rfl rfl (by repeat (first | assumption | apply OwnF.drewN | apply OwnF.alloc)) (by repeat (first | assumption | exact Ext.refl _ | apply Ext.drewN | apply Ext.alloc)) (by omega) (by first | exact cell_new _ _ _ | exact cell_newD _ _ _ _) ?_; intro v2 w2 hO2 hE2) | (refine wl_bin rfl rfl rfl rfl rfl (by first | assumption | exact is_ofInt _ _ | exact is_self) (by first | assumption | exact is_ofInt _ _ | exact is_self) ?_; intro r n hr) | (refine wl_cmp rfl rfl rfl rfl rfl (by first | assumption | exact is_ofInt _ _ | exact is_self) (by first | assumption | exact is_ofInt _ _ | exact is_self) (by first | assumption | rfl) ?_) | (refine wl_widen rfl rfl rfl (by first | exact rfl | kernel_rfl) (by kernel_rfl) (by first | assumption | exact is_ofInt _ _ | exact is_self) ?_; intro r n hr) | (refine wl_neg rfl rfl rfl (by first | assumption | exact is_ofInt _ _ | exact is_self) ?_; intro r hr))
        go_roundw
        case rel => exact ⟨k + 1, r, _, by omega, by go_num, rfl, by rw [hsn.out]; exact hr, hO2, by simp; omega, by unfold Hid; rw [cl_append, hcl.out, hsn.out]; simp only [cl, List.map_cons, List.map_nil, hr.out'], hE2⟩
        case measure => simp [intOf]; omega
      · go_wp2
        go_ret2
        have e : (cl xs).take k = cl xs := List.take_of_length_le (by rw [cl_length]; omega)
        exact givesO_some hs.out hE hO (by rw [hcl.out, e])
theorem integ_len (l : List Nat) : (integP l).1.length = l.length := by
  have h : ∀ k, k ≤ l.length → (integP (l.take k)).1.length = k := by
    intro k
    induction k with
    | zero => intro _; rfl
    | succ k ih => intro hk; rw [integ_snoc l k (by omega)]; simp [ih (by omega)]
  have := h l.length (Nat.le_refl _)
  rwa [List.take_length] at this
theorem integO_len (l : List Nat) : ((integO l).getD []).length ≤ 1048576 := by
  unfold integO
  cases h : isTr l with
  | false => simp
  | true => simp only [if_true, Option.getD_some, integ_len]; have := isTr_le h; omega
end Go.Proofs.Ytgilngdbhkefcaa
