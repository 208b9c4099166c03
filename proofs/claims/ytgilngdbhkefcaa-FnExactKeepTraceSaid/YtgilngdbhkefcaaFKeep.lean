/- KeepTrace: the reference's and the program's. -/
import Derived.Test.YtgilngdbhkefcaaIs
namespace Go.Proofs.Ytgilngdbhkefcaa
open Go.RowKit


/-- The products with the powers of q. -/
def keepP (q : Nat) (l : List Nat) : List Nat × Nat := l.foldl (fun p x => (p.1 ++ [fop .mul .f32 x p.2], fop .mul .f32 p.2 q)) ([], 1065353216)
def keepO (q : Nat) (l : List Nat) : Option (List Nat) := if isTr l then some (keepP q l).1 else none
theorem keep_snoc (q : Nat) (l : List Nat) (k : Nat) (h : k < l.length) : keepP q (l.take (k + 1)) = ((keepP q (l.take k)).1 ++ [fop .mul .f32 (el l k) (keepP q (l.take k)).2], fop .mul .f32 (keepP q (l.take k)).2 q) := by
  rw [take_snoc' l k h]; unfold keepP; rw [List.foldl_append]; rfl

theorem keep_any (ao : Option Addr) (cap : Nat) (xs : List Nat) (m q : Nat) (w : World) (hc : FR w ao xs) (hl : xs.length ≤ 1048576) (hq : Is .f32 m q) :
    Calls Try.prog 37 #[.slice ao xs.length cap, .float .f32 m] w (GivesO (keepO q (cl xs)) w) := by
  obtain ⟨i0, hi0, hz0, hs0, hb0⟩ := info_parts info32
  cases ht : inB (xs.length : Int) 1 128 with
  | false =>
    have hn : Hid (keepO q (cl xs) = none) := by unfold keepO Hid; rw [isTr_cl, ht]; rfl
    go_enter Try.func37, Try.ntmps37
    go_wp2_with (first | (go_at_call 48; refine (within_any _ _ _ _ (by first | assumption | rfl) _).mono ?_; rintro _ _ ⟨rfl, rfl⟩) | (go_at_call 47; refine (l00In_any _ _ _ _ (by first | assumption | rfl) _).mono ?_; rintro _ _ ⟨rfl, rfl⟩) | (go_at_call 45; refine (isCount_any _ _ (by first | assumption | rfl) _).mono ?_; rintro _ _ ⟨rfl, rfl⟩) | (go_at_call 59; refine (isFilter_any _ _ (by first | assumption | rfl) _).mono ?_; rintro _ _ ⟨rfl, rfl⟩) | (go_at_call 17; refine (isTrace_any _ _ _ _ (by first | assumption | rfl) _).mono ?_; rintro _ _ ⟨rfl, rfl⟩) | (go_at_call 44; refine (l03Is_any _ _ _ _ (by first | assumption | rfl) (by omega) _).mono ?_; rintro _ _ ⟨rfl, rfl⟩) | (go_at_call 46; refine (length32_any _ _ _ _).mono ?_; rintro _ _ ⟨rfl, rfl⟩) | (go_at_call 64; refine (isFinite64_any _ _ _ (by assumption) (by first | assumption | rfl) _).mono ?_; rintro _ _ ⟨rfl, n, rfl⟩) | (go_at_call 57; refine (isFinite_any _ _ _ (by first | assumption | exact is_ofInt _ _ | exact is_self) (by first | assumption | rfl) _).mono ?_; rintro _ _ ⟨rfl, n, rfl⟩) | (go_at_call 56; refine (l01Finite_any _ _ _ (by first | assumption | exact is_ofInt _ _ | exact is_self) (by first | assumption | rfl) _).mono ?_; rintro _ _ ⟨rfl, n, rfl⟩) | (refine wl_bin rfl rfl rfl rfl rfl (by first | assumption | exact is_ofInt _ _ | exact is_self) (by first | assumption | exact is_ofInt _ _ | exact is_self) ?_; intro r n hr) | (refine wl_cmp rfl rfl rfl rfl rfl (by first | assumption | exact is_ofInt _ _ | exact is_self) (by first | assumption | exact is_ofInt _ _ | exact is_self) (by first | assumption | rfl) ?_) | (refine wl_widen rfl rfl rfl (by first | exact rfl | kernel_rfl) (by kernel_rfl) (by first | assumption | exact is_ofInt _ _ | exact is_self) ?_; intro r n hr) | (refine wl_neg rfl rfl rfl (by first | assumption | exact is_ofInt _ _ | exact is_self) ?_; intro r hr))
    go_ret2
    exact givesO_none hn.out (Ext.refl _)
  | true =>
    have hs : Hid (keepO q (cl xs) = some (keepP q (cl xs)).1) := by unfold keepO Hid; rw [isTr_cl, ht]; rfl
    go_enter Try.func37, Try.ntmps37
    go_wp2_with (first | (go_at_call 48; refine (within_any _ _ _ _ (by first | assumption | rfl) _).mono ?_; rintro _ _ ⟨rfl, rfl⟩) | (go_at_call 47; refine (l00In_any _ _ _ _ (by first | assumption | rfl) _).mono ?_; rintro _ _ ⟨rfl, rfl⟩) | (go_at_call 45; refine (isCount_any _ _ (by first | assumption | rfl) _).mono ?_; rintro _ _ ⟨rfl, rfl⟩) | (go_at_call 59; refine (isFilter_any _ _ (by first | assumption | rfl) _).mono ?_; rintro _ _ ⟨rfl, rfl⟩) | (go_at_call 17; refine (isTrace_any _ _ _ _ (by first | assumption | rfl) _).mono ?_; rintro _ _ ⟨rfl, rfl⟩) | (go_at_call 44; refine (l03Is_any _ _ _ _ (by first | assumption | rfl) (by omega) _).mono ?_; rintro _ _ ⟨rfl, rfl⟩) | (go_at_call 46; refine (length32_any _ _ _ _).mono ?_; rintro _ _ ⟨rfl, rfl⟩) | (go_at_call 64; refine (isFinite64_any _ _ _ (by assumption) (by first | assumption | rfl) _).mono ?_; rintro _ _ ⟨rfl, n, rfl⟩) | (go_at_call 57; refine (isFinite_any _ _ _ (by first | assumption | exact is_ofInt _ _ | exact is_self) (by first | assumption | rfl) _).mono ?_; rintro _ _ ⟨rfl, n, rfl⟩) | (go_at_call 56; refine (l01Finite_any _ _ _ (by first | assumption | exact is_ofInt _ _ | exact is_self) (by first | assumption | rfl) _).mono ?_; rintro _ _ ⟨rfl, n, rfl⟩) | (refine wl_bin rfl rfl rfl rfl rfl (by first | assumption | exact is_ofInt _ _ | exact is_self) (by first | assumption | exact is_ofInt _ _ | exact is_self) ?_; intro r n hr) | (refine wl_cmp rfl rfl rfl rfl rfl (by first | assumption | exact is_ofInt _ _ | exact is_self) (by first | assumption | exact is_ofInt _ _ | exact is_self) (by first | assumption | rfl) ?_) | (refine wl_widen rfl rfl rfl (by first | exact rfl | kernel_rfl) (by kernel_rfl) (by first | assumption | exact is_ofInt _ _ | exact is_self) ?_; intro r n hr) | (refine wl_neg rfl rfl rfl (by first | assumption | exact is_ofInt _ _ | exact is_self) ?_; intro r hr))
    go_loopw [6, 7, 15] (fun v s i wr => ∃ (k b : Nat) (ys : List Nat), k ≤ xs.length ∧ i = .int .i64 k ∧ s = .float .f32 b ∧ Is .f32 b (keepP q ((cl xs).take k)).2 ∧ OwnF wr w.heap.size v ys ∧ ys.length ≤ k ∧ Hid (cl ys = (keepP q ((cl xs).take k)).1) ∧ Ext w wr) (fun _ _ i _ => xs.length - (intOf i).toNat)
    case atStart => exact ⟨0, 1065353216, [], Nat.zero_le _, rfl, rfl, canon_of_not (by decide +kernel), OwnF.nil _ _, Nat.le_refl _, rfl, Ext.refl _⟩
    case round =>
      obtain ⟨k, bb, ys, hk, rfl, rfl, hb, hO, hyl, hcl, hE⟩ := hrel
      by_cases hlt : k < xs.length
      · obtain ⟨b, off, rfl, hcell⟩ := hc.ext hE k hlt
        have hel := is_el hlt
        have hsn := Lib.hid (keep_snoc q (cl xs) k (by rw [cl_length]; exact hlt))
        go_wp2_with (first | (at_builtin; refine wl_append1 _ rfl Try.underlying22 hi0 hz0 hs0 hb0 rfl rfl rfl (by repeat (first | assumption | apply OwnF.drewN | apply OwnF.alloc)) (by repeat (first | assumption | exact Ext.refl _ | apply Ext.drewN | apply Ext.alloc)) (by omega) (by first | exact cell_new _ _ _ | exact cell_newD _ _ _ _) ?_; intro v2 w2 hO2 hE2); (have HR := Lib.hid hr; clear hr) | (refine wl_bin rfl rfl rfl rfl rfl (by first | assumption | exact is_ofInt _ _ | exact is_self) (by first | assumption | exact is_ofInt _ _ | exact is_self) ?_; intro r n hr) | (refine wl_cmp rfl rfl rfl rfl rfl (by first | assumption | exact is_ofInt _ _ | exact is_self) (by first | assumption | exact is_ofInt _ _ | exact is_self) (by first | assumption | rfl) ?_) | (refine wl_widen rfl rfl rfl (by first | exact rfl | kernel_rfl) (by kernel_rfl) (by first | assumption | exact is_ofInt _ _ | exact is_self) ?_; intro r n hr) | (refine wl_neg rfl rfl rfl (by first | assumption | exact is_ofInt _ _ | exact is_self) ?_; intro r hr))
        go_roundw
        case rel => exact ⟨k + 1, r, _, by omega, by go_num, rfl, by rw [hsn.out]; exact hr, hO2, by simp; omega, by unfold Hid; rw [cl_append, hcl.out, hsn.out]; simp only [cl, List.map_cons, List.map_nil, HR.out.out'], (by repeat (first | assumption | exact Ext.refl _ | apply Ext.drewN | apply Ext.alloc))⟩
        case measure => simp [intOf]; omega
      · go_wp2
        go_ret2
        have e : (cl xs).take k = cl xs := List.take_of_length_le (by rw [cl_length]; omega)
        exact givesO_some hs.out hE hO (by rw [hcl.out, e])
theorem specKeep_any (ao : Option Addr) (cap : Nat) (xs : List Nat) (m q : Nat) (w : World) (hc : FR w ao xs) (hl : xs.length ≤ 1048576) (hq : Is .f32 m q) :
    Calls Try.prog 36 #[.slice ao xs.length cap, .float .f32 m] w (GivesO (keepO q (cl xs)) w) := by
  obtain ⟨i0, hi0, hz0, hs0, hb0⟩ := info_parts info32
  cases ht : inB (xs.length : Int) 1 128 with
  | false =>
    have hn : Hid (keepO q (cl xs) = none) := by unfold keepO Hid; rw [isTr_cl, ht]; rfl
    go_enter Try.func36, Try.ntmps36
    go_wp2_with (first | (go_at_call 48; refine (within_any _ _ _ _ (by first | assumption | rfl) _).mono ?_; rintro _ _ ⟨rfl, rfl⟩) | (go_at_call 47; refine (l00In_any _ _ _ _ (by first | assumption | rfl) _).mono ?_; rintro _ _ ⟨rfl, rfl⟩) | (go_at_call 45; refine (isCount_any _ _ (by first | assumption | rfl) _).mono ?_; rintro _ _ ⟨rfl, rfl⟩) | (go_at_call 59; refine (isFilter_any _ _ (by first | assumption | rfl) _).mono ?_; rintro _ _ ⟨rfl, rfl⟩) | (go_at_call 17; refine (isTrace_any _ _ _ _ (by first | assumption | rfl) _).mono ?_; rintro _ _ ⟨rfl, rfl⟩) | (go_at_call 44; refine (l03Is_any _ _ _ _ (by first | assumption | rfl) (by omega) _).mono ?_; rintro _ _ ⟨rfl, rfl⟩) | (go_at_call 46; refine (length32_any _ _ _ _).mono ?_; rintro _ _ ⟨rfl, rfl⟩) | (go_at_call 64; refine (isFinite64_any _ _ _ (by assumption) (by first | assumption | rfl) _).mono ?_; rintro _ _ ⟨rfl, n, rfl⟩) | (go_at_call 57; refine (isFinite_any _ _ _ (by first | assumption | exact is_ofInt _ _ | exact is_self) (by first | assumption | rfl) _).mono ?_; rintro _ _ ⟨rfl, n, rfl⟩) | (go_at_call 56; refine (l01Finite_any _ _ _ (by first | assumption | exact is_ofInt _ _ | exact is_self) (by first | assumption | rfl) _).mono ?_; rintro _ _ ⟨rfl, n, rfl⟩) | (refine wl_bin rfl rfl rfl rfl rfl (by first | assumption | exact is_ofInt _ _ | exact is_self) (by first | assumption | exact is_ofInt _ _ | exact is_self) ?_; intro r n hr) | (refine wl_cmp rfl rfl rfl rfl rfl (by first | assumption | exact is_ofInt _ _ | exact is_self) (by first | assumption | exact is_ofInt _ _ | exact is_self) (by first | assumption | rfl) ?_) | (refine wl_widen rfl rfl rfl (by first | exact rfl | kernel_rfl) (by kernel_rfl) (by first | assumption | exact is_ofInt _ _ | exact is_self) ?_; intro r n hr) | (refine wl_neg rfl rfl rfl (by first | assumption | exact is_ofInt _ _ | exact is_self) ?_; intro r hr))
    go_ret2
    exact givesO_none hn.out (Ext.refl _)
  | true =>
    have hs : Hid (keepO q (cl xs) = some (keepP q (cl xs)).1) := by unfold keepO Hid; rw [isTr_cl, ht]; rfl
    go_enter Try.func36, Try.ntmps36
    go_wp2_with (first | (go_at_call 48; refine (within_any _ _ _ _ (by first | assumption | rfl) _).mono ?_; rintro _ _ ⟨rfl, rfl⟩) | (go_at_call 47; refine (l00In_any _ _ _ _ (by first | assumption | rfl) _).mono ?_; rintro _ _ ⟨rfl, rfl⟩) | (go_at_call 45; refine (isCount_any _ _ (by first | assumption | rfl) _).mono ?_; rintro _ _ ⟨rfl, rfl⟩) | (go_at_call 59; refine (isFilter_any _ _ (by first | assumption | rfl) _).mono ?_; rintro _ _ ⟨rfl, rfl⟩) | (go_at_call 17; refine (isTrace_any _ _ _ _ (by first | assumption | rfl) _).mono ?_; rintro _ _ ⟨rfl, rfl⟩) | (go_at_call 44; refine (l03Is_any _ _ _ _ (by first | assumption | rfl) (by omega) _).mono ?_; rintro _ _ ⟨rfl, rfl⟩) | (go_at_call 46; refine (length32_any _ _ _ _).mono ?_; rintro _ _ ⟨rfl, rfl⟩) | (go_at_call 64; refine (isFinite64_any _ _ _ (by assumption) (by first | assumption | rfl) _).mono ?_; rintro _ _ ⟨rfl, n, rfl⟩) | (go_at_call 57; refine (isFinite_any _ _ _ (by first | assumption | exact is_ofInt _ _ | exact is_self) (by first | assumption | rfl) _).mono ?_; rintro _ _ ⟨rfl, n, rfl⟩) | (go_at_call 56; refine (l01Finite_any _ _ _ (by first | assumption | exact is_ofInt _ _ | exact is_self) (by first | assumption | rfl) _).mono ?_; rintro _ _ ⟨rfl, n, rfl⟩) | (refine wl_bin rfl rfl rfl rfl rfl (by first | assumption | exact is_ofInt _ _ | exact is_self) (by first | assumption | exact is_ofInt _ _ | exact is_self) ?_; intro r n hr) | (refine wl_cmp rfl rfl rfl rfl rfl (by first | assumption | exact is_ofInt _ _ | exact is_self) (by first | assumption | exact is_ofInt _ _ | exact is_self) (by first | assumption | rfl) ?_) | (refine wl_widen rfl rfl rfl (by first | exact rfl | kernel_rfl) (by kernel_rfl) (by first | assumption | exact is_ofInt _ _ | exact is_self) ?_; intro r n hr) | (refine wl_neg rfl rfl rfl (by first | assumption | exact is_ofInt _ _ | exact is_self) ?_; intro r hr))
    go_loopw [6, 7, 15] (fun v s i wr => ∃ (k b : Nat) (ys : List Nat), k ≤ xs.length ∧ i = .int .i64 k ∧ s = .float .f32 b ∧ Is .f32 b (keepP q ((cl xs).take k)).2 ∧ OwnF wr w.heap.size v ys ∧ ys.length ≤ k ∧ Hid (cl ys = (keepP q ((cl xs).take k)).1) ∧ Ext w wr) (fun _ _ i _ => xs.length - (intOf i).toNat)
    case atStart => exact ⟨0, 1065353216, [], Nat.zero_le _, rfl, rfl, canon_of_not (by decide +kernel), ownF_empty _ _ (Ext.refl _), Nat.le_refl _, rfl, (Ext.refl _).alloc _⟩
    case round =>
      obtain ⟨k, bb, ys, hk, rfl, rfl, hb, hO, hyl, hcl, hE⟩ := hrel
      by_cases hlt : k < xs.length
      · obtain ⟨b, off, rfl, hcell⟩ := hc.ext hE k hlt
        have hel := is_el hlt
        have hsn := Lib.hid (keep_snoc q (cl xs) k (by rw [cl_length]; exact hlt))
        go_wp2_with (first | (at_builtin; refine wl_append1 _ rfl Try.underlying22 hi0 hz0 hs0 hb0 rfl rfl rfl (by repeat (first | assumption | apply OwnF.drewN | apply OwnF.alloc)) (by repeat (first | assumption | exact Ext.refl _ | apply Ext.drewN | apply Ext.alloc)) (by omega) (by first | exact cell_new _ _ _ | exact cell_newD _ _ _ _) ?_; intro v2 w2 hO2 hE2); (have HR := Lib.hid hr; clear hr) | (refine wl_bin rfl rfl rfl rfl rfl (by first | assumption | exact is_ofInt _ _ | exact is_self) (by first | assumption | exact is_ofInt _ _ | exact is_self) ?_; intro r n hr) | (refine wl_cmp rfl rfl rfl rfl rfl (by first | assumption | exact is_ofInt _ _ | exact is_self) (by first | assumption | exact is_ofInt _ _ | exact is_self) (by first | assumption | rfl) ?_) | (refine wl_widen rfl rfl rfl (by first | exact rfl | kernel_rfl) (by kernel_rfl) (by first | assumption | exact is_ofInt _ _ | exact is_self) ?_; intro r n hr) | (refine wl_neg rfl rfl rfl (by first | assumption | exact is_ofInt _ _ | exact is_self) ?_; intro r hr))
        go_roundw
        case rel => exact ⟨k + 1, r, _, by omega, by go_num, rfl, by rw [hsn.out]; exact hr, hO2, by simp; omega, by unfold Hid; rw [cl_append, hcl.out, hsn.out]; simp only [cl, List.map_cons, List.map_nil, HR.out.out'], (by repeat (first | assumption | exact Ext.refl _ | apply Ext.drewN | apply Ext.alloc))⟩
        case measure => simp [intOf]; omega
      · go_wp2
        go_ret2
        have e : (cl xs).take k = cl xs := List.take_of_length_le (by rw [cl_length]; omega)
        exact givesO_some hs.out hE hO (by rw [hcl.out, e])
theorem keep_len (q : Nat) (l : List Nat) : (keepP q l).1.length = l.length := by
  have h : ∀ k, k ≤ l.length → (keepP q (l.take k)).1.length = k := by
    intro k
    induction k with
    | zero => intro _; rfl
    | succ k ih => intro hk; rw [keep_snoc q l k (by omega)]; simp [ih (by omega)]
  have := h l.length (Nat.le_refl _)
  rwa [List.take_length] at this
theorem keepO_len (q : Nat) (l : List Nat) : ((keepO q l).getD []).length ≤ 1048576 := by
  unfold keepO
  cases h : isTr l with
  | false => simp
  | true => simp only [if_true, Option.getD_some, keep_len q]; have := isTr_le h; omega
end Go.Proofs.Ytgilngdbhkefcaa
