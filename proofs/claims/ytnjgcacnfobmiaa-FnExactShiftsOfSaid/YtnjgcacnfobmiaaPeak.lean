/- The greatest of numbers, the greatest by its size: the program's and the reference's. -/
import Derived.Test.YtnjgcacnfobmiaaPost
import Derived.Test.YtnjgcacnfobmiaaAbs
namespace Go.Proofs.Ytnjgcacnfobmiaa
open Go.RowKit
set_option maxRecDepth 100000
set_option linter.unusedVariables false

def bestP (L : List Nat) : Nat → Int
  | 0 => -1
  | i + 1 => if (decide (bestP L i < 0) && fcmp .eql .f32 (el L i) (el L i)) || (decide (0 ≤ bestP L i) && fcmp .gtr .f32 (el L i) (el L (bestP L i).toNat)) then (i : Int) else bestP L i
theorem bestP_lt (L : List Nat) (k : Nat) : -1 ≤ bestP L k ∧ bestP L k < (k : Int) ∧ (bestP L k < 0 → bestP L k = -1) := by
  induction k with
  | zero => unfold bestP; omega
  | succ k ih =>
    unfold bestP
    split <;> omega
def sizeF (s : Nat) : Nat := if fcmp .lss .f32 s (canon .f32 0) then fneg .f32 s else s
def pkP (l : List Nat) : Nat → Int
  | 0 => -1
  | i + 1 => if fcmp .eql .f32 (el l i) (el l i) && (decide (pkP l i < 0) || fcmp .gtr .f32 (sizeF (el l i)) (sizeF (el l (pkP l i).toNat))) then (i : Int) else pkP l i
theorem pkP_lt (L : List Nat) (k : Nat) : -1 ≤ pkP L k ∧ pkP L k < (k : Int) ∧ (pkP L k < 0 → pkP L k = -1) := by
  induction k with
  | zero => unfold pkP; omega
  | succ k ih =>
    unfold pkP
    split <;> omega
theorem fs_bit (b : Nat) : fs .f32 b = b.testBit 31 := by
  rw [Nat.testBit_eq_decide_div_mod_eq]
  unfold fs
  show (b / 2147483648 % 2 == 1) = decide (b / 2147483648 % 2 = 1)
  rcases Nat.mod_two_eq_zero_or_one (b / 2147483648) with h | h <;> rw [h] <;> rfl
theorem fs_neg (b : Nat) : fs .f32 (Op.negFloat .f32 b) = !fs .f32 b := by
  have e : Op.negFloat .f32 b = b ^^^ 2 ^ 31 := rfl
  rw [fs_bit, fs_bit, e, Nat.testBit_xor, Nat.testBit_two_pow_self]
  cases b.testBit 31 <;> rfl
theorem mg_neg (b : Nat) : mg .f32 (Op.negFloat .f32 b) = mg .f32 b := by
  have e : Op.negFloat .f32 b = b ^^^ 2 ^ 31 := rfl
  rw [e]
  have := Nat.xor_mod_two_pow (a := b) (b := 2 ^ 31) (n := 31)
  show (b ^^^ 2 ^ 31) % 2147483648 = b % 2147483648
  simpa using this
theorem read_same {x y : Nat} (h1 : fs .f32 x = fs .f32 y) (h2 : mg .f32 x = mg .f32 y) : FloatKind.f32.format.read x = FloatKind.f32.format.read y := by
  rw [read_eq, read_eq, h1, h2]
/-- The two sizes of a number read alike, but for the sign of 0. -/
theorem size_read (x : Nat) : FloatKind.f32.format.read (sizeF x) = FloatKind.f32.format.read (fabs .f32 x) ∨ (isNan .f32 (sizeF x) = true ∧ isNan .f32 (fabs .f32 x) = true) ∨
    ∃ e, FloatKind.f32.format.read (sizeF x) = .number true 0 e ∧ FloatKind.f32.format.read (fabs .f32 x) = .number false 0 e := by
  cases hn : isNan .f32 x with
  | true =>
    refine .inr (.inl ⟨?_, ?_⟩)
    · unfold sizeF; rw [fcmp_nan (.inl hn), if_neg (by decide)]; exact hn
    · unfold fabs; rw [hn]; exact isNan_nanOf _
  | false =>
    have hm : mg .f32 x ≤ inf .f32 := by rw [isNan_mg] at hn; have := of_decide_eq_false hn; omega
    have hfa : fabs .f32 x = mg .f32 x := by unfold fabs; rw [hn]; rfl
    have hfs : fs .f32 (mg .f32 x) = false := fs_small hm
    have hmm : mg .f32 (mg .f32 x) = mg .f32 x := mg_mod _ _
    rw [hfa]
    cases hs : fs .f32 x with
    | false =>
      have hl : fcmp .lss .f32 x (canon .f32 0) = false := by
        rcases Nat.lt_or_eq_of_le hm with h | h
        · rw [fcmp_fin h (by decide +kernel)]
          have e0 : sv .f32 (canon .f32 0) = 0 := by decide +kernel
          rw [e0]; unfold sv; rw [hs, if_neg (by decide)]
          exact decide_eq_false (by omega)
        · unfold fcmp; rw [order_inf h (by decide +kernel), hs]; rfl
      left
      unfold sizeF; rw [hl, if_neg (by decide)]
      exact read_same (by rw [hs, hfs]) hmm.symm
    | true =>
      cases hl : fcmp .lss .f32 x (canon .f32 0) with
      | true =>
        left
        unfold sizeF; rw [hl, if_pos rfl]
        unfold fneg; rw [hn, if_neg (by decide)]
        exact read_same (by rw [fs_neg, hs, hfs]; rfl) (by rw [mg_neg, hmm])
      | false =>
        have h0 : mg .f32 x = 0 := by
          rcases Nat.lt_or_eq_of_le hm with h | h
          · rw [fcmp_fin h (by decide +kernel)] at hl
            have e0 : sv .f32 (canon .f32 0) = 0 := by decide +kernel
            have hl' := of_decide_eq_false hl
            rw [e0] at hl'; unfold sv at hl'; rw [hs, if_pos rfl] at hl'
            have hz : vl .f32 (mg .f32 x) = 0 := by omega
            have : mg .f32 x ≤ 0 := (vl_le (k := .f32)).1 (by rw [hz, vl_zero]; exact Nat.le_refl _)
            omega
          · unfold fcmp at hl; rw [order_inf h (by decide +kernel), hs] at hl; cases hl
        refine .inr (.inr ⟨FloatKind.f32.format.leastPlace, ?_, ?_⟩)
        · unfold sizeF; rw [hl, if_neg (by decide), read_eq, hs, h0, if_pos (by decide)]
        · rw [read_eq, hfs, hmm, h0, if_pos (by decide)]
theorem order_zero (e : Int) (d : Ieee.Datum) : (Ieee.Datum.number true 0 e).order d = (Ieee.Datum.number false 0 e).order d ∧ d.order (.number true 0 e) = d.order (.number false 0 e) := by
  cases d <;> simp [Ieee.Datum.order, Ieee.signed]
theorem size_order (x y : Nat) : FloatKind.f32.format.order (sizeF x) y = FloatKind.f32.format.order (fabs .f32 x) y ∧ FloatKind.f32.format.order y (sizeF x) = FloatKind.f32.format.order y (fabs .f32 x) := by
  rcases size_read x with h | ⟨h1, h2⟩ | ⟨e, h1, h2⟩
  · unfold Ieee.Format.order; rw [h]; exact ⟨rfl, rfl⟩
  · rw [order_nan (.inl h1), order_nan (.inl h2), order_nan (.inr h1), order_nan (.inr h2)]; exact ⟨rfl, rfl⟩
  · unfold Ieee.Format.order; rw [h1, h2]; exact order_zero e _
theorem size_gtr (x y : Nat) : fcmp .gtr .f32 (sizeF x) (sizeF y) = fcmp .gtr .f32 (fabs .f32 x) (fabs .f32 y) := by
  unfold fcmp
  rw [(size_order x (sizeF y)).1, (size_order y (fabs .f32 x)).2]
def absL (l : List Nat) : List Nat := tabP (fun k => fabs .f32 (el l k)) l.length
theorem isNan_fabs (x : Nat) : isNan .f32 (fabs .f32 x) = isNan .f32 x := by
  unfold fabs
  cases h : isNan .f32 x with
  | true => exact isNan_nanOf _
  | false =>
    rw [if_neg (by decide), isNan_mg, mg_mod]
    rw [isNan_mg] at h
    exact h
theorem pk_best (l : List Nat) (k : Nat) (hk : k ≤ l.length) : pkP l k = bestP (absL l) k := by
  induction k with
  | zero => rfl
  | succ k ih =>
    have e := ih (by omega)
    have h1 := bestP_lt (absL l) k
    have ek : el (absL l) k = fabs .f32 (el l k) := el_tabP _ _ _ (by omega)
    unfold pkP bestP
    rw [e, ek, fcmp_eql_self, fcmp_eql_self, isNan_fabs]
    by_cases ho : bestP (absL l) k < 0
    · rw [decide_eq_true ho, decide_eq_false (by omega : ¬ 0 ≤ bestP (absL l) k)]
      simp
    · have eo : el (absL l) (bestP (absL l) k).toNat = fabs .f32 (el l (bestP (absL l) k).toNat) := el_tabP _ _ _ (by omega)
      rw [decide_eq_false ho, decide_eq_true (by omega : 0 ≤ bestP (absL l) k), eo, size_gtr]
      cases hn : isNan .f32 (el l k) with
      | false => simp
      | true => rw [fcmp_nan (.inl (by rw [isNan_fabs]; exact hn))]; rfl
def peakO (l : List Nat) : Option (Int × Nat) := if isTr l && decide (0 ≤ bestP (absL l) l.length) then some (bestP (absL l) l.length, el l (bestP (absL l) l.length).toNat) else none

set_option maxHeartbeats 2000000 in
theorem best_any (ao : Option Addr) (cap : Nat) (xs : List Nat) (w : World) (hc : FR w ao xs) (hl : xs.length ≤ 1048576) : Calls Try.prog 86 #[.slice ao xs.length cap] w fun e w' => ∃ o : Int, e = .returned (.int .i64 o) ∧ Hid (o = bestP (cl xs) xs.length) ∧ w = w' := by
  go_enter Try.func86, Try.ntmps86
  go_wp2
  go_loop [3, 8] (fun o i => ∃ (k : Nat) (q : Int), k ≤ xs.length ∧ i = .int .i64 k ∧ o = .int .i64 q ∧ Hid (q = bestP (cl xs) k)) (fun _ i => xs.length - (intOf i).toNat)
  case atStart => exact ⟨0, -1, Nat.zero_le _, rfl, rfl, rfl⟩
  case round =>
    obtain ⟨k, o, hk, rfl, rfl, hq⟩ := hrel
    by_cases hlt : k < xs.length
    · obtain ⟨b, off, rfl, hcell⟩ := hc k hlt
      have hel := is_el hlt
      have HB : Hid (bestP (cl xs) (k + 1) = if (decide (o < 0) && fcmp .eql .f32 (el (cl xs) k) (el (cl xs) k)) || (decide (0 ≤ o) && fcmp .gtr .f32 (el (cl xs) k) (el (cl xs) o.toNat)) then (k : Int) else o) := by unfold Hid; rw [hq.out]; rfl
      have hb : -1 ≤ o ∧ o < (k : Int) ∧ (o < 0 → o = -1) := by rw [hq.out]; exact bestP_lt (cl xs) k
      clear hq
      by_cases ho : o < 0
      · obtain rfl : o = -1 := hb.2.2 ho
        cases h1 : fcmp .eql .f32 (el (cl xs) k) (el (cl xs) k) with
        | true =>
          have HN : Hid (bestP (cl xs) (k + 1) = (k : Int)) := by unfold Hid; rw [HB.out, h1]; rfl
          go_wp2_with (first | (refine wl_bin rfl rfl rfl rfl rfl (by first | assumption | exact is_ofInt _ _ | exact is_self) (by first | assumption | exact is_ofInt _ _ | exact is_self) ?_; intro r n hr) | (refine wl_cmp rfl rfl rfl rfl rfl (by first | assumption | exact is_ofInt _ _ | exact is_self) (by first | assumption | exact is_ofInt _ _ | exact is_self) (by first | assumption | rfl) ?_) | (refine wl_widen rfl rfl rfl (by first | exact rfl | kernel_rfl) (by kernel_rfl) (by first | assumption | exact is_ofInt _ _ | exact is_self) ?_; intro r n hr) | (refine wl_neg rfl rfl rfl (by first | assumption | exact is_ofInt _ _ | exact is_self) ?_; intro r hr))
          go_roundw
          case rel => exact ⟨k + 1, _, by omega, by go_num, rfl, HN.out.symm⟩
          case measure => simp [intOf]; omega
        | false =>
          have HN : Hid (bestP (cl xs) (k + 1) = -1) := by unfold Hid; rw [HB.out, h1]; rfl
          go_wp2_with (first | (refine wl_bin rfl rfl rfl rfl rfl (by first | assumption | exact is_ofInt _ _ | exact is_self) (by first | assumption | exact is_ofInt _ _ | exact is_self) ?_; intro r n hr) | (refine wl_cmp rfl rfl rfl rfl rfl (by first | assumption | exact is_ofInt _ _ | exact is_self) (by first | assumption | exact is_ofInt _ _ | exact is_self) (by first | assumption | rfl) ?_) | (refine wl_widen rfl rfl rfl (by first | exact rfl | kernel_rfl) (by kernel_rfl) (by first | assumption | exact is_ofInt _ _ | exact is_self) ?_; intro r n hr) | (refine wl_neg rfl rfl rfl (by first | assumption | exact is_ofInt _ _ | exact is_self) ?_; intro r hr))
          go_roundw
          case rel => exact ⟨k + 1, _, by omega, by go_num, rfl, HN.out.symm⟩
          case measure => simp [intOf]; omega
      · obtain ⟨m, rfl⟩ : ∃ m : Nat, o = (m : Int) := ⟨o.toNat, by omega⟩
        have hm : m < xs.length := by omega
        obtain ⟨b', off', e1, hcell2⟩ := hc m hm
        injection e1 with e1
        injection e1 with e1 e2
        subst e1 e2
        have helm := is_el hm
        have ho2 : (0 : Int) ≤ (m : Int) := by omega
        have HB2 : Hid (bestP (cl xs) (k + 1) = if fcmp .gtr .f32 (el (cl xs) k) (el (cl xs) m) then (k : Int) else (m : Int)) := by
          unfold Hid; rw [HB.out, decide_eq_false ho, decide_eq_true ho2, Bool.false_and, Bool.false_or, Bool.true_and]; rfl
        clear HB
        cases h1 : fcmp .gtr .f32 (el (cl xs) k) (el (cl xs) m) with
        | true =>
          have HN : Hid (bestP (cl xs) (k + 1) = (k : Int)) := by unfold Hid; rw [HB2.out, h1]; rfl
          go_wp2_with (first | (refine wl_bin rfl rfl rfl rfl rfl (by first | assumption | exact is_ofInt _ _ | exact is_self) (by first | assumption | exact is_ofInt _ _ | exact is_self) ?_; intro r n hr) | (refine wl_cmp rfl rfl rfl rfl rfl (by first | assumption | exact is_ofInt _ _ | exact is_self) (by first | assumption | exact is_ofInt _ _ | exact is_self) (by first | assumption | rfl) ?_) | (refine wl_widen rfl rfl rfl (by first | exact rfl | kernel_rfl) (by kernel_rfl) (by first | assumption | exact is_ofInt _ _ | exact is_self) ?_; intro r n hr) | (refine wl_neg rfl rfl rfl (by first | assumption | exact is_ofInt _ _ | exact is_self) ?_; intro r hr))
          go_roundw
          case rel => exact ⟨k + 1, _, by omega, by go_num, rfl, HN.out.symm⟩
          case measure => simp [intOf]; omega
        | false =>
          have HN : Hid (bestP (cl xs) (k + 1) = (m : Int)) := by unfold Hid; rw [HB2.out, h1]; rfl
          go_wp2_with (first | (refine wl_bin rfl rfl rfl rfl rfl (by first | assumption | exact is_ofInt _ _ | exact is_self) (by first | assumption | exact is_ofInt _ _ | exact is_self) ?_; intro r n hr) | (refine wl_cmp rfl rfl rfl rfl rfl (by first | assumption | exact is_ofInt _ _ | exact is_self) (by first | assumption | exact is_ofInt _ _ | exact is_self) (by first | assumption | rfl) ?_) | (refine wl_widen rfl rfl rfl (by first | exact rfl | kernel_rfl) (by kernel_rfl) (by first | assumption | exact is_ofInt _ _ | exact is_self) ?_; intro r n hr) | (refine wl_neg rfl rfl rfl (by first | assumption | exact is_ofInt _ _ | exact is_self) ?_; intro r hr))
          go_roundw
          case rel => exact ⟨k + 1, _, by omega, by go_num, rfl, HN.out.symm⟩
          case measure => simp [intOf]; omega
    · go_wp2
      go_ret
      obtain rfl : k = xs.length := by omega
      exact ⟨_, rfl, hq, rfl⟩
set_option maxHeartbeats 2000000 in
theorem sizes_any (ao : Option Addr) (cap : Nat) (xs : List Nat) (w : World) (hc : FR w ao xs) (hl : xs.length ≤ 1048576) : Calls Try.prog 87 #[.slice ao xs.length cap] w (GivesS (absL (cl xs)) w) := by
  obtain ⟨i0, hi0, hz0, hs0, hb0⟩ := info_parts info32
  go_enter Try.func87, Try.ntmps87
  go_wp2
  go_loopw [3, 8] (fun v i wr => ∃ (k : Nat) (ys : List Nat), k ≤ xs.length ∧ i = .int .i64 k ∧ OwnF wr w.heap.size v ys ∧ ys.length ≤ k ∧ Hid (cl ys = tabP (fun k => fabs .f32 (el (cl xs) k)) k) ∧ Ext w wr) (fun _ i _ => xs.length - (intOf i).toNat)
  case atStart => exact ⟨0, [], Nat.zero_le _, rfl, (by first | exact OwnF.nil _ _ | exact ownF_empty _ _ (by repeat (first | assumption | exact Ext.refl _ | apply Ext.drewN | apply Ext.alloc | (refine Ext.setCell ?_ (by first | assumption | exact Nat.le_refl _) _)))), Nat.le_refl _, rfl, (by repeat (first | assumption | exact Ext.refl _ | apply Ext.drewN | apply Ext.alloc | (refine Ext.setCell ?_ (by first | assumption | exact Nat.le_refl _) _)))⟩
  case round =>
    obtain ⟨k, ys, hk, rfl, hO, hyl, hcl, hE⟩ := hrel
    by_cases hlt : k < xs.length
    · obtain ⟨b, off, rfl, hcell⟩ := hc.ext hE k hlt
      have hel := is_el hlt
      go_wp2_with (first | (go_at_call 143; refine (absolute_any _ _ hel _).mono ?_; rintro _ _ ⟨q, n1, rfl, hq, rfl⟩; (have HR := Lib.hid hq); clear hq) | (at_builtin; refine wl_append1 _ rfl Try.underlying22 hi0 hz0 hs0 hb0 rfl rfl rfl (by repeat (first | assumption | apply OwnF.drewN | apply OwnF.alloc)) (by repeat (first | assumption | exact Ext.refl _ | apply Ext.drewN | apply Ext.alloc | (refine Ext.setCell ?_ (by first | assumption | exact Nat.le_refl _) _))) (by omega) (by first | exact cell_new _ _ _ | exact cell_newD _ _ _ _) ?_; intro v2 w2 hO2 hE2) | (refine wl_bin rfl rfl rfl rfl rfl (by first | assumption | exact is_ofInt _ _ | exact is_self) (by first | assumption | exact is_ofInt _ _ | exact is_self) ?_; intro r n hr) | (refine wl_cmp rfl rfl rfl rfl rfl (by first | assumption | exact is_ofInt _ _ | exact is_self) (by first | assumption | exact is_ofInt _ _ | exact is_self) (by first | assumption | rfl) ?_) | (refine wl_widen rfl rfl rfl (by first | exact rfl | kernel_rfl) (by kernel_rfl) (by first | assumption | exact is_ofInt _ _ | exact is_self) ?_; intro r n hr) | (refine wl_neg rfl rfl rfl (by first | assumption | exact is_ofInt _ _ | exact is_self) ?_; intro r hr))
      go_roundw
      case rel => exact ⟨k + 1, _, by omega, by go_num, (by repeat (first | assumption | apply OwnF.drewN | apply OwnF.alloc)), by simp; omega, app_step hcl.out (by exact HR.out), (by repeat (first | assumption | exact Ext.refl _ | apply Ext.drewN | apply Ext.alloc | (refine Ext.setCell ?_ (by first | assumption | exact Nat.le_refl _) _)))⟩
      case measure => simp [intOf]; omega
    · go_wp2
      go_ret
      obtain rfl : xs.length = k := by omega
      exact ⟨_, ys, rfl, (by repeat (first | assumption | exact Ext.refl _ | apply Ext.drewN | apply Ext.alloc | (refine Ext.setCell ?_ (by first | assumption | exact Nat.le_refl _) _))), (by repeat (first | assumption | apply OwnF.drewN | apply OwnF.alloc)), by unfold absL; rw [cl_length]; exact hcl.out⟩
set_option maxHeartbeats 2000000 in
theorem implPeak_any (ao : Option Addr) (cap : Nat) (xs : List Nat) (w : World) (hc : FR w ao xs) (hl : xs.length ≤ 1048576) : Calls Try.prog 29 #[.slice ao xs.length cap] w (GivesIFE (peakO (cl xs)) w) := by
  go_enter Try.func29, Try.ntmps29
  go_wp2_with fail
  go_at_call 87; refine (sizes_any _ _ _ _ hc hl).mono ?_; rintro _ w1 ⟨v, ys, rfl, hE1, hO1, hcl1⟩
  obtain ⟨a1, c1, rfl, hf1⟩ := OwnF.fr hO1
  have hyl : Hid (ys.length = xs.length) := by unfold Hid; rw [← cl_length ys, hcl1]; unfold absL; rw [tabP_len, cl_length]
  have hyl2 : ys.length ≤ 1048576 := by rw [hyl.out]; exact hl
  go_wp2_with fail
  go_at_call 86; refine (best_any _ _ _ _ hf1 hyl2).mono ?_; rintro _ _ ⟨o, rfl, ho, rfl⟩
  have hb : -1 ≤ o ∧ o < (xs.length : Int) ∧ (o < 0 → o = -1) := by rw [ho.out, hyl.out]; exact bestP_lt _ _
  have hP : Hid (peakO (cl xs) = if inB (xs.length : Int) 1 128 && decide (0 ≤ o) then some (o, el (cl xs) o.toNat) else none) := by
    unfold Hid peakO; rw [isTr_cl, cl_length, ho.out, hcl1, hyl.out]
  clear hcl1 hO1 hf1 ho hyl hyl2
  cases ht : inB (xs.length : Int) 1 128 with
  | false =>
    have hn : Hid (peakO (cl xs) = none) := by unfold Hid; rw [hP.out, ht]; rfl
    by_cases ho : o < 0 <;>
    (go_wp2_with (first | (go_at_call 77; refine (within_any _ _ _ _ (by first | assumption | rfl) _).mono ?_; rintro _ _ ⟨rfl, rfl⟩) | (go_at_call 90; refine (l00In_any _ _ _ _ (by first | assumption | rfl) _).mono ?_; rintro _ _ ⟨rfl, rfl⟩) | (go_at_call 96; refine (isCount_any _ _ (by first | assumption | rfl) _).mono ?_; rintro _ _ ⟨rfl, rfl⟩) | (go_at_call 88; refine (isTrace_any _ _ _ _ (by first | assumption | rfl) _).mono ?_; rintro _ _ ⟨rfl, rfl⟩) | (go_at_call 85; refine (l03Is_any _ _ _ _ (by first | assumption | rfl) (by omega) _).mono ?_; rintro _ _ ⟨rfl, rfl⟩) | (go_at_call 78; refine (length32_any _ _ _ _).mono ?_; rintro _ _ ⟨rfl, rfl⟩) | (go_at_call 148; refine (isFinite64_any _ _ _ (by assumption) (by first | assumption | rfl) _).mono ?_; rintro _ _ ⟨rfl, n, rfl⟩) | (go_at_call 99; refine (isFinite_any _ _ _ (by first | assumption | exact is_ofInt _ _ | exact is_self) (by first | assumption | rfl) _).mono ?_; rintro _ _ ⟨rfl, n, rfl⟩) | (go_at_call 97; refine (l01Finite_any _ _ _ (by first | assumption | exact is_ofInt _ _ | exact is_self) (by first | assumption | rfl) _).mono ?_; rintro _ _ ⟨rfl, n, rfl⟩) | (refine wl_bin rfl rfl rfl rfl rfl (by first | assumption | exact is_ofInt _ _ | exact is_self) (by first | assumption | exact is_ofInt _ _ | exact is_self) ?_; intro r n hr) | (refine wl_cmp rfl rfl rfl rfl rfl (by first | assumption | exact is_ofInt _ _ | exact is_self) (by first | assumption | exact is_ofInt _ _ | exact is_self) (by first | assumption | rfl) ?_) | (refine wl_widen rfl rfl rfl (by first | exact rfl | kernel_rfl) (by kernel_rfl) (by first | assumption | exact is_ofInt _ _ | exact is_self) ?_; intro r n hr) | (refine wl_neg rfl rfl rfl (by first | assumption | exact is_ofInt _ _ | exact is_self) ?_; intro r hr))
     go_ret3
     exact givesIFE_none hn.out hE1)
  | true =>
    by_cases ho : o < 0
    · have hn : Hid (peakO (cl xs) = none) := by unfold Hid; rw [hP.out, decide_eq_false (by omega : ¬ 0 ≤ o), Bool.and_false]; rfl
      go_wp2_with (first | (go_at_call 77; refine (within_any _ _ _ _ (by first | assumption | rfl) _).mono ?_; rintro _ _ ⟨rfl, rfl⟩) | (go_at_call 90; refine (l00In_any _ _ _ _ (by first | assumption | rfl) _).mono ?_; rintro _ _ ⟨rfl, rfl⟩) | (go_at_call 96; refine (isCount_any _ _ (by first | assumption | rfl) _).mono ?_; rintro _ _ ⟨rfl, rfl⟩) | (go_at_call 88; refine (isTrace_any _ _ _ _ (by first | assumption | rfl) _).mono ?_; rintro _ _ ⟨rfl, rfl⟩) | (go_at_call 85; refine (l03Is_any _ _ _ _ (by first | assumption | rfl) (by omega) _).mono ?_; rintro _ _ ⟨rfl, rfl⟩) | (go_at_call 78; refine (length32_any _ _ _ _).mono ?_; rintro _ _ ⟨rfl, rfl⟩) | (go_at_call 148; refine (isFinite64_any _ _ _ (by assumption) (by first | assumption | rfl) _).mono ?_; rintro _ _ ⟨rfl, n, rfl⟩) | (go_at_call 99; refine (isFinite_any _ _ _ (by first | assumption | exact is_ofInt _ _ | exact is_self) (by first | assumption | rfl) _).mono ?_; rintro _ _ ⟨rfl, n, rfl⟩) | (go_at_call 97; refine (l01Finite_any _ _ _ (by first | assumption | exact is_ofInt _ _ | exact is_self) (by first | assumption | rfl) _).mono ?_; rintro _ _ ⟨rfl, n, rfl⟩) | (refine wl_bin rfl rfl rfl rfl rfl (by first | assumption | exact is_ofInt _ _ | exact is_self) (by first | assumption | exact is_ofInt _ _ | exact is_self) ?_; intro r n hr) | (refine wl_cmp rfl rfl rfl rfl rfl (by first | assumption | exact is_ofInt _ _ | exact is_self) (by first | assumption | exact is_ofInt _ _ | exact is_self) (by first | assumption | rfl) ?_) | (refine wl_widen rfl rfl rfl (by first | exact rfl | kernel_rfl) (by kernel_rfl) (by first | assumption | exact is_ofInt _ _ | exact is_self) ?_; intro r n hr) | (refine wl_neg rfl rfl rfl (by first | assumption | exact is_ofInt _ _ | exact is_self) ?_; intro r hr))
      go_ret3
      exact givesIFE_none hn.out hE1
    · obtain ⟨m, rfl⟩ : ∃ m : Nat, o = (m : Int) := ⟨o.toNat, by omega⟩
      have hm : m < xs.length := by omega
      have hs : Hid (peakO (cl xs) = some ((m : Int), el (cl xs) m)) := by unfold Hid; rw [hP.out, ht, decide_eq_true (by omega : 0 ≤ (m : Int))]; rfl
      obtain ⟨b, off, rfl, hcell⟩ := hc.ext hE1 m hm
      have hel := is_el hm
      go_wp2_with (first | (go_at_call 77; refine (within_any _ _ _ _ (by first | assumption | rfl) _).mono ?_; rintro _ _ ⟨rfl, rfl⟩) | (go_at_call 90; refine (l00In_any _ _ _ _ (by first | assumption | rfl) _).mono ?_; rintro _ _ ⟨rfl, rfl⟩) | (go_at_call 96; refine (isCount_any _ _ (by first | assumption | rfl) _).mono ?_; rintro _ _ ⟨rfl, rfl⟩) | (go_at_call 88; refine (isTrace_any _ _ _ _ (by first | assumption | rfl) _).mono ?_; rintro _ _ ⟨rfl, rfl⟩) | (go_at_call 85; refine (l03Is_any _ _ _ _ (by first | assumption | rfl) (by omega) _).mono ?_; rintro _ _ ⟨rfl, rfl⟩) | (go_at_call 78; refine (length32_any _ _ _ _).mono ?_; rintro _ _ ⟨rfl, rfl⟩) | (go_at_call 148; refine (isFinite64_any _ _ _ (by assumption) (by first | assumption | rfl) _).mono ?_; rintro _ _ ⟨rfl, n, rfl⟩) | (go_at_call 99; refine (isFinite_any _ _ _ (by first | assumption | exact is_ofInt _ _ | exact is_self) (by first | assumption | rfl) _).mono ?_; rintro _ _ ⟨rfl, n, rfl⟩) | (go_at_call 97; refine (l01Finite_any _ _ _ (by first | assumption | exact is_ofInt _ _ | exact is_self) (by first | assumption | rfl) _).mono ?_; rintro _ _ ⟨rfl, n, rfl⟩) | (refine wl_bin rfl rfl rfl rfl rfl (by first | assumption | exact is_ofInt _ _ | exact is_self) (by first | assumption | exact is_ofInt _ _ | exact is_self) ?_; intro r n hr) | (refine wl_cmp rfl rfl rfl rfl rfl (by first | assumption | exact is_ofInt _ _ | exact is_self) (by first | assumption | exact is_ofInt _ _ | exact is_self) (by first | assumption | rfl) ?_) | (refine wl_widen rfl rfl rfl (by first | exact rfl | kernel_rfl) (by kernel_rfl) (by first | assumption | exact is_ofInt _ _ | exact is_self) ?_; intro r n hr) | (refine wl_neg rfl rfl rfl (by first | assumption | exact is_ofInt _ _ | exact is_self) ?_; intro r hr))
      refine wp_region_mix (fun _ => Drawn w1) (fun _ => false) (fun _ _ => True) (by kernel_rfl) (by kernel_rfl) (by kernel_rfl) (fun _ => drawn_more _) (fun _ => ⟨0, rfl⟩) (fun n0 => ?_)
      repeat (first
          | (refine lx_nil ?_; intro nq)
          | (refine lx_skip rfl ?_; go_simp)
          | (refine lx_move rfl rfl rfl rfl ?_; go_simp)
          | (refine lx_assign rfl rfl rfl rfl ?_; go_simp)
          | (refine lx_bin rfl rfl rfl rfl rfl rfl (by first | assumption | exact is_ofInt _ _ | exact is_self) (by first | assumption | exact is_ofInt _ _ | exact is_self) ?_; intro r hr; go_simp)
          | (refine lx_cmp rfl rfl rfl rfl rfl rfl (by first | assumption | exact is_ofInt _ _ | exact is_self) (by first | assumption | exact is_ofInt _ _ | exact is_self) (by first | assumption | rfl) ?_; go_simp)
          | (refine lx_widen rfl rfl rfl rfl (by first | exact rfl | kernel_rfl) (by kernel_rfl) (by first | assumption | exact is_ofInt _ _ | exact is_self) ?_; intro r hr; go_simp)
          | (refine lx_valD rfl rfl (fun nn => by go_simp; rfl) ?_; go_simp))
      go_wp2
      go_ret3
      exact givesIFE_some hs.out hel (by repeat (first | assumption | exact Ext.refl _ | apply Ext.drewN | apply Ext.alloc | (refine Ext.setCell ?_ (by first | assumption | exact Nat.le_refl _) _)))
end Go.Proofs.Ytnjgcacnfobmiaa
