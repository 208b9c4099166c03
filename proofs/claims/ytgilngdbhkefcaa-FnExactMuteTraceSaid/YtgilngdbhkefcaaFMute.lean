/- MuteTrace: the reference's and the program's. -/
import Derived.Test.YtgilngdbhkefcaaClone
namespace Go.Proofs.Ytgilngdbhkefcaa
open Go.RowKit

/-- Zeros from number f on, n of them. -/
def zeroed (l : List Nat) (f n : Nat) : List Nat := l.take f ++ List.replicate n 0 ++ l.drop (f + n)
theorem zeroed_zero (l : List Nat) (f : Nat) : zeroed l f 0 = l := by simp [zeroed]
theorem zeroed_len (l : List Nat) (f n : Nat) (h : f + n ≤ l.length) : (zeroed l f n).length = l.length := by simp [zeroed]; omega
theorem zeroed_succ (l : List Nat) (f n : Nat) (h : f + n < l.length) : (zeroed l f n).set (f + n) 0 = zeroed l f (n + 1) := by
  unfold zeroed
  rw [set_mid _ _ _ _ (by simp; omega) (by simp; omega), List.drop_drop, List.replicate_succ']
  simp [Nat.add_assoc]
theorem zeroed_shift (l : List Nat) (f n : Nat) (h : f < l.length) (_ : f + (n + 1) ≤ l.length) : zeroed (l.set f 0) (f + 1) n = zeroed l f (n + 1) := by
  unfold zeroed
  have e : l.set f 0 = l.take f ++ 0 :: l.drop (f + 1) := by rw [List.set_eq_take_append_cons_drop]; simp [h]
  rw [e]
  have e1 : (l.take f ++ 0 :: l.drop (f + 1)).take (f + 1) = l.take f ++ [0] := by
    rw [List.take_append]; simp [show min f l.length = f by omega, List.take_take]
  have e2 : (l.take f ++ 0 :: l.drop (f + 1)).drop (f + 1 + n) = l.drop (f + (n + 1)) := by
    rw [List.drop_append]
    simp only [List.length_take, show min f l.length = f by omega]
    rw [List.drop_of_length_le (by simp; omega), List.nil_append, show f + 1 + n - f = n + 1 by omega, List.drop_succ_cons, List.drop_drop]
    congr 1; omega
  rw [e1, e2, List.replicate_succ]
  simp
theorem cl_zeroed (l : List Nat) (f n : Nat) : cl (zeroed l f n) = zeroed (cl l) f n := by
  unfold zeroed
  rw [cl_append, cl_append]
  have : cl (List.replicate n 0) = List.replicate n 0 := by unfold cl; rw [List.map_replicate]; congr 1
  rw [this]
  simp [cl, List.map_take, List.map_drop]
def muteO (l : List Nat) (f t : Int) : Option (List Nat) := if isTr l && inB t 0 l.length && inB f 0 t then some (zeroed l f.toNat (t - f).toNat) else none
theorem muteO_len (l : List Nat) (f t : Int) : ((muteO l f t).getD []).length ≤ 1048576 := by
  unfold muteO
  cases h : isTr l with
  | false => simp
  | true =>
    cases h2 : inB t 0 l.length with
    | false => simp
    | true =>
      cases h3 : inB f 0 t with
      | false => simp
      | true =>
        have := isTr_le h
        have h4 := inB_yes h2
        have h5 := inB_yes h3
        simp only [Bool.and_self, if_true, Option.getD_some]
        rw [zeroed_len _ _ _ (by omega)]
        omega
/-- The zeros laid in memory. -/
theorem own_zeros {base g n cap : Nat} : ∀ (m f : Nat) (w : World) (xs : List Nat), OwnF w base (.slice (some ⟨g, 0, none⟩) n cap) xs → f + m ≤ xs.length →
    OwnF (w.setCells g f (List.replicate m (.float .f32 0))) base (.slice (some ⟨g, 0, none⟩) n cap) (zeroed xs f m) ∧ w.grownBy (w.setCells g f (List.replicate m (.float .f32 0))) (some g) := by
  intro m
  induction m with
  | zero => intro f w xs h _; rw [zeroed_zero]; exact ⟨h, grownBy_refl _ _⟩
  | succ m ih =>
    intro f w xs h hf
    have h1 := h.stored f 0
    have h2 := ih (f + 1) _ (xs.set f 0) h1.1 (by simp; omega)
    rw [zeroed_shift _ _ _ (by omega) (by omega)] at h2
    exact ⟨h2.1, grownBy_trans h1.2 h2.2⟩
theorem clear_none (w : World) (x : Option Addr) (c : Nat) : (Builtin.clear_ #[22] 0 #[.slice x 0 c]).run Try.prog w = .ok (.tuple #[]) w := by
  cases x <;> simp [Builtin.clear_, run_underlying Try.underlying22]
theorem zero32 (w : World) : (zeroValue 26).run Try.prog w = .ok (.float .f32 0) w := by kernel_rfl
set_option maxHeartbeats 1000000 in
theorem mute_any (ao : Option Addr) (cap : Nat) (xs : List Nat) (f t : Int) (w : World) (hc : FR w ao xs) (hl : xs.length ≤ 1048576) (_ : -9223372036854775808 ≤ f) (_ : f ≤ 9223372036854775807) (_ : -9223372036854775808 ≤ t) (_ : t ≤ 9223372036854775807) :
    Calls Try.prog 41 #[.slice ao xs.length cap, .int .i64 f, .int .i64 t] w (GivesO (muteO (cl xs) f t) w) := by
  obtain ⟨i0, hi0, hz0, hs0, hb0⟩ := info_parts info32
  cases ht : inB (xs.length : Int) 1 128 with
  | false =>
    have hn : Hid (muteO (cl xs) f t = none) := by unfold muteO Hid; rw [isTr_cl, ht]; rfl
    go_enter Try.func41, Try.ntmps41
    go_wp2_with (first | (go_at_call 48; refine (within_any _ _ _ _ (by first | assumption | rfl) _).mono ?_; rintro _ _ ⟨rfl, rfl⟩) | (go_at_call 47; refine (l00In_any _ _ _ _ (by first | assumption | rfl) _).mono ?_; rintro _ _ ⟨rfl, rfl⟩) | (go_at_call 45; refine (isCount_any _ _ (by first | assumption | rfl) _).mono ?_; rintro _ _ ⟨rfl, rfl⟩) | (go_at_call 59; refine (isFilter_any _ _ (by first | assumption | rfl) _).mono ?_; rintro _ _ ⟨rfl, rfl⟩) | (go_at_call 17; refine (isTrace_any _ _ _ _ (by first | assumption | rfl) _).mono ?_; rintro _ _ ⟨rfl, rfl⟩) | (go_at_call 44; refine (l03Is_any _ _ _ _ (by first | assumption | rfl) (by omega) _).mono ?_; rintro _ _ ⟨rfl, rfl⟩) | (go_at_call 46; refine (length32_any _ _ _ _).mono ?_; rintro _ _ ⟨rfl, rfl⟩) | (go_at_call 64; refine (isFinite64_any _ _ _ (by assumption) (by first | assumption | rfl) _).mono ?_; rintro _ _ ⟨rfl, n, rfl⟩) | (go_at_call 57; refine (isFinite_any _ _ _ (by first | assumption | exact is_ofInt _ _ | exact is_self) (by first | assumption | rfl) _).mono ?_; rintro _ _ ⟨rfl, n, rfl⟩) | (go_at_call 56; refine (l01Finite_any _ _ _ (by first | assumption | exact is_ofInt _ _ | exact is_self) (by first | assumption | rfl) _).mono ?_; rintro _ _ ⟨rfl, n, rfl⟩) | (refine wl_bin rfl rfl rfl rfl rfl (by first | assumption | exact is_ofInt _ _ | exact is_self) (by first | assumption | exact is_ofInt _ _ | exact is_self) ?_; intro r n hr) | (refine wl_cmp rfl rfl rfl rfl rfl (by first | assumption | exact is_ofInt _ _ | exact is_self) (by first | assumption | exact is_ofInt _ _ | exact is_self) (by first | assumption | rfl) ?_) | (refine wl_widen rfl rfl rfl (by first | exact rfl | kernel_rfl) (by kernel_rfl) (by first | assumption | exact is_ofInt _ _ | exact is_self) ?_; intro r n hr) | (refine wl_neg rfl rfl rfl (by first | assumption | exact is_ofInt _ _ | exact is_self) ?_; intro r hr))
    go_ret2
    exact givesO_none hn.out (Ext.refl _)
  | true =>
  cases hu : inB t 0 (xs.length : Int) with
  | false =>
    have hn : Hid (muteO (cl xs) f t = none) := by unfold muteO Hid; rw [isTr_cl, ht, cl_length, hu]; rfl
    go_enter Try.func41, Try.ntmps41
    go_wp2_with (first | (go_at_call 48; refine (within_any _ _ _ _ (by first | assumption | rfl) _).mono ?_; rintro _ _ ⟨rfl, rfl⟩) | (go_at_call 47; refine (l00In_any _ _ _ _ (by first | assumption | rfl) _).mono ?_; rintro _ _ ⟨rfl, rfl⟩) | (go_at_call 45; refine (isCount_any _ _ (by first | assumption | rfl) _).mono ?_; rintro _ _ ⟨rfl, rfl⟩) | (go_at_call 59; refine (isFilter_any _ _ (by first | assumption | rfl) _).mono ?_; rintro _ _ ⟨rfl, rfl⟩) | (go_at_call 17; refine (isTrace_any _ _ _ _ (by first | assumption | rfl) _).mono ?_; rintro _ _ ⟨rfl, rfl⟩) | (go_at_call 44; refine (l03Is_any _ _ _ _ (by first | assumption | rfl) (by omega) _).mono ?_; rintro _ _ ⟨rfl, rfl⟩) | (go_at_call 46; refine (length32_any _ _ _ _).mono ?_; rintro _ _ ⟨rfl, rfl⟩) | (go_at_call 64; refine (isFinite64_any _ _ _ (by assumption) (by first | assumption | rfl) _).mono ?_; rintro _ _ ⟨rfl, n, rfl⟩) | (go_at_call 57; refine (isFinite_any _ _ _ (by first | assumption | exact is_ofInt _ _ | exact is_self) (by first | assumption | rfl) _).mono ?_; rintro _ _ ⟨rfl, n, rfl⟩) | (go_at_call 56; refine (l01Finite_any _ _ _ (by first | assumption | exact is_ofInt _ _ | exact is_self) (by first | assumption | rfl) _).mono ?_; rintro _ _ ⟨rfl, n, rfl⟩) | (refine wl_bin rfl rfl rfl rfl rfl (by first | assumption | exact is_ofInt _ _ | exact is_self) (by first | assumption | exact is_ofInt _ _ | exact is_self) ?_; intro r n hr) | (refine wl_cmp rfl rfl rfl rfl rfl (by first | assumption | exact is_ofInt _ _ | exact is_self) (by first | assumption | exact is_ofInt _ _ | exact is_self) (by first | assumption | rfl) ?_) | (refine wl_widen rfl rfl rfl (by first | exact rfl | kernel_rfl) (by kernel_rfl) (by first | assumption | exact is_ofInt _ _ | exact is_self) ?_; intro r n hr) | (refine wl_neg rfl rfl rfl (by first | assumption | exact is_ofInt _ _ | exact is_self) ?_; intro r hr))
    go_ret2
    exact givesO_none hn.out (Ext.refl _)
  | true =>
  cases hv : inB f 0 t with
  | false =>
    have hn : Hid (muteO (cl xs) f t = none) := by unfold muteO Hid; rw [isTr_cl, ht, cl_length, hu, hv]; rfl
    go_enter Try.func41, Try.ntmps41
    go_wp2_with (first | (go_at_call 48; refine (within_any _ _ _ _ (by first | assumption | rfl) _).mono ?_; rintro _ _ ⟨rfl, rfl⟩) | (go_at_call 47; refine (l00In_any _ _ _ _ (by first | assumption | rfl) _).mono ?_; rintro _ _ ⟨rfl, rfl⟩) | (go_at_call 45; refine (isCount_any _ _ (by first | assumption | rfl) _).mono ?_; rintro _ _ ⟨rfl, rfl⟩) | (go_at_call 59; refine (isFilter_any _ _ (by first | assumption | rfl) _).mono ?_; rintro _ _ ⟨rfl, rfl⟩) | (go_at_call 17; refine (isTrace_any _ _ _ _ (by first | assumption | rfl) _).mono ?_; rintro _ _ ⟨rfl, rfl⟩) | (go_at_call 44; refine (l03Is_any _ _ _ _ (by first | assumption | rfl) (by omega) _).mono ?_; rintro _ _ ⟨rfl, rfl⟩) | (go_at_call 46; refine (length32_any _ _ _ _).mono ?_; rintro _ _ ⟨rfl, rfl⟩) | (go_at_call 64; refine (isFinite64_any _ _ _ (by assumption) (by first | assumption | rfl) _).mono ?_; rintro _ _ ⟨rfl, n, rfl⟩) | (go_at_call 57; refine (isFinite_any _ _ _ (by first | assumption | exact is_ofInt _ _ | exact is_self) (by first | assumption | rfl) _).mono ?_; rintro _ _ ⟨rfl, n, rfl⟩) | (go_at_call 56; refine (l01Finite_any _ _ _ (by first | assumption | exact is_ofInt _ _ | exact is_self) (by first | assumption | rfl) _).mono ?_; rintro _ _ ⟨rfl, n, rfl⟩) | (refine wl_bin rfl rfl rfl rfl rfl (by first | assumption | exact is_ofInt _ _ | exact is_self) (by first | assumption | exact is_ofInt _ _ | exact is_self) ?_; intro r n hr) | (refine wl_cmp rfl rfl rfl rfl rfl (by first | assumption | exact is_ofInt _ _ | exact is_self) (by first | assumption | exact is_ofInt _ _ | exact is_self) (by first | assumption | rfl) ?_) | (refine wl_widen rfl rfl rfl (by first | exact rfl | kernel_rfl) (by kernel_rfl) (by first | assumption | exact is_ofInt _ _ | exact is_self) ?_; intro r n hr) | (refine wl_neg rfl rfl rfl (by first | assumption | exact is_ofInt _ _ | exact is_self) ?_; intro r hr))
    go_ret2
    exact givesO_none hn.out (Ext.refl _)
  | true =>
    have h1 := inB_yes hu
    have h2 := inB_yes hv
    obtain ⟨p, rfl⟩ := Int.eq_ofNat_of_zero_le h1.1
    obtain ⟨q, rfl⟩ := Int.eq_ofNat_of_zero_le h2.1
    have hs : Hid (muteO (cl xs) q p = some (zeroed (cl xs) q (p - q))) := by unfold muteO Hid; rw [isTr_cl, ht, cl_length, hu, hv]; simp
    have h3 := inB_yes ht
    by_cases hqp : q < p
    · go_enter Try.func41, Try.ntmps41
      go_wp2_with (first | (go_at_call 60; refine (clone_any _ _ _ _ hc hl).mono ?_; rintro _ w1 ⟨v, rfl, hE, hO⟩; obtain ⟨a1, c1, rfl, _⟩ := OwnF.fr hO; obtain ⟨g, rfl, _⟩ := OwnF.at hO (k := 0) (by omega); have hcap := OwnF.capLe hO; have hcq : ¬ c1 = q := (by omega); (have hclr := Lib.run_clear_slice (P := Try.prog) w1 22 26 0 (.float .f32 0) Try.underlying22 zero32 rfl rfl g q (p - q) (c1 - q) (by omega) (fun j hj => by rw [(OwnF.at' hO (k := q + j) (by omega)).1]; rfl) (fun j hj => (OwnF.at' hO (k := q + j) (by omega)).2))) | (go_at_call 48; refine (within_any _ _ _ _ (by first | assumption | rfl) _).mono ?_; rintro _ _ ⟨rfl, rfl⟩) | (go_at_call 47; refine (l00In_any _ _ _ _ (by first | assumption | rfl) _).mono ?_; rintro _ _ ⟨rfl, rfl⟩) | (go_at_call 45; refine (isCount_any _ _ (by first | assumption | rfl) _).mono ?_; rintro _ _ ⟨rfl, rfl⟩) | (go_at_call 59; refine (isFilter_any _ _ (by first | assumption | rfl) _).mono ?_; rintro _ _ ⟨rfl, rfl⟩) | (go_at_call 17; refine (isTrace_any _ _ _ _ (by first | assumption | rfl) _).mono ?_; rintro _ _ ⟨rfl, rfl⟩) | (go_at_call 44; refine (l03Is_any _ _ _ _ (by first | assumption | rfl) (by omega) _).mono ?_; rintro _ _ ⟨rfl, rfl⟩) | (go_at_call 46; refine (length32_any _ _ _ _).mono ?_; rintro _ _ ⟨rfl, rfl⟩) | (go_at_call 64; refine (isFinite64_any _ _ _ (by assumption) (by first | assumption | rfl) _).mono ?_; rintro _ _ ⟨rfl, n, rfl⟩) | (go_at_call 57; refine (isFinite_any _ _ _ (by first | assumption | exact is_ofInt _ _ | exact is_self) (by first | assumption | rfl) _).mono ?_; rintro _ _ ⟨rfl, n, rfl⟩) | (go_at_call 56; refine (l01Finite_any _ _ _ (by first | assumption | exact is_ofInt _ _ | exact is_self) (by first | assumption | rfl) _).mono ?_; rintro _ _ ⟨rfl, n, rfl⟩))
      go_ret2
      have hz := own_zeros (p - q) q w1 xs hO (by omega)
      exact givesO_some hs.out (hE.grown hz.2 (fun k hk => (hO.lt k hk).1)) hz.1 (cl_zeroed _ _ _)
    · obtain rfl : p = q := by omega
      have HZ : Hid (cl xs = zeroed (cl xs) p (p - p)) := by unfold Hid; rw [Nat.sub_self, zeroed_zero]
      go_enter Try.func41, Try.ntmps41
      go_wp2_with (first | (go_at_call 60; refine (clone_any _ _ _ _ hc hl).mono ?_; rintro _ w1 ⟨v, rfl, hE, hO⟩; obtain ⟨a1, c1, rfl, _⟩ := OwnF.fr hO; obtain ⟨g, rfl, _⟩ := OwnF.at hO (k := 0) (by omega); have hcap := OwnF.capLe hO; have hclr := fun x c => clear_none w1 x c) | (go_at_call 48; refine (within_any _ _ _ _ (by first | assumption | rfl) _).mono ?_; rintro _ _ ⟨rfl, rfl⟩) | (go_at_call 47; refine (l00In_any _ _ _ _ (by first | assumption | rfl) _).mono ?_; rintro _ _ ⟨rfl, rfl⟩) | (go_at_call 45; refine (isCount_any _ _ (by first | assumption | rfl) _).mono ?_; rintro _ _ ⟨rfl, rfl⟩) | (go_at_call 59; refine (isFilter_any _ _ (by first | assumption | rfl) _).mono ?_; rintro _ _ ⟨rfl, rfl⟩) | (go_at_call 17; refine (isTrace_any _ _ _ _ (by first | assumption | rfl) _).mono ?_; rintro _ _ ⟨rfl, rfl⟩) | (go_at_call 44; refine (l03Is_any _ _ _ _ (by first | assumption | rfl) (by omega) _).mono ?_; rintro _ _ ⟨rfl, rfl⟩) | (go_at_call 46; refine (length32_any _ _ _ _).mono ?_; rintro _ _ ⟨rfl, rfl⟩) | (go_at_call 64; refine (isFinite64_any _ _ _ (by assumption) (by first | assumption | rfl) _).mono ?_; rintro _ _ ⟨rfl, n, rfl⟩) | (go_at_call 57; refine (isFinite_any _ _ _ (by first | assumption | exact is_ofInt _ _ | exact is_self) (by first | assumption | rfl) _).mono ?_; rintro _ _ ⟨rfl, n, rfl⟩) | (go_at_call 56; refine (l01Finite_any _ _ _ (by first | assumption | exact is_ofInt _ _ | exact is_self) (by first | assumption | rfl) _).mono ?_; rintro _ _ ⟨rfl, n, rfl⟩))
      all_goals go_ret2
      all_goals first | exact givesO_some hs.out hE hO HZ.out | (obtain rfl : c1 = _ := (by assumption); exact givesO_some hs.out hE hO HZ.out)
set_option maxHeartbeats 1000000 in
theorem specMute_any (ao : Option Addr) (cap : Nat) (xs : List Nat) (f t : Int) (w : World) (hc : FR w ao xs) (hl : xs.length ≤ 1048576) (_ : -9223372036854775808 ≤ f) (_ : f ≤ 9223372036854775807) (_ : -9223372036854775808 ≤ t) (_ : t ≤ 9223372036854775807) :
    Calls Try.prog 40 #[.slice ao xs.length cap, .int .i64 f, .int .i64 t] w (GivesO (muteO (cl xs) f t) w) := by
  obtain ⟨i0, hi0, hz0, hs0, hb0⟩ := info_parts info32
  cases ht : inB (xs.length : Int) 1 128 with
  | false =>
    have hn : Hid (muteO (cl xs) f t = none) := by unfold muteO Hid; rw [isTr_cl, ht]; rfl
    go_enter Try.func40, Try.ntmps40
    go_wp2_with (first | (go_at_call 48; refine (within_any _ _ _ _ (by first | assumption | rfl) _).mono ?_; rintro _ _ ⟨rfl, rfl⟩) | (go_at_call 47; refine (l00In_any _ _ _ _ (by first | assumption | rfl) _).mono ?_; rintro _ _ ⟨rfl, rfl⟩) | (go_at_call 45; refine (isCount_any _ _ (by first | assumption | rfl) _).mono ?_; rintro _ _ ⟨rfl, rfl⟩) | (go_at_call 59; refine (isFilter_any _ _ (by first | assumption | rfl) _).mono ?_; rintro _ _ ⟨rfl, rfl⟩) | (go_at_call 17; refine (isTrace_any _ _ _ _ (by first | assumption | rfl) _).mono ?_; rintro _ _ ⟨rfl, rfl⟩) | (go_at_call 44; refine (l03Is_any _ _ _ _ (by first | assumption | rfl) (by omega) _).mono ?_; rintro _ _ ⟨rfl, rfl⟩) | (go_at_call 46; refine (length32_any _ _ _ _).mono ?_; rintro _ _ ⟨rfl, rfl⟩) | (go_at_call 64; refine (isFinite64_any _ _ _ (by assumption) (by first | assumption | rfl) _).mono ?_; rintro _ _ ⟨rfl, n, rfl⟩) | (go_at_call 57; refine (isFinite_any _ _ _ (by first | assumption | exact is_ofInt _ _ | exact is_self) (by first | assumption | rfl) _).mono ?_; rintro _ _ ⟨rfl, n, rfl⟩) | (go_at_call 56; refine (l01Finite_any _ _ _ (by first | assumption | exact is_ofInt _ _ | exact is_self) (by first | assumption | rfl) _).mono ?_; rintro _ _ ⟨rfl, n, rfl⟩) | (refine wl_bin rfl rfl rfl rfl rfl (by first | assumption | exact is_ofInt _ _ | exact is_self) (by first | assumption | exact is_ofInt _ _ | exact is_self) ?_; intro r n hr) | (refine wl_cmp rfl rfl rfl rfl rfl (by first | assumption | exact is_ofInt _ _ | exact is_self) (by first | assumption | exact is_ofInt _ _ | exact is_self) (by first | assumption | rfl) ?_) | (refine wl_widen rfl rfl rfl (by first | exact rfl | kernel_rfl) (by kernel_rfl) (by first | assumption | exact is_ofInt _ _ | exact is_self) ?_; intro r n hr) | (refine wl_neg rfl rfl rfl (by first | assumption | exact is_ofInt _ _ | exact is_self) ?_; intro r hr))
    go_ret2
    exact givesO_none hn.out (Ext.refl _)
  | true =>
  cases hu : inB t 0 (xs.length : Int) with
  | false =>
    have hn : Hid (muteO (cl xs) f t = none) := by unfold muteO Hid; rw [isTr_cl, ht, cl_length, hu]; rfl
    go_enter Try.func40, Try.ntmps40
    go_wp2_with (first | (go_at_call 48; refine (within_any _ _ _ _ (by first | assumption | rfl) _).mono ?_; rintro _ _ ⟨rfl, rfl⟩) | (go_at_call 47; refine (l00In_any _ _ _ _ (by first | assumption | rfl) _).mono ?_; rintro _ _ ⟨rfl, rfl⟩) | (go_at_call 45; refine (isCount_any _ _ (by first | assumption | rfl) _).mono ?_; rintro _ _ ⟨rfl, rfl⟩) | (go_at_call 59; refine (isFilter_any _ _ (by first | assumption | rfl) _).mono ?_; rintro _ _ ⟨rfl, rfl⟩) | (go_at_call 17; refine (isTrace_any _ _ _ _ (by first | assumption | rfl) _).mono ?_; rintro _ _ ⟨rfl, rfl⟩) | (go_at_call 44; refine (l03Is_any _ _ _ _ (by first | assumption | rfl) (by omega) _).mono ?_; rintro _ _ ⟨rfl, rfl⟩) | (go_at_call 46; refine (length32_any _ _ _ _).mono ?_; rintro _ _ ⟨rfl, rfl⟩) | (go_at_call 64; refine (isFinite64_any _ _ _ (by assumption) (by first | assumption | rfl) _).mono ?_; rintro _ _ ⟨rfl, n, rfl⟩) | (go_at_call 57; refine (isFinite_any _ _ _ (by first | assumption | exact is_ofInt _ _ | exact is_self) (by first | assumption | rfl) _).mono ?_; rintro _ _ ⟨rfl, n, rfl⟩) | (go_at_call 56; refine (l01Finite_any _ _ _ (by first | assumption | exact is_ofInt _ _ | exact is_self) (by first | assumption | rfl) _).mono ?_; rintro _ _ ⟨rfl, n, rfl⟩) | (refine wl_bin rfl rfl rfl rfl rfl (by first | assumption | exact is_ofInt _ _ | exact is_self) (by first | assumption | exact is_ofInt _ _ | exact is_self) ?_; intro r n hr) | (refine wl_cmp rfl rfl rfl rfl rfl (by first | assumption | exact is_ofInt _ _ | exact is_self) (by first | assumption | exact is_ofInt _ _ | exact is_self) (by first | assumption | rfl) ?_) | (refine wl_widen rfl rfl rfl (by first | exact rfl | kernel_rfl) (by kernel_rfl) (by first | assumption | exact is_ofInt _ _ | exact is_self) ?_; intro r n hr) | (refine wl_neg rfl rfl rfl (by first | assumption | exact is_ofInt _ _ | exact is_self) ?_; intro r hr))
    go_ret2
    exact givesO_none hn.out (Ext.refl _)
  | true =>
  cases hv : inB f 0 t with
  | false =>
    have hn : Hid (muteO (cl xs) f t = none) := by unfold muteO Hid; rw [isTr_cl, ht, cl_length, hu, hv]; rfl
    go_enter Try.func40, Try.ntmps40
    go_wp2_with (first | (go_at_call 48; refine (within_any _ _ _ _ (by first | assumption | rfl) _).mono ?_; rintro _ _ ⟨rfl, rfl⟩) | (go_at_call 47; refine (l00In_any _ _ _ _ (by first | assumption | rfl) _).mono ?_; rintro _ _ ⟨rfl, rfl⟩) | (go_at_call 45; refine (isCount_any _ _ (by first | assumption | rfl) _).mono ?_; rintro _ _ ⟨rfl, rfl⟩) | (go_at_call 59; refine (isFilter_any _ _ (by first | assumption | rfl) _).mono ?_; rintro _ _ ⟨rfl, rfl⟩) | (go_at_call 17; refine (isTrace_any _ _ _ _ (by first | assumption | rfl) _).mono ?_; rintro _ _ ⟨rfl, rfl⟩) | (go_at_call 44; refine (l03Is_any _ _ _ _ (by first | assumption | rfl) (by omega) _).mono ?_; rintro _ _ ⟨rfl, rfl⟩) | (go_at_call 46; refine (length32_any _ _ _ _).mono ?_; rintro _ _ ⟨rfl, rfl⟩) | (go_at_call 64; refine (isFinite64_any _ _ _ (by assumption) (by first | assumption | rfl) _).mono ?_; rintro _ _ ⟨rfl, n, rfl⟩) | (go_at_call 57; refine (isFinite_any _ _ _ (by first | assumption | exact is_ofInt _ _ | exact is_self) (by first | assumption | rfl) _).mono ?_; rintro _ _ ⟨rfl, n, rfl⟩) | (go_at_call 56; refine (l01Finite_any _ _ _ (by first | assumption | exact is_ofInt _ _ | exact is_self) (by first | assumption | rfl) _).mono ?_; rintro _ _ ⟨rfl, n, rfl⟩) | (refine wl_bin rfl rfl rfl rfl rfl (by first | assumption | exact is_ofInt _ _ | exact is_self) (by first | assumption | exact is_ofInt _ _ | exact is_self) ?_; intro r n hr) | (refine wl_cmp rfl rfl rfl rfl rfl (by first | assumption | exact is_ofInt _ _ | exact is_self) (by first | assumption | exact is_ofInt _ _ | exact is_self) (by first | assumption | rfl) ?_) | (refine wl_widen rfl rfl rfl (by first | exact rfl | kernel_rfl) (by kernel_rfl) (by first | assumption | exact is_ofInt _ _ | exact is_self) ?_; intro r n hr) | (refine wl_neg rfl rfl rfl (by first | assumption | exact is_ofInt _ _ | exact is_self) ?_; intro r hr))
    go_ret2
    exact givesO_none hn.out (Ext.refl _)
  | true =>
    have h1 := inB_yes hu
    have h2 := inB_yes hv
    obtain ⟨p, rfl⟩ := Int.eq_ofNat_of_zero_le h1.1
    obtain ⟨q, rfl⟩ := Int.eq_ofNat_of_zero_le h2.1
    have hs : Hid (muteO (cl xs) q p = some (zeroed (cl xs) q (p - q))) := by unfold muteO Hid; rw [isTr_cl, ht, cl_length, hu, hv]; simp
    have h3 := inB_yes ht
    go_enter Try.func40, Try.ntmps40
    go_wp2_with (first | (at_builtin; refine wl_appendS w rfl Try.underlying22 hi0 hz0 hs0 hb0 rfl rfl rfl (ownF_empty _ _ (Ext.refl _)) (by repeat (first | assumption | exact Ext.refl _ | apply Ext.drewN | apply Ext.alloc)) (hc.ext ((Ext.refl _).alloc _)) (by simp; omega) ?_; intro v2 w2 hO2 hE2; rw [List.nil_append] at hO2; obtain ⟨a1, c1, rfl, _⟩ := OwnF.fr hO2; obtain ⟨g, rfl, _⟩ := OwnF.at hO2 (k := 0) (by omega)) | (go_at_call 48; refine (within_any _ _ _ _ (by first | assumption | rfl) _).mono ?_; rintro _ _ ⟨rfl, rfl⟩) | (go_at_call 47; refine (l00In_any _ _ _ _ (by first | assumption | rfl) _).mono ?_; rintro _ _ ⟨rfl, rfl⟩) | (go_at_call 45; refine (isCount_any _ _ (by first | assumption | rfl) _).mono ?_; rintro _ _ ⟨rfl, rfl⟩) | (go_at_call 59; refine (isFilter_any _ _ (by first | assumption | rfl) _).mono ?_; rintro _ _ ⟨rfl, rfl⟩) | (go_at_call 17; refine (isTrace_any _ _ _ _ (by first | assumption | rfl) _).mono ?_; rintro _ _ ⟨rfl, rfl⟩) | (go_at_call 44; refine (l03Is_any _ _ _ _ (by first | assumption | rfl) (by omega) _).mono ?_; rintro _ _ ⟨rfl, rfl⟩) | (go_at_call 46; refine (length32_any _ _ _ _).mono ?_; rintro _ _ ⟨rfl, rfl⟩) | (go_at_call 64; refine (isFinite64_any _ _ _ (by assumption) (by first | assumption | rfl) _).mono ?_; rintro _ _ ⟨rfl, n, rfl⟩) | (go_at_call 57; refine (isFinite_any _ _ _ (by first | assumption | exact is_ofInt _ _ | exact is_self) (by first | assumption | rfl) _).mono ?_; rintro _ _ ⟨rfl, n, rfl⟩) | (go_at_call 56; refine (l01Finite_any _ _ _ (by first | assumption | exact is_ofInt _ _ | exact is_self) (by first | assumption | rfl) _).mono ?_; rintro _ _ ⟨rfl, n, rfl⟩))
    go_loopw [9] (fun i wr => ∃ k : Nat, k ≤ p - q ∧ i = .int .i64 ((q : Int) + (k : Int)) ∧ OwnF wr w.heap.size (.slice (some ⟨g, 0, none⟩) xs.length c1) (zeroed xs q k) ∧ Ext w wr) (fun i _ => p - (intOf i).toNat)
    case atStart => exact ⟨0, Nat.zero_le _, by simp, by rw [zeroed_zero]; exact hO2, hE2⟩
    case round =>
      obtain ⟨k, hk, rfl, hO, hE⟩ := hrel
      have hg := (OwnF.lt hO2 g rfl).1
      clear hO2 hE2
      by_cases hlt : k < p - q
      · have hlen := zeroed_len xs q k (by omega)
        obtain ⟨hcur, hfz⟩ := OwnF.at' hO (k := q + k) (by omega)
        have hst := hO.stored (q + k) 0
        rw [zeroed_succ _ _ _ (by omega)] at hst
        have hO3 := Lib.hid hst.1
        clear hst
        go_wp2
        go_roundw
        case rel => exact ⟨k + 1, by omega, by first | (go_num; done) | (congr 1; omega), hO3.out, hE.setCell hg _⟩
        case measure => simp [intOf]; omega
      · go_wp2
        go_ret2
        obtain rfl : k = p - q := by omega
        exact givesO_some hs.out hE hO (cl_zeroed _ _ _)
end Go.Proofs.Ytgilngdbhkefcaa
