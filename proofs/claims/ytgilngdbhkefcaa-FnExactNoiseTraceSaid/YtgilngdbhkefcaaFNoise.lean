/- NoiseTrace: the reference's and the program's. -/
import Derived.Test.YtgilngdbhkefcaaIs
namespace Go.Proofs.Ytgilngdbhkefcaa
open Go.RowKit

/-- The next seed. -/
def seedN (s : Int) : Int := (1103515245 * s + 12345) % 2147483648
theorem seedN_in (s : Int) : 0 ≤ seedN s ∧ seedN s ≤ 2147483647 := by unfold seedN; omega
/-- So many numbers of a seed, and the seed then. -/
def noiseP (q : Nat) (s : Int) : Nat → List Nat × Int
  | 0 => ([], s)
  | k + 1 => ((noiseP q s k).1 ++ [fop .mul .f32 q (fop .quo .f32 (floatOfInt .f32 (seedN (noiseP q s k).2 / 65536 - 16384)) (canon .f32 1182793728))], seedN (noiseP q s k).2)
theorem noiseP_in (q : Nat) (s : Int) (h : 0 ≤ s ∧ s ≤ 2147483647) (k : Nat) : 0 ≤ (noiseP q s k).2 ∧ (noiseP q s k).2 ≤ 2147483647 := by
  cases k with
  | zero => exact h
  | succ k => exact seedN_in _
theorem noiseP_len (q : Nat) (s : Int) (k : Nat) : (noiseP q s k).1.length = k := by
  induction k with
  | zero => rfl
  | succ k ih => simp [noiseP, ih]
def noiseO (s n : Int) (q : Nat) : Option (List Nat × Int) := if inB s 0 2147483647 && inB n 1 128 then some (noiseP q s n.toNat) else none
theorem noiseO_len (s n : Int) (q : Nat) : (((noiseO s n q).map (·.1)).getD []).length ≤ 1048576 := by
  unfold noiseO
  cases h : inB s 0 2147483647 with
  | false => simp
  | true =>
    cases h2 : inB n 1 128 with
    | false => simp
    | true => have := inB_yes h2; simp [noiseP_len]; omega

theorem noise_any (s n : Int) (b q : Nat) (w : World) (_ : -9223372036854775808 ≤ s) (_ : s ≤ 9223372036854775807) (_ : -9223372036854775808 ≤ n) (_ : n ≤ 9223372036854775807) (hb : Is .f32 b q) :
    Calls Try.prog 29 #[.int .i64 s, .int .i64 n, .float .f32 b] w (GivesLI (noiseO s n q) w) := by
  obtain ⟨i0, hi0, hz0, hs0, hb0⟩ := info_parts info32
  cases ht : inB s 0 2147483647 with
  | false =>
    have hn : Hid (noiseO s n q = none) := by unfold noiseO Hid; rw [ht]; rfl
    go_enter Try.func29, Try.ntmps29
    go_wp2_with (first | (go_at_call 48; refine (within_any _ _ _ _ (by first | assumption | rfl) _).mono ?_; rintro _ _ ⟨rfl, rfl⟩) | (go_at_call 47; refine (l00In_any _ _ _ _ (by first | assumption | rfl) _).mono ?_; rintro _ _ ⟨rfl, rfl⟩) | (go_at_call 45; refine (isCount_any _ _ (by first | assumption | rfl) _).mono ?_; rintro _ _ ⟨rfl, rfl⟩) | (go_at_call 59; refine (isFilter_any _ _ (by first | assumption | rfl) _).mono ?_; rintro _ _ ⟨rfl, rfl⟩) | (go_at_call 17; refine (isTrace_any _ _ _ _ (by first | assumption | rfl) _).mono ?_; rintro _ _ ⟨rfl, rfl⟩) | (go_at_call 44; refine (l03Is_any _ _ _ _ (by first | assumption | rfl) (by omega) _).mono ?_; rintro _ _ ⟨rfl, rfl⟩) | (go_at_call 46; refine (length32_any _ _ _ _).mono ?_; rintro _ _ ⟨rfl, rfl⟩) | (go_at_call 64; refine (isFinite64_any _ _ _ (by assumption) (by first | assumption | rfl) _).mono ?_; rintro _ _ ⟨rfl, n, rfl⟩) | (go_at_call 57; refine (isFinite_any _ _ _ (by first | assumption | exact is_ofInt _ _ | exact is_self) (by first | assumption | rfl) _).mono ?_; rintro _ _ ⟨rfl, n, rfl⟩) | (go_at_call 56; refine (l01Finite_any _ _ _ (by first | assumption | exact is_ofInt _ _ | exact is_self) (by first | assumption | rfl) _).mono ?_; rintro _ _ ⟨rfl, n, rfl⟩) | (refine wl_bin rfl rfl rfl rfl rfl (by first | assumption | exact is_ofInt _ _ | exact is_self) (by first | assumption | exact is_ofInt _ _ | exact is_self) ?_; intro r n hr) | (refine wl_cmp rfl rfl rfl rfl rfl (by first | assumption | exact is_ofInt _ _ | exact is_self) (by first | assumption | exact is_ofInt _ _ | exact is_self) (by first | assumption | rfl) ?_) | (refine wl_widen rfl rfl rfl (by first | exact rfl | kernel_rfl) (by kernel_rfl) (by first | assumption | exact is_ofInt _ _ | exact is_self) ?_; intro r n hr) | (refine wl_neg rfl rfl rfl (by first | assumption | exact is_ofInt _ _ | exact is_self) ?_; intro r hr))
    go_ret3
    exact givesLI_none hn.out (Ext.refl _)
  | true =>
  have h1 := inB_yes ht
  cases hu : inB n 1 128 with
  | false =>
    have hn : Hid (noiseO s n q = none) := by unfold noiseO Hid; rw [ht, hu]; rfl
    go_enter Try.func29, Try.ntmps29
    go_wp2_with (first | (go_at_call 48; refine (within_any _ _ _ _ (by first | assumption | rfl) _).mono ?_; rintro _ _ ⟨rfl, rfl⟩) | (go_at_call 47; refine (l00In_any _ _ _ _ (by first | assumption | rfl) _).mono ?_; rintro _ _ ⟨rfl, rfl⟩) | (go_at_call 45; refine (isCount_any _ _ (by first | assumption | rfl) _).mono ?_; rintro _ _ ⟨rfl, rfl⟩) | (go_at_call 59; refine (isFilter_any _ _ (by first | assumption | rfl) _).mono ?_; rintro _ _ ⟨rfl, rfl⟩) | (go_at_call 17; refine (isTrace_any _ _ _ _ (by first | assumption | rfl) _).mono ?_; rintro _ _ ⟨rfl, rfl⟩) | (go_at_call 44; refine (l03Is_any _ _ _ _ (by first | assumption | rfl) (by omega) _).mono ?_; rintro _ _ ⟨rfl, rfl⟩) | (go_at_call 46; refine (length32_any _ _ _ _).mono ?_; rintro _ _ ⟨rfl, rfl⟩) | (go_at_call 64; refine (isFinite64_any _ _ _ (by assumption) (by first | assumption | rfl) _).mono ?_; rintro _ _ ⟨rfl, n, rfl⟩) | (go_at_call 57; refine (isFinite_any _ _ _ (by first | assumption | exact is_ofInt _ _ | exact is_self) (by first | assumption | rfl) _).mono ?_; rintro _ _ ⟨rfl, n, rfl⟩) | (go_at_call 56; refine (l01Finite_any _ _ _ (by first | assumption | exact is_ofInt _ _ | exact is_self) (by first | assumption | rfl) _).mono ?_; rintro _ _ ⟨rfl, n, rfl⟩) | (refine wl_bin rfl rfl rfl rfl rfl (by first | assumption | exact is_ofInt _ _ | exact is_self) (by first | assumption | exact is_ofInt _ _ | exact is_self) ?_; intro r n hr) | (refine wl_cmp rfl rfl rfl rfl rfl (by first | assumption | exact is_ofInt _ _ | exact is_self) (by first | assumption | exact is_ofInt _ _ | exact is_self) (by first | assumption | rfl) ?_) | (refine wl_widen rfl rfl rfl (by first | exact rfl | kernel_rfl) (by kernel_rfl) (by first | assumption | exact is_ofInt _ _ | exact is_self) ?_; intro r n hr) | (refine wl_neg rfl rfl rfl (by first | assumption | exact is_ofInt _ _ | exact is_self) ?_; intro r hr))
    go_ret3
    exact givesLI_none hn.out (Ext.refl _)
  | true =>
    have h2 := inB_yes hu
    obtain ⟨m, rfl⟩ := Int.eq_ofNat_of_zero_le (show 0 ≤ n by omega)
    have hs : Hid (noiseO s m q = some (noiseP q s m)) := by unfold noiseO Hid; rw [ht, hu]; rfl
    go_enter Try.func29, Try.ntmps29
    go_wp2_with (first | (go_at_call 48; refine (within_any _ _ _ _ (by first | assumption | rfl) _).mono ?_; rintro _ _ ⟨rfl, rfl⟩) | (go_at_call 47; refine (l00In_any _ _ _ _ (by first | assumption | rfl) _).mono ?_; rintro _ _ ⟨rfl, rfl⟩) | (go_at_call 45; refine (isCount_any _ _ (by first | assumption | rfl) _).mono ?_; rintro _ _ ⟨rfl, rfl⟩) | (go_at_call 59; refine (isFilter_any _ _ (by first | assumption | rfl) _).mono ?_; rintro _ _ ⟨rfl, rfl⟩) | (go_at_call 17; refine (isTrace_any _ _ _ _ (by first | assumption | rfl) _).mono ?_; rintro _ _ ⟨rfl, rfl⟩) | (go_at_call 44; refine (l03Is_any _ _ _ _ (by first | assumption | rfl) (by omega) _).mono ?_; rintro _ _ ⟨rfl, rfl⟩) | (go_at_call 46; refine (length32_any _ _ _ _).mono ?_; rintro _ _ ⟨rfl, rfl⟩) | (go_at_call 64; refine (isFinite64_any _ _ _ (by assumption) (by first | assumption | rfl) _).mono ?_; rintro _ _ ⟨rfl, n, rfl⟩) | (go_at_call 57; refine (isFinite_any _ _ _ (by first | assumption | exact is_ofInt _ _ | exact is_self) (by first | assumption | rfl) _).mono ?_; rintro _ _ ⟨rfl, n, rfl⟩) | (go_at_call 56; refine (l01Finite_any _ _ _ (by first | assumption | exact is_ofInt _ _ | exact is_self) (by first | assumption | rfl) _).mono ?_; rintro _ _ ⟨rfl, n, rfl⟩) | (refine wl_bin rfl rfl rfl rfl rfl (by first | assumption | exact is_ofInt _ _ | exact is_self) (by first | assumption | exact is_ofInt _ _ | exact is_self) ?_; intro r n hr) | (refine wl_cmp rfl rfl rfl rfl rfl (by first | assumption | exact is_ofInt _ _ | exact is_self) (by first | assumption | exact is_ofInt _ _ | exact is_self) (by first | assumption | rfl) ?_) | (refine wl_widen rfl rfl rfl (by first | exact rfl | kernel_rfl) (by kernel_rfl) (by first | assumption | exact is_ofInt _ _ | exact is_self) ?_; intro r n hr) | (refine wl_neg rfl rfl rfl (by first | assumption | exact is_ofInt _ _ | exact is_self) ?_; intro r hr))
    go_loopw [0, 9, 19] (fun t v i wr => ∃ (k : Nat) (sd : Int) (ys : List Nat), k ≤ m ∧ i = .int .i64 k ∧ t = .int .i64 sd ∧ 0 ≤ sd ∧ sd ≤ 2147483647 ∧ Hid (sd = (noiseP q s k).2) ∧ OwnF wr w.heap.size v ys ∧ ys.length ≤ k ∧ Hid (cl ys = (noiseP q s k).1) ∧ Ext w wr) (fun _ _ i _ => m - (intOf i).toNat)
    case atStart => exact ⟨0, s, [], Nat.zero_le _, rfl, rfl, h1.1, h1.2, rfl, OwnF.nil _ _, Nat.le_refl _, rfl, Ext.refl _⟩
    case round =>
      obtain ⟨k, sd, ys, hk, rfl, rfl, hs2, hs3, hsd, hO, hyl, hcl, hE⟩ := hrel
      by_cases hlt : k < m
      · go_wp2_with (first | (at_builtin; refine wl_append1 _ rfl Try.underlying22 hi0 hz0 hs0 hb0 rfl rfl rfl (by repeat (first | assumption | apply OwnF.drewN | apply OwnF.alloc)) (by repeat (first | assumption | exact Ext.refl _ | apply Ext.drewN | apply Ext.alloc)) (by omega) (by first | exact cell_new _ _ _ | exact cell_newD _ _ _ _) ?_; intro v2 w2 hO2 hE2); (have HR := Lib.hid hr; clear hr) | (refine wl_bin rfl rfl rfl rfl rfl (by first | assumption | exact is_ofInt _ _ | exact is_self) (by first | assumption | exact is_ofInt _ _ | exact is_self) ?_; intro r n hr) | (refine wl_cmp rfl rfl rfl rfl rfl (by first | assumption | exact is_ofInt _ _ | exact is_self) (by first | assumption | exact is_ofInt _ _ | exact is_self) (by first | assumption | rfl) ?_) | (refine wl_widen rfl rfl rfl (by first | exact rfl | kernel_rfl) (by kernel_rfl) (by first | assumption | exact is_ofInt _ _ | exact is_self) ?_; intro r n hr) | (refine wl_neg rfl rfl rfl (by first | assumption | exact is_ofInt _ _ | exact is_self) ?_; intro r hr))
        go_roundw
        case rel => exact ⟨k + 1, _, _, by omega, by go_num, rfl, (seedN_in sd).1, (seedN_in sd).2, by unfold Hid; rw [hsd.out]; rfl, hO2, by simp; omega, by unfold Hid; rw [cl_append, hcl.out]; simp only [cl, List.map_cons, List.map_nil, HR.out.out', noiseP]; rw [← hsd.out]; rfl, (by repeat (first | assumption | exact Ext.refl _ | apply Ext.drewN | apply Ext.alloc))⟩
        case measure => simp [intOf]; omega
      · go_wp2
        go_ret3
        obtain rfl : k = m := by omega
        exact givesLI_some (by rw [hs.out]; rw [hsd.out]) hE hO hcl.out
/-- A slice of its own and a number. -/
def GivesLN (p : List Nat × Int) (w : World) (e : Ending) (w' : World) : Prop := ∃ v ys, e = .returned (.tuple #[v, .int .i64 p.2]) ∧ Ext w w' ∧ OwnF w' w.heap.size v ys ∧ cl ys = p.1
theorem l03Noise_any (s : Int) (m : Nat) (b q : Nat) (w : World) (h1 : 0 ≤ s ∧ s ≤ 2147483647) (h2 : m ≤ 128) (hb : Is .f32 b q) :
    Calls Try.prog 55 #[.int .i64 s, .int .i64 m, .float .f32 b] w (GivesLN (noiseP q s m) w) := by
  obtain ⟨i0, hi0, hz0, hs0, hb0⟩ := info_parts info32
  go_enter Try.func55, Try.ntmps55
  go_wp2_with (first | (go_at_call 48; refine (within_any _ _ _ _ (by first | assumption | rfl) _).mono ?_; rintro _ _ ⟨rfl, rfl⟩) | (go_at_call 47; refine (l00In_any _ _ _ _ (by first | assumption | rfl) _).mono ?_; rintro _ _ ⟨rfl, rfl⟩) | (go_at_call 45; refine (isCount_any _ _ (by first | assumption | rfl) _).mono ?_; rintro _ _ ⟨rfl, rfl⟩) | (go_at_call 59; refine (isFilter_any _ _ (by first | assumption | rfl) _).mono ?_; rintro _ _ ⟨rfl, rfl⟩) | (go_at_call 17; refine (isTrace_any _ _ _ _ (by first | assumption | rfl) _).mono ?_; rintro _ _ ⟨rfl, rfl⟩) | (go_at_call 44; refine (l03Is_any _ _ _ _ (by first | assumption | rfl) (by omega) _).mono ?_; rintro _ _ ⟨rfl, rfl⟩) | (go_at_call 46; refine (length32_any _ _ _ _).mono ?_; rintro _ _ ⟨rfl, rfl⟩) | (go_at_call 64; refine (isFinite64_any _ _ _ (by assumption) (by first | assumption | rfl) _).mono ?_; rintro _ _ ⟨rfl, n, rfl⟩) | (go_at_call 57; refine (isFinite_any _ _ _ (by first | assumption | exact is_ofInt _ _ | exact is_self) (by first | assumption | rfl) _).mono ?_; rintro _ _ ⟨rfl, n, rfl⟩) | (go_at_call 56; refine (l01Finite_any _ _ _ (by first | assumption | exact is_ofInt _ _ | exact is_self) (by first | assumption | rfl) _).mono ?_; rintro _ _ ⟨rfl, n, rfl⟩) | (refine wl_bin rfl rfl rfl rfl rfl (by first | assumption | exact is_ofInt _ _ | exact is_self) (by first | assumption | exact is_ofInt _ _ | exact is_self) ?_; intro r n hr) | (refine wl_cmp rfl rfl rfl rfl rfl (by first | assumption | exact is_ofInt _ _ | exact is_self) (by first | assumption | exact is_ofInt _ _ | exact is_self) (by first | assumption | rfl) ?_) | (refine wl_widen rfl rfl rfl (by first | exact rfl | kernel_rfl) (by kernel_rfl) (by first | assumption | exact is_ofInt _ _ | exact is_self) ?_; intro r n hr) | (refine wl_neg rfl rfl rfl (by first | assumption | exact is_ofInt _ _ | exact is_self) ?_; intro r hr))
  go_loopw [0, 1, 8] (fun t i v wr => ∃ (k : Nat) (sd : Int) (ys : List Nat), k ≤ m ∧ i = .int .i64 ((m : Int) - (k : Int)) ∧ t = .int .i64 sd ∧ 0 ≤ sd ∧ sd ≤ 2147483647 ∧ Hid (sd = (noiseP q s k).2) ∧ OwnF wr w.heap.size v ys ∧ ys.length ≤ k ∧ Hid (cl ys = (noiseP q s k).1) ∧ Ext w wr) (fun _ i _ _ => (intOf i).toNat)
  case atStart => exact ⟨0, s, [], Nat.zero_le _, by simp, rfl, h1.1, h1.2, rfl, ownF_empty _ _ (Ext.refl _), Nat.le_refl _, rfl, (Ext.refl _).alloc _⟩
  case round =>
    obtain ⟨k, sd, ys, hk, rfl, rfl, hs2, hs3, hsd, hO, hyl, hcl, hE⟩ := hrel
    by_cases hlt : k < m
    · have hp : (0 : Int) < (m : Int) - (k : Int) := by omega
      go_wp2_with (first | (at_builtin; refine wl_append1 _ rfl Try.underlying22 hi0 hz0 hs0 hb0 rfl rfl rfl (by repeat (first | assumption | apply OwnF.drewN | apply OwnF.alloc)) (by repeat (first | assumption | exact Ext.refl _ | apply Ext.drewN | apply Ext.alloc)) (by omega) (by first | exact cell_new _ _ _ | exact cell_newD _ _ _ _) ?_; intro v2 w2 hO2 hE2); (have HR := Lib.hid hr; clear hr) | (refine wl_bin rfl rfl rfl rfl rfl (by first | assumption | exact is_ofInt _ _ | exact is_self) (by first | assumption | exact is_ofInt _ _ | exact is_self) ?_; intro r n hr) | (refine wl_cmp rfl rfl rfl rfl rfl (by first | assumption | exact is_ofInt _ _ | exact is_self) (by first | assumption | exact is_ofInt _ _ | exact is_self) (by first | assumption | rfl) ?_) | (refine wl_widen rfl rfl rfl (by first | exact rfl | kernel_rfl) (by kernel_rfl) (by first | assumption | exact is_ofInt _ _ | exact is_self) ?_; intro r n hr) | (refine wl_neg rfl rfl rfl (by first | assumption | exact is_ofInt _ _ | exact is_self) ?_; intro r hr))
      go_roundw
      case rel => exact ⟨k + 1, _, _, by omega, by first | (go_num; done) | (congr 1; omega), rfl, (seedN_in sd).1, (seedN_in sd).2, by unfold Hid; rw [hsd.out]; rfl, hO2, by simp; omega, by unfold Hid; rw [cl_append, hcl.out]; simp only [cl, List.map_cons, List.map_nil, HR.out.out', noiseP]; rw [← hsd.out]; rfl, (by repeat (first | assumption | exact Ext.refl _ | apply Ext.drewN | apply Ext.alloc))⟩
      case measure => simp [intOf]; omega
    · have hp : ¬ (0 : Int) < (m : Int) - (k : Int) := by omega
      go_wp2
      go_ret2
      obtain rfl : k = m := by omega
      exact ⟨_, ys, by rw [← hsd.out]; rfl, hE, hO, hcl.out⟩
theorem specNoise_any (s n : Int) (b q : Nat) (w : World) (_ : -9223372036854775808 ≤ s) (_ : s ≤ 9223372036854775807) (_ : -9223372036854775808 ≤ n) (_ : n ≤ 9223372036854775807) (hb : Is .f32 b q) :
    Calls Try.prog 28 #[.int .i64 s, .int .i64 n, .float .f32 b] w (GivesLI (noiseO s n q) w) := by
  cases ht : inB s 0 2147483647 with
  | false =>
    have hn : Hid (noiseO s n q = none) := by unfold noiseO Hid; rw [ht]; rfl
    go_enter Try.func28, Try.ntmps28
    go_wp2_with (first | (go_at_call 48; refine (within_any _ _ _ _ (by first | assumption | rfl) _).mono ?_; rintro _ _ ⟨rfl, rfl⟩) | (go_at_call 47; refine (l00In_any _ _ _ _ (by first | assumption | rfl) _).mono ?_; rintro _ _ ⟨rfl, rfl⟩) | (go_at_call 45; refine (isCount_any _ _ (by first | assumption | rfl) _).mono ?_; rintro _ _ ⟨rfl, rfl⟩) | (go_at_call 59; refine (isFilter_any _ _ (by first | assumption | rfl) _).mono ?_; rintro _ _ ⟨rfl, rfl⟩) | (go_at_call 17; refine (isTrace_any _ _ _ _ (by first | assumption | rfl) _).mono ?_; rintro _ _ ⟨rfl, rfl⟩) | (go_at_call 44; refine (l03Is_any _ _ _ _ (by first | assumption | rfl) (by omega) _).mono ?_; rintro _ _ ⟨rfl, rfl⟩) | (go_at_call 46; refine (length32_any _ _ _ _).mono ?_; rintro _ _ ⟨rfl, rfl⟩) | (go_at_call 64; refine (isFinite64_any _ _ _ (by assumption) (by first | assumption | rfl) _).mono ?_; rintro _ _ ⟨rfl, n, rfl⟩) | (go_at_call 57; refine (isFinite_any _ _ _ (by first | assumption | exact is_ofInt _ _ | exact is_self) (by first | assumption | rfl) _).mono ?_; rintro _ _ ⟨rfl, n, rfl⟩) | (go_at_call 56; refine (l01Finite_any _ _ _ (by first | assumption | exact is_ofInt _ _ | exact is_self) (by first | assumption | rfl) _).mono ?_; rintro _ _ ⟨rfl, n, rfl⟩) | (refine wl_bin rfl rfl rfl rfl rfl (by first | assumption | exact is_ofInt _ _ | exact is_self) (by first | assumption | exact is_ofInt _ _ | exact is_self) ?_; intro r n hr) | (refine wl_cmp rfl rfl rfl rfl rfl (by first | assumption | exact is_ofInt _ _ | exact is_self) (by first | assumption | exact is_ofInt _ _ | exact is_self) (by first | assumption | rfl) ?_) | (refine wl_widen rfl rfl rfl (by first | exact rfl | kernel_rfl) (by kernel_rfl) (by first | assumption | exact is_ofInt _ _ | exact is_self) ?_; intro r n hr) | (refine wl_neg rfl rfl rfl (by first | assumption | exact is_ofInt _ _ | exact is_self) ?_; intro r hr))
    go_ret3
    exact givesLI_none hn.out (Ext.refl _)
  | true =>
  have h1 := inB_yes ht
  cases hu : inB n 1 128 with
  | false =>
    have hn : Hid (noiseO s n q = none) := by unfold noiseO Hid; rw [ht, hu]; rfl
    go_enter Try.func28, Try.ntmps28
    go_wp2_with (first | (go_at_call 48; refine (within_any _ _ _ _ (by first | assumption | rfl) _).mono ?_; rintro _ _ ⟨rfl, rfl⟩) | (go_at_call 47; refine (l00In_any _ _ _ _ (by first | assumption | rfl) _).mono ?_; rintro _ _ ⟨rfl, rfl⟩) | (go_at_call 45; refine (isCount_any _ _ (by first | assumption | rfl) _).mono ?_; rintro _ _ ⟨rfl, rfl⟩) | (go_at_call 59; refine (isFilter_any _ _ (by first | assumption | rfl) _).mono ?_; rintro _ _ ⟨rfl, rfl⟩) | (go_at_call 17; refine (isTrace_any _ _ _ _ (by first | assumption | rfl) _).mono ?_; rintro _ _ ⟨rfl, rfl⟩) | (go_at_call 44; refine (l03Is_any _ _ _ _ (by first | assumption | rfl) (by omega) _).mono ?_; rintro _ _ ⟨rfl, rfl⟩) | (go_at_call 46; refine (length32_any _ _ _ _).mono ?_; rintro _ _ ⟨rfl, rfl⟩) | (go_at_call 64; refine (isFinite64_any _ _ _ (by assumption) (by first | assumption | rfl) _).mono ?_; rintro _ _ ⟨rfl, n, rfl⟩) | (go_at_call 57; refine (isFinite_any _ _ _ (by first | assumption | exact is_ofInt _ _ | exact is_self) (by first | assumption | rfl) _).mono ?_; rintro _ _ ⟨rfl, n, rfl⟩) | (go_at_call 56; refine (l01Finite_any _ _ _ (by first | assumption | exact is_ofInt _ _ | exact is_self) (by first | assumption | rfl) _).mono ?_; rintro _ _ ⟨rfl, n, rfl⟩) | (refine wl_bin rfl rfl rfl rfl rfl (by first | assumption | exact is_ofInt _ _ | exact is_self) (by first | assumption | exact is_ofInt _ _ | exact is_self) ?_; intro r n hr) | (refine wl_cmp rfl rfl rfl rfl rfl (by first | assumption | exact is_ofInt _ _ | exact is_self) (by first | assumption | exact is_ofInt _ _ | exact is_self) (by first | assumption | rfl) ?_) | (refine wl_widen rfl rfl rfl (by first | exact rfl | kernel_rfl) (by kernel_rfl) (by first | assumption | exact is_ofInt _ _ | exact is_self) ?_; intro r n hr) | (refine wl_neg rfl rfl rfl (by first | assumption | exact is_ofInt _ _ | exact is_self) ?_; intro r hr))
    go_ret3
    exact givesLI_none hn.out (Ext.refl _)
  | true =>
    have h2 := inB_yes hu
    obtain ⟨m, rfl⟩ := Int.eq_ofNat_of_zero_le (show 0 ≤ n by omega)
    have hs : Hid (noiseO s m q = some (noiseP q s m)) := by unfold noiseO Hid; rw [ht, hu]; rfl
    go_enter Try.func28, Try.ntmps28
    go_wp2_with (first | (go_at_call 55; refine (l03Noise_any _ _ _ _ _ h1 (by omega) hb).mono ?_; rintro _ w1 ⟨v, ys, rfl, hE, hO, hcl⟩; (have HCL := Lib.hid hcl; clear hcl)) | (go_at_call 48; refine (within_any _ _ _ _ (by first | assumption | rfl) _).mono ?_; rintro _ _ ⟨rfl, rfl⟩) | (go_at_call 47; refine (l00In_any _ _ _ _ (by first | assumption | rfl) _).mono ?_; rintro _ _ ⟨rfl, rfl⟩) | (go_at_call 45; refine (isCount_any _ _ (by first | assumption | rfl) _).mono ?_; rintro _ _ ⟨rfl, rfl⟩) | (go_at_call 59; refine (isFilter_any _ _ (by first | assumption | rfl) _).mono ?_; rintro _ _ ⟨rfl, rfl⟩) | (go_at_call 17; refine (isTrace_any _ _ _ _ (by first | assumption | rfl) _).mono ?_; rintro _ _ ⟨rfl, rfl⟩) | (go_at_call 44; refine (l03Is_any _ _ _ _ (by first | assumption | rfl) (by omega) _).mono ?_; rintro _ _ ⟨rfl, rfl⟩) | (go_at_call 46; refine (length32_any _ _ _ _).mono ?_; rintro _ _ ⟨rfl, rfl⟩) | (go_at_call 64; refine (isFinite64_any _ _ _ (by assumption) (by first | assumption | rfl) _).mono ?_; rintro _ _ ⟨rfl, n, rfl⟩) | (go_at_call 57; refine (isFinite_any _ _ _ (by first | assumption | exact is_ofInt _ _ | exact is_self) (by first | assumption | rfl) _).mono ?_; rintro _ _ ⟨rfl, n, rfl⟩) | (go_at_call 56; refine (l01Finite_any _ _ _ (by first | assumption | exact is_ofInt _ _ | exact is_self) (by first | assumption | rfl) _).mono ?_; rintro _ _ ⟨rfl, n, rfl⟩))
    go_ret3
    exact givesLI_some hs.out hE hO HCL.out
end Go.Proofs.Ytgilngdbhkefcaa
