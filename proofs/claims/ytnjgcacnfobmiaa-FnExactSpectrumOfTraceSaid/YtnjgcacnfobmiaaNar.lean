/- Wider, narrower, the absolute value, the square root: on classes. -/
import Derived.Test.YtnjgcacnfobmiaaVal
namespace Go.Proofs.Ytnjgcacnfobmiaa
open Ieee
/-! ### Wider, narrower -/
theorem vl_exact (k : FloatKind) (c : Nat) (e : Int) (hc : c < 2 ^ (k.format.fractionBits + 1)) (he : k.format.leastPlace ≤ e) (hf : RR k.format (nv c e) < inf k) : vl k (RR k.format (nv c e)) = nv c e := by
  have hl := lp_ge k
  have h1 : RR k.format (nv c e) = rg k.format.fractionBits (k.format.leastPlace + 4096).toNat (nv c e) := by
    unfold RR at hf ⊢
    have : k.format.infRung = inf k := rfl
    omega
  rw [h1]
  unfold vl nv
  exact vg_exact _ _ _ _ hc (by omega)
theorem canon_mk (k : FloatKind) (s : Bool) {r : Nat} (h : r ≤ inf k) : canon k (mk k s r) = mk k s r := canon_of_not (by rw [isNan_mg, mg_mk _ _ h]; simp; omega)
/-- A float32 that is finite, as a float64. -/
theorem widen_fin {s : Nat} (h : mg .f32 s < inf .f32) : ∃ r, r < inf .f64 ∧ fwiden s = mk .f64 (fs .f32 s) r ∧ vl .f64 r = vl .f32 (mg .f32 s) := by
  obtain ⟨m, e, e1, h1, h2⟩ := read_fin h
  have hb := read_single_bounds s e1
  have hn : isNan .f32 s = false := by rw [isNan_mg]; simp; omega
  have e2 : FloatKind.f32.decode s = .number (fs .f32 s) m e := e1
  have hw : fwiden s = mk .f64 (fs .f32 s) (RR FloatKind.f64.format (nv m e)) := by
    unfold fwiden
    rw [hn, e2, if_neg (by decide)]
    exact nearest_mk .f64 _ _ _ (by omega)
  have hfin : RR FloatKind.f64.format (nv m e) < inf .f64 := by
    have h3 : nv m e ≤ nv (2 ^ 24) 104 := by
      unfold nv
      exact Nat.mul_le_mul (by omega) (Nat.pow_le_pow_right (by omega) (by omega))
    refine Nat.lt_of_le_of_lt (RR_mono _ h3) ?_
    have h4 := nearest_mk .f64 false (2 ^ 24) 104 (by omega)
    have h5 := mg_mk .f64 false (RR_inf .f64 (nv (2 ^ 24) 104))
    rw [← h4] at h5
    rw [← h5]
    decide +kernel
  refine ⟨_, hfin, hw, ?_⟩
  rw [vl_exact .f64 m e (by have : m < 2 ^ 24 := hb.1; show m < 2 ^ 53; omega) (by show -1074 ≤ e; omega) hfin, h2]

theorem widen_inf {s : Nat} (h : mg .f32 s = inf .f32) : fwiden s = mk .f64 (fs .f32 s) (inf .f64) := by
  have hn : isNan .f32 s = false := by rw [isNan_mg]; simp; omega
  have e2 : FloatKind.f32.decode s = .infinity (fs .f32 s) := read_inf h
  unfold fwiden
  rw [hn, e2, if_neg (by decide)]
  rfl
theorem widen_nan {s : Nat} (h : inf .f32 < mg .f32 s) : fwiden s = nanOf .f64 := by
  have hn : isNan .f32 s = true := by rw [isNan_mg]; simp; omega
  unfold fwiden
  rw [hn, if_pos rfl]
theorem not_isInf (k : FloatKind) (s : Bool) {r : Nat} (h : r < inf k) : (k.decode (mk k s r)).isInfinity = false := by
  obtain ⟨m, e, e1, _, _⟩ := read_fin (k := k) (b := mk k s r) (by rw [mg_mk _ _ (Nat.le_of_lt h)]; exact h)
  show (k.format.read _).isInfinity = false
  rw [e1]; rfl
/-- A float64 that is finite and not too great, as a float32. -/
theorem narrow_fin {s : Nat} (h : mg .f64 s < inf .f64) (hr : RR FloatKind.f32.format (vl .f64 (mg .f64 s)) < inf .f32) : fnarrow s = mk .f32 (fs .f64 s) (RR FloatKind.f32.format (vl .f64 (mg .f64 s))) ∧ narrowOk s = true := by
  obtain ⟨m, e, e1, h1, h2⟩ := read_fin h
  have hn : isNan .f64 s = false := by rw [isNan_mg]; simp; omega
  have e2 : FloatKind.f64.decode s = .number (fs .f64 s) m e := e1
  have e3 : FloatKind.f32.encode (.number (fs .f64 s) m e) = mk .f32 (fs .f64 s) (RR FloatKind.f32.format (vl .f64 (mg .f64 s))) := by
    rw [← h2]; exact nearest_mk .f32 _ _ _ (by omega)
  constructor
  · unfold fnarrow
    rw [hn, e2, if_neg (by decide), e3]
  · unfold narrowOk
    rw [e2]
    show (!(FloatKind.f32.decode (FloatKind.f32.encode (.number (fs .f64 s) m e))).isInfinity) = true
    rw [e3, not_isInf _ _ hr]; rfl
theorem narrow_not {s : Nat} (h : inf .f64 ≤ mg .f64 s) : narrowOk s = true := by
  unfold narrowOk
  rcases Nat.lt_or_eq_of_le h with h1 | h1
  · obtain ⟨a, t, e⟩ := read_nan (k := .f64) (b := s) (by rw [isNan_mg]; simp; omega)
    have e2 : FloatKind.f64.decode s = .nan a t := e
    rw [e2]
  · have e2 : FloatKind.f64.decode s = .infinity (fs .f64 s) := read_inf h1.symm
    rw [e2]
theorem narrow_nan {s : Nat} (h : inf .f64 < mg .f64 s) : fnarrow s = nanOf .f32 := by
  have hn : isNan .f64 s = true := by rw [isNan_mg]; simp; omega
  unfold fnarrow
  rw [hn, if_pos rfl]
theorem narrow_inf {s : Nat} (h : mg .f64 s = inf .f64) : fnarrow s = mk .f32 (fs .f64 s) (inf .f32) := by
  have hn : isNan .f64 s = false := by rw [isNan_mg]; simp; omega
  have e2 : FloatKind.f64.decode s = .infinity (fs .f64 s) := read_inf h
  unfold fnarrow
  rw [hn, e2, if_neg (by decide)]
  rfl
theorem mg_nan (k : FloatKind) : inf k < mg k (nanOf k) := by cases k <;> decide +kernel

/-! ### The absolute value -/
def fabs (k : FloatKind) (s : Nat) : Nat := if isNan k s then nanOf k else mg k s
theorem mg_mod (k : FloatKind) (b : Nat) : mg k (mg k b) = mg k b := Nat.mod_mod _ _
theorem is_abs {k : FloatKind} {b s : Nat} (h : Is k b s) : Is k (mg k b) (fabs k s) := by
  unfold Is at *
  subst h
  have h1 : isNan k (mg k b) = isNan k b := by rw [isNan_mg, isNan_mg, mg_mod]
  unfold fabs
  rw [isNan_canon]
  cases hb : isNan k b with
  | true => rw [canon_of_nan (by rw [h1, hb])]; rfl
  | false => rw [canon_of_not (by rw [h1, hb]), canon_of_not hb]; rfl
theorem mk_false (k : FloatKind) (r : Nat) : mk k false r = r := rfl
theorem fabs_mk (k : FloatKind) (s : Bool) {r : Nat} (h : r ≤ inf k) : fabs k (mk k s r) = r := by
  unfold fabs
  rw [isNan_mg, mg_mk _ _ h, decide_eq_false (by omega), if_neg (by decide)]
/-- Wider, its absolute value, and narrower again. -/
theorem narrow_abs (s : Nat) : fnarrow (fabs .f64 (fwiden s)) = fabs .f32 s ∧ narrowOk (fabs .f64 (fwiden s)) = true := by
  rcases Nat.lt_trichotomy (mg .f32 s) (inf .f32) with h | h | h
  · obtain ⟨r, hr, e, hv⟩ := widen_fin h
    rw [e, fabs_mk _ _ (Nat.le_of_lt hr)]
    have h1 : mg .f64 r = r := mg_small (Nat.le_of_lt hr)
    have h2 : RR FloatKind.f32.format (vl .f64 (mg .f64 r)) = mg .f32 s := by rw [h1, hv, RR_vl _ (Nat.le_of_lt h)]
    have h3 := narrow_fin (s := r) (by rw [h1]; exact hr) (by rw [h2]; exact h)
    rw [h2, fs_small (Nat.le_of_lt hr), mk_false] at h3
    refine ⟨?_, h3.2⟩
    rw [h3.1]; unfold fabs
    rw [isNan_mg, decide_eq_false (by omega), if_neg (by decide)]
  · rw [widen_inf h, fabs_mk _ _ (Nat.le_refl _)]
    have h1 : mg .f64 (inf .f64) = inf .f64 := mg_small (Nat.le_refl _)
    refine ⟨?_, narrow_not (by rw [h1]; exact Nat.le_refl _)⟩
    rw [narrow_inf h1, fs_small (Nat.le_refl _), mk_false]
    unfold fabs
    rw [isNan_mg, decide_eq_false (by omega), if_neg (by decide), h]
  · rw [widen_nan h]
    have h1 : fabs .f64 (nanOf .f64) = nanOf .f64 := by unfold fabs; rw [isNan_nanOf]; rfl
    rw [h1]
    refine ⟨?_, narrow_not (Nat.le_of_lt (mg_nan _))⟩
    rw [narrow_nan (mg_nan _)]
    unfold fabs
    rw [isNan_mg, decide_eq_true h, if_pos rfl]
end Go.Proofs.Ytnjgcacnfobmiaa
