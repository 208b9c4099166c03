/- Complex numbers of two classes: sums, products, quotients; when a quotient narrows. -/
import Derived.Test.YtnjgcacnfobmiaaGrdF
namespace Go.Proofs.Ytnjgcacnfobmiaa
open Ieee
set_option linter.unusedVariables false

def scl (x : Nat × Nat) (h : Nat) : Nat × Nat := (fop .mul .f32 x.1 h, fop .mul .f32 x.2 h)
def csub (x y : Nat × Nat) : Nat × Nat := (fop .sub .f32 x.1 y.1, fop .sub .f32 x.2 y.2)
def cadd (x y : Nat × Nat) : Nat × Nat := (fop .add .f32 x.1 y.1, fop .add .f32 x.2 y.2)
def cnj (y : Nat × Nat) : Nat × Nat := (y.1, fneg .f32 y.2)
def wre (x y : Nat × Nat) : Nat := fop .sub .f64 (fop .mul .f64 (fwiden x.1) (fwiden y.1)) (fop .mul .f64 (fwiden x.2) (fwiden y.2))
def wim (x y : Nat × Nat) : Nat := fop .add .f64 (fop .mul .f64 (fwiden x.1) (fwiden y.2)) (fop .mul .f64 (fwiden x.2) (fwiden y.1))
def pow2 (y : Nat × Nat) : Nat := fop .add .f64 (fop .mul .f64 (fwiden y.1) (fwiden y.1)) (fop .mul .f64 (fwiden y.2) (fwiden y.2))
def quoC (x y : Nat × Nat) : Nat × Nat := (fnarrow (fop .quo .f64 (wre x (cnj y)) (pow2 y)), fnarrow (fop .quo .f64 (wim x (cnj y)) (pow2 y)))
def quoOk (x y : Nat × Nat) : Prop := narrowOk (fop .quo .f64 (wre x (cnj y)) (pow2 y)) = true ∧ narrowOk (fop .quo .f64 (wim x (cnj y)) (pow2 y)) = true
/-- Not below 0, or no number. -/
def NN (s : Nat) : Prop := fs .f32 s = false ∨ inf .f32 < mg .f32 s
theorem mg_write_inf (k : FloatKind) (s : Bool) : mg k (k.format.write (.infinity s)) = inf k := mg_mk k s (Nat.le_refl _)
theorem read_non {k : FloatKind} {b : Nat} (h : inf k ≤ mg k b) : (∃ s t, k.format.read b = .nan s t) ∨ k.format.read b = .infinity (fs k b) := by
  rcases Nat.lt_or_eq_of_le h with h1 | h1
  · exact .inl (read_nan (by rw [isNan_mg]; simp; omega))
  · exact .inr (read_inf h1.symm)
theorem mg_fop_nan {op : BinOp} {k : FloatKind} {x y : Nat} (h : inf k < mg k x ∨ inf k < mg k y) : inf k ≤ mg k (fop op k x y) := by
  have : floatBits op k x y = none := floatBits_nan (by rcases h with h | h; exact .inl (by rw [isNan_mg]; simp; omega); exact .inr (by rw [isNan_mg]; simp; omega))
  unfold fop
  rw [this]
  exact Nat.le_of_lt (mg_nan k)
theorem fop_none {op : BinOp} {k : FloatKind} {x y : Nat} (h : floatBits op k x y = none) : fop op k x y = nanOf k := by unfold fop; rw [h]; rfl
theorem add_non {k : FloatKind} {a b : Nat} (h : inf k ≤ mg k a ∨ inf k ≤ mg k b) : inf k ≤ mg k (fop .add k a b) := by
  rcases Nat.lt_trichotomy (mg k a) (inf k) with ha | ha | ha
  · rcases h with h | h
    · omega
    rcases Nat.lt_or_eq_of_le h with hb | hb
    · exact mg_fop_nan (.inr hb)
    · obtain ⟨m, e, e1, _, _⟩ := read_fin ha
      have e2 := read_inf (k := k) (b := b) hb.symm
      rw [fop_of (r := k.format.write (.infinity (fs k b)))]
      · rw [mg_write_inf]; exact Nat.le_refl _
      · show k.format.add a b = _
        unfold Format.add
        rw [e1, e2]; rfl
  · rcases Nat.lt_trichotomy (mg k b) (inf k) with hb | hb | hb
    · obtain ⟨m, e, e1, _, _⟩ := read_fin hb
      have e2 := read_inf (k := k) (b := a) ha
      rw [fop_of (r := k.format.write (.infinity (fs k a)))]
      · rw [mg_write_inf]; exact Nat.le_refl _
      · show k.format.add a b = _
        unfold Format.add
        rw [e1, e2]; rfl
    · have e1 := read_inf (k := k) (b := a) ha
      have e2 := read_inf (k := k) (b := b) hb
      have e3 : k.format.add a b = (if fs k a = fs k b then some (k.format.write (.infinity (fs k a))) else none) := by
        unfold Format.add
        rw [e1, e2]
        simp only [Datum.sum]
        cases fs k a <;> cases fs k b <;> rfl
      by_cases hs : fs k a = fs k b
      · rw [fop_of (r := k.format.write (.infinity (fs k a)))]
        · rw [mg_write_inf]; exact Nat.le_refl _
        · show k.format.add a b = _
          rw [e3, if_pos hs]
      · rw [fop_none (by show k.format.add a b = _; rw [e3, if_neg hs])]
        exact Nat.le_of_lt (mg_nan k)
    · exact mg_fop_nan (.inr hb)
  · exact mg_fop_nan (.inl ha)
theorem sq_non {k : FloatKind} {a : Nat} (h : inf k ≤ mg k a) : inf k ≤ mg k (fop .mul k a a) := by
  rcases Nat.lt_or_eq_of_le h with ha | ha
  · exact mg_fop_nan (.inl ha)
  · have e1 := read_inf (k := k) (b := a) ha.symm
    rw [fop_of (r := k.format.write (.infinity (fs k a ^^ fs k a)))]
    · rw [mg_write_inf]; exact Nat.le_refl _
    · show k.format.mul a a = _
      unfold Format.mul
      rw [e1]; rfl
theorem widen_non {s : Nat} (h : inf .f32 ≤ mg .f32 s) : inf .f64 ≤ mg .f64 (fwiden s) := by
  rcases Nat.lt_or_eq_of_le h with h1 | h1
  · rw [widen_nan h1]; exact Nat.le_of_lt (mg_nan _)
  · rw [widen_inf h1.symm, mg_mk _ _ (Nat.le_refl _)]; exact Nat.le_refl _
theorem mg_zero_narrow {s : Nat} (h : mg .f64 s = 0) : narrowOk s = true := (narrow_fin (by rw [h]; decide +kernel) (by rw [h]; decide +kernel)).2
/-- A quotient by what is not finite narrows. -/
theorem quo_non {x y : Nat} (h : inf .f64 ≤ mg .f64 y) : narrowOk (fop .quo .f64 x y) = true := by
  rcases Nat.lt_or_eq_of_le h with h1 | h1
  · exact narrow_not (mg_fop_nan (.inr h1))
  · have e2 := read_inf (k := .f64) (b := y) h1.symm
    rcases Nat.lt_trichotomy (mg .f64 x) (inf .f64) with hx | hx | hx
    · obtain ⟨m, e, e1, _, _⟩ := read_fin hx
      apply mg_zero_narrow
      obtain ⟨s, e', h3⟩ : ∃ s e', FloatKind.f64.format.div x y = some (FloatKind.f64.format.write (.number s 0 e')) ∧ -4096 ≤ e' := by
        unfold Format.div
        rw [e1, e2]
        exact ⟨_, _, rfl, by decide⟩
      rw [fop_of (op := .quo) (k := .f64) (x := x) (y := y) h3.1]
      show mg .f64 (FloatKind.f64.format.nearest s 0 e') = 0
      rw [nearest_mk _ _ _ _ h3.2, mg_mk _ _ (RR_inf _ _)]
      show RR _ (nv 0 e') = 0
      unfold nv
      rw [Nat.zero_mul, RR_zero]
    · have e1 := read_inf (k := .f64) (b := x) hx
      rw [fop_none (by show FloatKind.f64.format.div x y = none; unfold Format.div; rw [e1, e2]; rfl)]
      exact narrow_nanOf
    · exact narrow_not (mg_fop_nan (.inl hx))
/-- A quotient by nought narrows. -/
theorem quo_zero {x y : Nat} (h : mg .f64 y = 0) : narrowOk (fop .quo .f64 x y) = true := by
  obtain ⟨n, j, e2, _, hn⟩ := read_fin (k := .f64) (b := y) (by rw [h]; decide +kernel)
  have hn0 : n = 0 := by
    rw [h, vl_zero] at hn
    unfold nv at hn
    rcases Nat.mul_eq_zero.1 hn with h1 | h1
    · exact h1
    · exact absurd h1 (Nat.ne_of_gt (Nat.two_pow_pos _))
  subst hn0
  rcases Nat.lt_trichotomy (mg .f64 x) (inf .f64) with hx | hx | hx
  · obtain ⟨m, e, e1, _, _⟩ := read_fin hx
    by_cases hm : m = 0
    · subst hm
      rw [fop_none (by show FloatKind.f64.format.div x y = none; unfold Format.div; rw [e1, e2]; rfl)]
      exact narrow_nanOf
    · have e3 : FloatKind.f64.format.div x y = some (FloatKind.f64.format.write (.infinity (fs .f64 x ^^ fs .f64 y))) := by
        unfold Format.div
        rw [e1, e2]
        simp [Datum.quotient, hm]
      rw [fop_of (op := .quo) (k := .f64) (x := x) (y := y) e3]
      exact narrow_not (by rw [mg_write_inf]; exact Nat.le_refl _)
  · have e1 := read_inf (k := .f64) (b := x) hx
    have e3 : FloatKind.f64.format.div x y = some (FloatKind.f64.format.write (.infinity (fs .f64 x ^^ fs .f64 y))) := by
      unfold Format.div
      rw [e1, e2]; rfl
    rw [fop_of (op := .quo) (k := .f64) (x := x) (y := y) e3]
    exact narrow_not (by rw [mg_write_inf]; exact Nat.le_refl _)
  · exact narrow_not (mg_fop_nan (.inl hx))
/-- What is rounded is not above the double. -/
theorem vl_RR (N : Nat) (hD : 2 ^ (FloatKind.f64.format.leastPlace + 4096).toNat ≤ N) : vl .f64 (RR FloatKind.f64.format N) ≤ 2 * N := by
  have hN : N ≠ 0 := fun h => by subst h; have := Nat.two_pow_pos (FloatKind.f64.format.leastPlace + 4096).toNat; omega
  have hlo := Nat.log2_self_le hN
  have hhi : N < 2 ^ (N.log2 + 1) := Nat.lt_log2_self
  have hj : (FloatKind.f64.format.leastPlace + 4096).toNat ≤ N.log2 + 1 := by
    have h1 : 2 ^ (FloatKind.f64.format.leastPlace + 4096).toNat < 2 ^ (N.log2 + 1) := by omega
    have := (Nat.pow_lt_pow_iff_right (by omega)).1 h1
    omega
  have h2 : RR FloatKind.f64.format N ≤ rg FloatKind.f64.format.fractionBits (FloatKind.f64.format.leastPlace + 4096).toNat (1 * 2 ^ (N.log2 + 1)) := by
    unfold RR
    rw [Nat.one_mul]
    exact Nat.le_trans (Nat.min_le_left _ _) (rg_mono _ _ (Nat.le_of_lt hhi))
  have h3 := vg_mono (F := FloatKind.f64.format.fractionBits) (D := (FloatKind.f64.format.leastPlace + 4096).toNat) h2
  rw [vg_exact _ _ 1 _ (by decide) hj, Nat.one_mul] at h3
  unfold vl
  rw [Nat.pow_succ] at h3
  omega
theorem RR_small {N : Nat} (h : N < 2 ^ (FloatKind.f64.format.leastPlace + 4096).toNat) : vl .f64 (RR FloatKind.f64.format N) ≤ 2 ^ (FloatKind.f64.format.leastPlace + 4096).toNat := by
  have h1 : RR FloatKind.f64.format N ≤ rg FloatKind.f64.format.fractionBits (FloatKind.f64.format.leastPlace + 4096).toNat (1 * 2 ^ (FloatKind.f64.format.leastPlace + 4096).toNat) := by
    unfold RR
    rw [Nat.one_mul]
    exact Nat.le_trans (Nat.min_le_left _ _) (rg_mono _ _ (Nat.le_of_lt h))
  have h3 := vg_mono (F := FloatKind.f64.format.fractionBits) (D := (FloatKind.f64.format.leastPlace + 4096).toNat) h1
  rw [vg_exact _ _ 1 _ (by decide) (Nat.le_refl _), Nat.one_mul] at h3
  exact h3
theorem least_vl {r : Nat} (h : 0 < r) : 2 ^ (FloatKind.f64.format.leastPlace + 4096).toNat ≤ vl .f64 r := by
  have h1 := (vl_le (k := .f64) (r := 1) (r' := r)).2 h
  have h2 : vl .f64 1 = 2 ^ (FloatKind.f64.format.leastPlace + 4096).toNat := by
    unfold vl vg
    rw [if_pos (by decide), Nat.one_mul]
  omega
theorem mul_mg {k : FloatKind} {a b : Nat} (ha : mg k a < inf k) (hb : mg k b < inf k) : mg k (fop .mul k a b) = mg k (fop .mul k (mg k a) (mg k b)) := by
  have ia : mg k (mg k a) = mg k a := mg_mod _ _
  have ib : mg k (mg k b) = mg k b := mg_mod _ _
  obtain ⟨P, e, h1⟩ := mul_fin ha hb
  obtain ⟨R, e', h2⟩ := mul_fin (k := k) (x := mg k a) (y := mg k b) (by rw [ia]; exact ha) (by rw [ib]; exact hb)
  rw [ia, ib] at h2
  rw [e, e', mg_mk _ _ (RR_inf _ _), mg_mk _ _ (RR_inf _ _)]
  have h3 : P * nv 1 0 = R * nv 1 0 := by rw [h1, h2]
  have h4 : P = R := Nat.eq_of_mul_eq_mul_right (by unfold nv; rw [Nat.one_mul]; exact Nat.two_pow_pos _) h3
  rw [h4]
theorem big_sq : mg .f64 (fop .mul .f64 (RR FloatKind.f64.format (tp 4224)) (RR FloatKind.f64.format (tp 4224))) < inf .f64 ∧ RR FloatKind.f64.format (tp 4224) < inf .f64 := by decide +kernel
theorem big_add : mg .f64 (fop .add .f64 (mg .f64 (fop .mul .f64 (RR FloatKind.f64.format (tp 4224)) (RR FloatKind.f64.format (tp 4224)))) (mg .f64 (fop .mul .f64 (RR FloatKind.f64.format (tp 4224)) (RR FloatKind.f64.format (tp 4224))))) < inf .f64 := by decide +kernel
theorem quo_ok {re by_ q : Nat} (hq : q < inf .f64) (hr : mg .f64 re ≤ RR FloatKind.f64.format (vl .f64 q + vl .f64 q)) (hf : mg .f64 re < inf .f64) (hb : q ≤ mg .f64 by_) : narrowOk (fop .quo .f64 re by_) = true := by
  by_cases h0 : mg .f64 by_ = 0
  · exact quo_zero h0
  by_cases h1 : mg .f64 by_ < inf .f64
  · obtain ⟨Q, e, h2⟩ := quo_fin hf h1 h0
    rw [e]
    have h2' : ∀ a b : Nat, vl .f64 (mg .f64 re) * 2 ^ a ≤ vl .f64 (mg .f64 by_) * 2 ^ b → a ≤ 4096 + b → Q ≤ tp (4096 + b - a) := h2
    clear h2
    refine narrow_of_le _ (Nat.le_trans (h2' 0 2 ?_ (by omega)) (tp_le (by omega)))
    have h3 := (vl_le (k := .f64)).2 hr
    have h4 := (vl_le (k := .f64)).2 hb
    have h5 : vl .f64 (RR FloatKind.f64.format (vl .f64 q + vl .f64 q)) ≤ 2 * (vl .f64 q + vl .f64 q) := by
      rcases Nat.eq_zero_or_pos q with h6 | h6
      · subst h6
        rw [vl_zero, RR_zero, vl_zero]; omega
      · have h7 := least_vl h6
        exact vl_RR _ (by omega)
    omega
  · exact quo_non (by omega)
theorem widen_mg {s : Nat} (h : mg .f32 s < inf .f32) : mg .f64 (fwiden s) < inf .f64 ∧ vl .f64 (mg .f64 (fwiden s)) = vl .f32 (mg .f32 s) ∧ mg .f64 (fwiden s) ≤ RR FloatKind.f64.format (tp 4224) := by
  obtain ⟨r, hr, e, hv⟩ := widen_fin h
  have h1 := mg_mk .f64 (fs .f32 s) (Nat.le_of_lt hr)
  rw [e, h1]
  refine ⟨hr, hv, ?_⟩
  have h2 : vl .f64 r ≤ tp 4224 := by rw [hv, ← vl_inf32]; exact vl_le.2 (Nat.le_of_lt h)
  have h3 := RR_mono FloatKind.f64.format h2
  rw [RR_vl .f64 (Nat.le_of_lt hr)] at h3
  exact h3
theorem prod_ok {a b c d by_ P : Nat} {op : BinOp} (ho : op = .add ∨ op = .sub) (hP : P ≤ RR FloatKind.f64.format (tp 4224)) (ha : mg .f64 a ≤ P) (hb : mg .f64 b ≤ P) (hc : mg .f64 c ≤ P) (hd : mg .f64 d ≤ P) (hby : mg .f64 (fop .mul .f64 P P) ≤ mg .f64 by_) :
    narrowOk (fop .quo .f64 (fop op .f64 (fop .mul .f64 a b) (fop .mul .f64 c d)) by_) = true := by
  have hB := big_sq
  have hPi : P < inf .f64 := by omega
  have rP : mg .f64 P = P := mg_small (Nat.le_of_lt hPi)
  have h1 := mul_lim (k := .f64) (x := a) (y := b) hPi hPi ha hb
  have h2 := mul_lim (k := .f64) (x := c) (y := d) hPi hPi hc hd
  have h3 := mul_lim (k := .f64) (x := P) (y := P) hB.2 hB.2 (by omega) (by omega)
  have hq : mg .f64 (fop .mul .f64 P P) < inf .f64 := by omega
  refine quo_ok hq ?_ ?_ hby
  · refine Nat.le_trans (addsub_le ho (by omega) (by omega)) (RR_mono _ ?_)
    have a1 := (vl_le (k := .f64)).2 h1
    have a2 := (vl_le (k := .f64)).2 h2
    omega
  · exact Nat.lt_of_le_of_lt (addsub_lim ho hB.1 hB.1 (by omega) (by omega)) big_add
theorem sq_add {a b : Nat} (ha : mg .f64 a < inf .f64) (hb : mg .f64 b < inf .f64) (ha2 : mg .f64 (fop .mul .f64 a a) < inf .f64) (hb2 : mg .f64 (fop .mul .f64 b b) < inf .f64) :
    mg .f64 (fop .mul .f64 a a) ≤ mg .f64 (fop .add .f64 (fop .mul .f64 a a) (fop .mul .f64 b b)) ∧ mg .f64 (fop .mul .f64 b b) ≤ mg .f64 (fop .add .f64 (fop .mul .f64 a a) (fop .mul .f64 b b)) := by
  obtain ⟨P, e, _⟩ := mul_fin ha ha
  obtain ⟨R, e', _⟩ := mul_fin hb hb
  rw [Bool.xor_self, mk_false] at e e'
  obtain ⟨u, T, e2, h1, _⟩ := add_fin ha2 hb2
  have s1 : fs .f64 (fop .mul .f64 a a) = false := by rw [e]; exact fs_small (RR_inf _ _)
  have s2 : fs .f64 (fop .mul .f64 b b) = false := by rw [e']; exact fs_small (RR_inf _ _)
  rw [e2, mg_mk _ _ (RR_inf _ _), (h1 (by rw [s1, s2])).2]
  constructor
  · have := RR_mono FloatKind.f64.format (Nat.le_add_right (vl .f64 (mg .f64 (fop .mul .f64 a a))) (vl .f64 (mg .f64 (fop .mul .f64 b b))))
    rwa [RR_vl .f64 (Nat.le_of_lt ha2)] at this
  · have := RR_mono FloatKind.f64.format (Nat.le_add_left (vl .f64 (mg .f64 (fop .mul .f64 b b))) (vl .f64 (mg .f64 (fop .mul .f64 a a))))
    rwa [RR_vl .f64 (Nat.le_of_lt hb2)] at this
theorem mg_neg {k : FloatKind} {s : Nat} (h : mg k s ≤ inf k) : mg k (fneg k s) = mg k s := by
  have hn : isNan k s = false := by rw [isNan_mg]; simp; omega
  unfold fneg
  rw [hn]
  show mg k (Op.negFloat k s) = _
  cases k
  · show (s ^^^ 2 ^ 31) % 2147483648 = s % 2147483648
    have := Nat.xor_mod_two_pow (a := s) (b := 2 ^ 31) (n := 31)
    simpa using this
  · show (s ^^^ 2 ^ 63) % 9223372036854775808 = s % 9223372036854775808
    have := Nat.xor_mod_two_pow (a := s) (b := 2 ^ 63) (n := 63)
    simpa using this
theorem quoOk_fin {x y : Nat × Nat} (h1 : mg .f32 x.1 ≤ mg .f32 y.1) (h2 : mg .f32 x.2 ≤ mg .f32 y.2) (f1 : mg .f32 y.1 < inf .f32) (f2 : mg .f32 y.2 < inf .f32) : quoOk x y := by
  have w1 := widen_mg f1
  have w2 := widen_mg f2
  have w3 := widen_mg (show mg .f32 (fneg .f32 y.2) < inf .f32 by rw [mg_neg (Nat.le_of_lt f2)]; exact f2)
  have w4 := widen_mg (s := x.1) (by omega)
  have w5 := widen_mg (s := x.2) (by omega)
  rw [mg_neg (Nat.le_of_lt f2)] at w3
  have e3 : mg .f64 (fwiden (fneg .f32 y.2)) = mg .f64 (fwiden y.2) := by
    have a1 := (vl_le (k := .f64) (r := mg .f64 (fwiden (fneg .f32 y.2))) (r' := mg .f64 (fwiden y.2))).1 (by rw [w3.2.1, w2.2.1]; exact Nat.le_refl _)
    have a2 := (vl_le (k := .f64) (r := mg .f64 (fwiden y.2)) (r' := mg .f64 (fwiden (fneg .f32 y.2)))).1 (by rw [w3.2.1, w2.2.1]; exact Nat.le_refl _)
    omega
  have l1 : mg .f64 (fwiden x.1) ≤ mg .f64 (fwiden y.1) := (vl_le (k := .f64)).1 (by rw [w4.2.1, w1.2.1]; exact (vl_le (k := .f32)).2 h1)
  have l2 : mg .f64 (fwiden x.2) ≤ mg .f64 (fwiden y.2) := (vl_le (k := .f64)).1 (by rw [w5.2.1, w2.2.1]; exact (vl_le (k := .f32)).2 h2)
  have hB := big_sq
  have q1 := mul_lim (k := .f64) (x := fwiden y.1) (y := fwiden y.1) hB.2 hB.2 w1.2.2 w1.2.2
  have q2 := mul_lim (k := .f64) (x := fwiden y.2) (y := fwiden y.2) hB.2 hB.2 w2.2.2 w2.2.2
  obtain ⟨g1, g2⟩ := sq_add w1.1 w2.1 (by omega) (by omega)
  rw [mul_mg w1.1 w1.1] at g1
  rw [mul_mg w2.1 w2.1] at g2
  unfold quoOk wre wim cnj pow2
  dsimp only
  by_cases hle : mg .f64 (fwiden y.1) ≤ mg .f64 (fwiden y.2)
  · exact ⟨prod_ok (P := mg .f64 (fwiden y.2)) (.inr rfl) w2.2.2 (by omega) (by omega) (by omega) (by omega) g2,
      prod_ok (P := mg .f64 (fwiden y.2)) (.inl rfl) w2.2.2 (by omega) (by omega) (by omega) (by omega) g2⟩
  · exact ⟨prod_ok (P := mg .f64 (fwiden y.1)) (.inr rfl) w1.2.2 (by omega) (by omega) (by omega) (by omega) g1,
      prod_ok (P := mg .f64 (fwiden y.1)) (.inl rfl) w1.2.2 (by omega) (by omega) (by omega) (by omega) g1⟩
theorem nn_sum {a b : Nat} (ha : NN a) (hb : NN b) (hf : mg .f32 (fop .add .f32 a b) < inf .f32) : mg .f32 (fop .sub .f32 a b) ≤ mg .f32 (fop .add .f32 a b) := by
  have fa : mg .f32 a < inf .f32 := by
    rcases Nat.lt_or_ge (mg .f32 a) (inf .f32) with h | h
    · exact h
    · have := add_non (b := b) (.inl h); omega
  have fb : mg .f32 b < inf .f32 := by
    rcases Nat.lt_or_ge (mg .f32 b) (inf .f32) with h | h
    · exact h
    · have := add_non (a := a) (.inr h); omega
  have sa : fs .f32 a = false := by rcases ha with h | h; exact h; omega
  have sb : fs .f32 b = false := by rcases hb with h | h; exact h; omega
  obtain ⟨u, T, e, h1, _⟩ := add_fin fa fb
  rw [e, mg_mk _ _ (RR_inf _ _), (h1 (by rw [sa, sb])).2]
  exact addsub_le (.inr rfl) fa fb
theorem quoOk_of {a b : Nat × Nat} (h1 : NN a.1) (h2 : NN a.2) (h3 : NN b.1) (h4 : NN b.2) : quoOk (csub a b) (cadd a b) := by
  by_cases f1 : mg .f32 (cadd a b).1 < inf .f32
  · by_cases f2 : mg .f32 (cadd a b).2 < inf .f32
    · exact quoOk_fin (nn_sum h1 h3 f1) (nn_sum h2 h4 f2) f1 f2
    · have h := add_non (k := .f64) (a := fop .mul .f64 (fwiden (cadd a b).1) (fwiden (cadd a b).1)) (.inr (sq_non (widen_non (s := (cadd a b).2) (by omega))))
      exact ⟨quo_non h, quo_non h⟩
  · have h := add_non (k := .f64) (b := fop .mul .f64 (fwiden (cadd a b).2) (fwiden (cadd a b).2)) (.inl (sq_non (widen_non (s := (cadd a b).1) (by omega))))
    exact ⟨quo_non h, quo_non h⟩
end Go.Proofs.Ytnjgcacnfobmiaa
