/- Sines and points of the unit circle: the plain functions, their bounds. -/
import Derived.Test.YtnjgcacnfobmiaaTrn
import Derived.Test.YtnjgcacnfobmiaaCpxF
namespace Go.Proofs.Ytnjgcacnfobmiaa.tr
open Go.RowKit
set_option maxRecDepth 100000
set_option linter.unusedVariables false

def pw (n : Nat) : Nat := (1023 + n) * 4503599627370496
theorem pw_facts : ∀ n, n < 128 → vl .f64 (pw n) = tp (4096 + n) ∧ pw n < inf .f64 := by decide +kernel
theorem pw_le {a b : Nat} (h : a ≤ b) : pw a ≤ pw b := Nat.mul_le_mul_right _ (by omega)
def bnd64 (x n : Nat) : Prop := mg .f64 x ≤ pw n
theorem bnd64.mono {x a b : Nat} (h : bnd64 x a) (hab : a ≤ b) : bnd64 x b := Nat.le_trans h (pw_le hab)
theorem bnd64.fin {x a : Nat} (h : bnd64 x a) (ha : a < 128) : mg .f64 x < inf .f64 := Nat.lt_of_le_of_lt h (pw_facts a ha).2
theorem bnd64.vl {x a : Nat} (h : bnd64 x a) (ha : a < 128) : vl .f64 (mg .f64 x) ≤ tp (4096 + a) := by rw [← (pw_facts a ha).1]; exact (vl_le (k := .f64)).2 h
theorem RR_pw {a : Nat} (ha : a < 128) : RR FloatKind.f64.format (tp (4096 + a)) = pw a := by rw [← (pw_facts a ha).1]; exact RR_vl .f64 (Nat.le_of_lt (pw_facts a ha).2)
theorem mul_b {x y a b : Nat} (hx : bnd64 x a) (hy : bnd64 y b) (h : a + b < 128) : bnd64 (fop .mul .f64 x y) (a + b) := by
  obtain ⟨P, e, hP⟩ := mul_fin (k := .f64) (hx.fin (by omega)) (hy.fin (by omega))
  unfold bnd64
  rw [e, mk_mg, ← RR_pw h]
  refine RR_mono _ ?_
  have h1 : P * nv 1 0 ≤ tp (4096 + a) * tp (4096 + b) := by rw [hP]; exact Nat.mul_le_mul (hx.vl (by omega)) (hy.vl (by omega))
  rw [nv0, Nat.one_mul, tp_add, show 4096 + a + (4096 + b) = (4096 + (a + b)) + 4096 by omega, ← tp_add] at h1
  exact Nat.le_of_mul_le_mul_right h1 (tp_pos _)
theorem add_b {op : BinOp} (ho : op = .add ∨ op = .sub) {x y a : Nat} (hx : bnd64 x a) (hy : bnd64 y a) (h : a + 1 < 128) : bnd64 (fop op .f64 x y) (a + 1) := by
  unfold bnd64
  refine Nat.le_trans (addsub_le ho (hx.fin (by omega)) (hy.fin (by omega))) ?_
  rw [← RR_pw h, show 4096 + (a + 1) = (4096 + a) + 1 by omega, tp_succ]
  have h1 := hx.vl (by omega)
  have h2 := hy.vl (by omega)
  exact RR_mono _ (Nat.add_le_add h1 h2)
theorem quo_b {x y a : Nat} (hx : bnd64 x a) (ha : a < 128) (hy : mg .f64 y < inf .f64) (hy0 : mg .f64 y ≠ 0) (hy1 : tp 4096 ≤ vl .f64 (mg .f64 y)) : bnd64 (fop .quo .f64 x y) a := by
  unfold bnd64
  have h1 := quo_le (k := .f64) (hx.fin ha) hy hy0 (a := 0) (b := a) (by
    rw [Nat.pow_zero, Nat.mul_one]
    refine Nat.le_trans (hx.vl ha) ?_
    rw [← tp_add]
    exact Nat.mul_le_mul_right _ hy1) (by omega)
  rw [Nat.sub_zero] at h1
  exact Nat.le_trans h1 (Nat.le_of_eq (RR_pw ha))
theorem pw_zero : pw 0 = one64 := by decide +kernel
theorem bnd_one {x : Nat} (h : mg .f64 x ≤ one64) : bnd64 x 0 := by unfold bnd64; rw [pw_zero]; exact h
theorem one_b : bnd64 one64 0 := by unfold bnd64; decide +kernel
theorem half_b : bnd64 half64 0 := by unfold bnd64; decide +kernel
theorem q25_b : bnd64 q25 0 := by unfold bnd64; decide +kernel
theorem tau_b : bnd64 tau64 3 := by unfold bnd64; decide +kernel
theorem zero_b : bnd64 0 0 := by unfold bnd64; decide +kernel
theorem neg_b {x a : Nat} (h : bnd64 x a) (ha : a < 128) : bnd64 (fneg .f64 x) a := by
  unfold bnd64
  rw [mg_neg (Nat.le_of_lt (h.fin ha))]
  exact h
theorem narrow_b {x a : Nat} (h : bnd64 x a) (ha : a ≤ 110) : narrowOk x = true := by
  have h1 := (h.mono ha).vl (by omega)
  refine (narrow_fin (h.fin (by omega)) ?_).2
  refine Nat.lt_of_le_of_lt (RR_mono _ h1) ?_
  decide +kernel
/-! ### The sine -/
def dK (k : Nat) : Nat := floatOfInt .f64 (2 * (k : Int) * (2 * (k : Int) + 1))
theorem dK_facts : ∀ k, k < 9 → 1 ≤ k → mg .f64 (dK k) < inf .f64 ∧ mg .f64 (dK k) ≠ 0 ∧ tp 4096 ≤ vl .f64 (mg .f64 (dK k)) := by decide +kernel
def pK (u : Nat) : Nat → Nat
  | 0 => one64
  | j + 1 => fop .sub .f64 one64 (fop .quo .f64 (fop .mul .f64 u (pK u j)) (dK (8 - j)))
theorem pK_b {u : Nat} (h : bnd64 u 10) : ∀ j, j ≤ 8 → bnd64 (pK u j) (12 * j)
  | 0, _ => one_b
  | j + 1, hj => by
    have h1 := mul_b h (pK_b h j (by omega)) (by omega)
    obtain ⟨d1, d2, d3⟩ := dK_facts (8 - j) (by omega) (by omega)
    have h2 := quo_b h1 (by omega) d1 d2 d3
    have h3 := add_b (.inr rfl) (one_b.mono (Nat.zero_le _)) h2 (by omega)
    exact h3.mono (by omega)
def sF1 (f : Nat) : Nat := if fcmp .geq .f64 f half64 then fop .sub .f64 f half64 else f
def sF2 (f : Nat) : Nat := if fcmp .gtr .f64 f q25 then fop .sub .f64 half64 f else f
def sZ (t : Nat) : Nat := fop .mul .f64 (sF2 (sF1 (frF t))) tau64
def sO (t : Nat) : Nat := fop .mul .f64 (sZ t) (pK (fop .mul .f64 (sZ t) (sZ t)) 8)
def sinF (t : Nat) : Nat := if fcmp .geq .f64 (frF t) half64 then fneg .f64 (sO t) else sO t
theorem sF1_b {f : Nat} (h0 : bnd64 f 0) : bnd64 (sF1 f) 1 := by
  unfold sF1
  cases fcmp .geq .f64 f half64 with
  | true => rw [if_pos rfl]; exact add_b (.inr rfl) h0 half_b (by omega)
  | false => rw [if_neg (by decide)]; exact h0.mono (by omega)
theorem sF2_b {f : Nat} (h1 : bnd64 f 1) : bnd64 (sF2 f) 2 := by
  unfold sF2
  cases fcmp .gtr .f64 f q25 with
  | true => rw [if_pos rfl]; exact add_b (.inr rfl) (half_b.mono (by omega)) h1 (by omega)
  | false => rw [if_neg (by decide)]; exact h1.mono (by omega)
theorem sZ_b {t : Nat} (h : mg .f64 t < c52) : bnd64 (sZ t) 5 := by
  have h2 := sF2_b (sF1_b (bnd_one (frF_ok h).2))
  have h3 := mul_b h2 tau_b (by omega)
  exact h3
theorem sq_b {z : Nat} (hz : bnd64 z 5) : bnd64 (fop .mul .f64 z z) 10 := by
  have h := mul_b hz hz (show 5 + 5 < 128 by omega)
  exact h
theorem pK8_b {u : Nat} (h : bnd64 u 10) : ∀ n, n = 8 → bnd64 (pK u n) 96 := fun n hn => by
  have h1 := pK_b h n (by omega)
  rw [show 12 * n = 96 by omega] at h1
  exact h1
theorem o_b {z P : Nat} (hz : bnd64 z 5) (hP : bnd64 P 96) : bnd64 (fop .mul .f64 z P) 101 := by
  have h := mul_b hz hP (show 5 + 96 < 128 by omega)
  exact h
theorem sO_eq (t : Nat) : sO t = fop .mul .f64 (sZ t) (pK (fop .mul .f64 (sZ t) (sZ t)) 8) := rfl
theorem sO_b {t : Nat} (h : mg .f64 t < c52) : bnd64 (sO t) 101 := by
  rw [sO_eq]
  exact o_b (sZ_b h) (pK8_b (sq_b (sZ_b h)) 8 rfl)
theorem sinF_b {t : Nat} (h : mg .f64 t < c52) : bnd64 (sinF t) 101 := by
  unfold sinF
  cases fcmp .geq .f64 (frF t) half64 with
  | true => rw [if_pos rfl]; exact neg_b (sO_b h) (by omega)
  | false => rw [if_neg (by decide)]; exact sO_b h
/-! ### The point -/
def qF (t : Nat) : Nat × Nat := qres 4 (frF t) 0
def cF (t : Nat) : Nat := sinF (fop .sub .f64 q25 (qF t).1)
def snF (t : Nat) : Nat := sinF (qF t).1
def n0 (x : Nat) : Nat := fop .sub .f64 0 x
def phW (t : Nat) : Nat × Nat :=
  if (qF t).2 = 1 then (n0 (snF t), cF t) else if (qF t).2 = 2 then (n0 (cF t), n0 (snF t)) else if (qF t).2 = 3 then (snF t, n0 (cF t)) else (cF t, snF t)
def phF (t : Nat) : Nat × Nat := if fcmp .geq .f64 (fabs .f64 t) c52 then (1065353216, 0) else (fnarrow (phW t).1, fnarrow (phW t).2)
theorem n0_b {x : Nat} (h : bnd64 x 101) : bnd64 (n0 x) 102 := add_b (.inr rfl) (zero_b.mono (by omega)) h (by omega)
theorem c52_mg : mg .f64 c52 = c52 := by decide +kernel
theorem n52_mg : mg .f64 n52 = c52 := by decide +kernel
theorem n52_fs : fs .f64 n52 = true := by decide +kernel
theorem c52_fs : fs .f64 c52 = false := by decide +kernel
theorem fabs_fin {t : Nat} (h : mg .f64 t < inf .f64) : fabs .f64 t = mg .f64 t := by
  have hn : isNan .f64 t = false := by rw [isNan_mg]; exact decide_eq_false (by omega)
  unfold fabs
  rw [hn, if_neg (by decide)]
/-- Far from nought: the program's test and the reference's. -/
theorem far_iff {t : Nat} (h : mg .f64 t < inf .f64) : fcmp .geq .f64 (fabs .f64 t) c52 = !decide (mg .f64 t < c52) := by
  rw [fabs_fin h, fcmp_fin (by rw [mg_mod]; exact h) (by rw [c52_mg]; exact c52_inf)]
  have e1 : sv .f64 c52 = (vl .f64 c52 : Int) := by unfold sv; rw [c52_fs, c52_mg]; rfl
  have e2 : sv .f64 (mg .f64 t) = (vl .f64 (mg .f64 t) : Int) := sv_small (Nat.le_of_lt h)
  rw [e1, e2]
  by_cases h1 : mg .f64 t < c52
  · rw [decide_eq_true h1]
    refine decide_eq_false fun h2 => ?_
    have := (vl_le (k := .f64)).1 (Int.ofNat_le.1 h2)
    omega
  · rw [decide_eq_false h1]
    exact decide_eq_true (Int.ofNat_le.2 ((vl_le (k := .f64)).2 (by omega)))
theorem far_geq {t : Nat} (h : mg .f64 t < c52) : fcmp .geq .f64 t c52 = false ∧ fcmp .leq .f64 t n52 = false := by
  have hi := Nat.lt_trans h c52_inf
  have e1 : sv .f64 c52 = (vl .f64 c52 : Int) := by unfold sv; rw [c52_fs, c52_mg]; rfl
  have e2 : sv .f64 n52 = -(vl .f64 c52 : Int) := by unfold sv; rw [n52_fs, n52_mg]; rfl
  have hv : vl .f64 (mg .f64 t) < vl .f64 c52 := Nat.lt_of_not_le fun h2 => Nat.not_le_of_lt h ((vl_le (k := .f64)).1 h2)
  refine ⟨?_, ?_⟩
  · rw [fcmp_fin hi (by rw [c52_mg]; exact c52_inf), e1]
    refine decide_eq_false ?_
    unfold sv
    split <;> omega
  · rw [fcmp_fin hi (by rw [n52_mg]; exact c52_inf), e2]
    refine decide_eq_false ?_
    unfold sv
    split <;> omega
theorem far_leq {t : Nat} (h : mg .f64 t < inf .f64) (h1 : ¬ mg .f64 t < c52) : fcmp .geq .f64 t c52 = true ∨ (fcmp .geq .f64 t c52 = false ∧ fcmp .leq .f64 t n52 = true) := by
  have e1 : sv .f64 c52 = (vl .f64 c52 : Int) := by unfold sv; rw [c52_fs, c52_mg]; rfl
  have e2 : sv .f64 n52 = -(vl .f64 c52 : Int) := by unfold sv; rw [n52_fs, n52_mg]; rfl
  have hv : vl .f64 c52 ≤ vl .f64 (mg .f64 t) := (vl_le (k := .f64)).2 (by omega)
  have hp : 0 < vl .f64 c52 := by rw [vl_c52]; exact Nat.mul_pos (by decide) (tp_pos _)
  rw [fcmp_fin h (by rw [c52_mg]; exact c52_inf), e1, fcmp_fin h (by rw [n52_mg]; exact c52_inf), e2]
  cases hf : fs .f64 t with
  | false => left; refine decide_eq_true ?_; unfold sv; rw [hf, if_neg (by decide)]; omega
  | true =>
    right
    refine ⟨decide_eq_false ?_, decide_eq_true ?_⟩ <;> (unfold sv; rw [hf, if_pos rfl]; omega)
theorem qF_ok {t : Nat} (h : mg .f64 t < c52) : mg .f64 (qF t).1 ≤ one64 := by
  have key : ∀ n j f, n + j = 4 → okF f (qB j) → mg .f64 (qres n f j).1 ≤ one64 := by
    intro n
    induction n with
    | zero => intro j f _ hf; exact Nat.le_trans hf.2 (qB_le _)
    | succ n ih =>
      intro j f hj hf
      cases hq : fcmp .geq .f64 f q25 with
      | true => rw [qres_go hq]; exact ih (j + 1) _ (by omega) (q_step (by omega) hf hq)
      | false => rw [qres_stop hq]; exact Nat.le_trans hf.2 (qB_le _)
  exact key 4 0 _ rfl (frF_ok h)
theorem pw1_c52 : pw 1 < c52 := by decide +kernel
theorem one_c52 : one64 < c52 := by decide +kernel
theorem cArg {t : Nat} (h : mg .f64 t < c52) : mg .f64 (fop .sub .f64 q25 (qF t).1) < c52 := Nat.lt_of_le_of_lt (add_b (.inr rfl) q25_b (bnd_one (qF_ok h)) (by omega)) pw1_c52
theorem sArg {t : Nat} (h : mg .f64 t < c52) : mg .f64 (qF t).1 < c52 := Nat.lt_of_le_of_lt (qF_ok h) one_c52
theorem phW_b {t : Nat} (h : mg .f64 t < c52) : bnd64 (phW t).1 102 ∧ bnd64 (phW t).2 102 := by
  have hc : bnd64 (cF t) 101 := sinF_b (cArg h)
  have hs : bnd64 (snF t) 101 := sinF_b (sArg h)
  unfold phW
  split
  · exact ⟨n0_b hs, hc.mono (by omega)⟩
  · split
    · exact ⟨n0_b hc, n0_b hs⟩
    · split
      · exact ⟨hs.mono (by omega), n0_b hc⟩
      · exact ⟨hc.mono (by omega), hs.mono (by omega)⟩
end Go.Proofs.Ytnjgcacnfobmiaa.tr
