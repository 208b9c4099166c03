/- The fraction of a float: the reference cuts it off by way of an int64, the program by math.Trunc. Plain law. -/
import Derived.Test.YtnjgcacnfobmiaaFlr
namespace Go.Proofs.Ytnjgcacnfobmiaa.tr
open Go.RowKit
set_option maxRecDepth 100000
set_option linter.unusedVariables false

def one64 : Nat := 4607182418800017408
def q25 : Nat := 4598175219545276416
def half64 : Nat := 4602678819172646912
def tau64 : Nat := 4618760256179416344
def c52 : Nat := 4841369599423283200
def n52 : Nat := 14064741636278059008
/-- The whole part. -/
def whl (s : Nat) : Nat := vl .f64 (mg .f64 s) / tp 4096
def whI (s : Nat) : Int := if fs .f64 s then -(whl s : Int) else (whl s : Int)
def truncF (s : Nat) : Nat := FloatKind.f64.encode ((FloatKind.f64.decode s).integral .zero)
theorem trunc_dat {s : Nat} (h : mg .f64 s < inf .f64) : (FloatKind.f64.decode s).integral .zero = .number (fs .f64 s) (whl s) 0 := by
  obtain ⟨m, e, e1, h1, h2⟩ := read_fin h
  have e2 : FloatKind.f64.decode s = .number (fs .f64 s) m e := e1
  rw [e2]
  unfold Ieee.Datum.integral
  simp only []
  rw [cut_zero, whole_nv h1, h2]
  rfl
theorem trunc_int {s : Nat} (h : mg .f64 s < inf .f64) : (FloatKind.f64.decode s).toInt .zero = some (whI s) := by
  unfold Ieee.Datum.toInt
  rw [trunc_dat h]
  simp only [Ieee.signed, Nat.shiftLeft_zero]
  rfl
theorem vl_c52 : vl .f64 c52 = 4503599627370496 * tp 4096 := by decide +kernel
theorem vl_one : vl .f64 one64 = tp 4096 := by decide +kernel
theorem nv0 (M : Nat) : nv M 0 = M * tp 4096 := by unfold nv tp; rw [show ((0 : Int) + 4096).toNat = 4096 from rfl]
theorem c52_inf : c52 < inf .f64 := by decide +kernel
theorem whl_lt {s : Nat} (h : mg .f64 s < c52) : whl s < 4503599627370496 := by
  show vl .f64 (mg .f64 s) / tp 4096 < _
  have h1 : vl .f64 (mg .f64 s) < vl .f64 c52 := Nat.lt_of_not_le fun h2 => Nat.not_le_of_lt h ((vl_le (k := .f64)).1 h2)
  rw [vl_c52] at h1
  generalize tp 4096 = c at h1 ⊢
  exact Nat.div_lt_of_lt_mul (by rw [Nat.mul_comm]; exact h1)
/-- The whole part as a float. -/
def whF (s : Nat) : Nat := floatOfInt .f64 (whI s)
theorem zero_cases : ∀ sg : Bool, fcmp .eql .f64 (FloatKind.f64.encode (.number sg 0 0)) 0 = true := by decide +kernel
theorem ofInt_zero : floatOfInt .f64 0 = 0 := by decide +kernel
theorem encode_mk (sg : Bool) (M : Nat) : FloatKind.f64.encode (.number sg M 0) = mk .f64 sg (RR FloatKind.f64.format (nv M 0)) := nearest_mk .f64 sg M 0 (by omega)
theorem RR_whole {M : Nat} (h : M < 4503599627370496) : RR FloatKind.f64.format (nv M 0) < inf .f64 := by
  have h1 : RR FloatKind.f64.format (nv M 0) ≤ RR FloatKind.f64.format (vl .f64 c52) := RR_mono _ (by rw [vl_c52, nv0]; exact Nat.mul_le_mul_right _ (Nat.le_of_lt h))
  rw [RR_vl .f64 (Nat.le_of_lt c52_inf)] at h1
  exact Nat.lt_of_le_of_lt h1 c52_inf
theorem vl_whole {M : Nat} (h : M < 4503599627370496) : vl .f64 (RR FloatKind.f64.format (nv M 0)) = M * tp 4096 := by
  rw [vl_exact .f64 M 0 (Nat.lt_of_lt_of_le h (by decide)) (by decide) (RR_whole h)]
  exact nv0 M
/-- The program's whole part is the reference's. -/
theorem trunc_eq {s : Nat} (h : mg .f64 s < c52) : (if fcmp .eql .f64 (truncF s) 0 then 0 else truncF s) = whF s := by
  have hi : mg .f64 s < inf .f64 := Nat.lt_trans h c52_inf
  have hw := whl_lt h
  unfold truncF whF whI
  rw [trunc_dat hi]
  generalize whl s = M at hw
  rcases Nat.eq_zero_or_pos M with rfl | hM
  · rw [zero_cases, if_pos rfl]
    cases fs .f64 s <;> exact ofInt_zero.symm
  · have e1 : floatOfInt .f64 (if fs .f64 s then -(M : Int) else (M : Int)) = FloatKind.f64.encode (.number (fs .f64 s) M 0) := by
      unfold floatOfInt FloatKind.nearest
      cases fs .f64 s with
      | true =>
        simp only [if_true]
        rw [show decide (-(M : Int) < 0) = true from decide_eq_true (by omega), show (-(M : Int)).natAbs = M by omega]
      | false =>
        simp only [Bool.false_eq_true, if_false]
        rw [show decide ((M : Int) < 0) = false from decide_eq_false (by omega), show ((M : Int)).natAbs = M by omega]
    rw [e1]
    have hr := RR_whole hw
    have hv := vl_whole hw
    have hne : fcmp .eql .f64 (FloatKind.f64.encode (.number (fs .f64 s) M 0)) 0 = false := by
      rw [encode_mk, fcmp_fin (by rw [mg_mk _ _ (Nat.le_of_lt hr)]; exact hr) (by decide +kernel)]
      simp only [decide_eq_false_iff_not]
      have h0 : sv .f64 0 = 0 := by decide +kernel
      rw [h0]
      unfold sv
      rw [mg_mk _ _ (Nat.le_of_lt hr), hv]
      have hp : 0 < M * tp 4096 := Nat.mul_pos hM (tp_pos _)
      split <;> omega
    rw [hne, if_neg (by decide)]
theorem whF_parts {s : Nat} (h : mg .f64 s < c52) : mg .f64 (whF s) < inf .f64 ∧ vl .f64 (mg .f64 (whF s)) = whl s * tp 4096 ∧ (whl s ≠ 0 → fs .f64 (whF s) = fs .f64 s) := by
  have hw := whl_lt h
  have hr := RR_whole hw
  have hv := vl_whole hw
  have e : ∃ sg, whF s = mk .f64 sg (RR FloatKind.f64.format (nv (whl s) 0)) ∧ (whl s ≠ 0 → sg = fs .f64 s) := by
    unfold whF whI floatOfInt FloatKind.nearest
    rw [encode_mk]
    cases fs .f64 s with
    | true =>
      simp only [if_true]
      refine ⟨_, by rw [show (-(whl s : Int)).natAbs = whl s by omega], fun hne => decide_eq_true (by omega)⟩
    | false =>
      simp only [Bool.false_eq_true, if_false]
      refine ⟨_, by rw [show ((whl s : Int)).natAbs = whl s by omega], fun hne => decide_eq_false (by omega)⟩
  obtain ⟨sg, e, hsg⟩ := e
  rw [e, mg_mk _ _ (Nat.le_of_lt hr), fs_mk _ _ (Nat.le_of_lt hr)]
  exact ⟨hr, hv, hsg⟩
/-- The fraction. -/
def fr0 (s : Nat) : Nat := fop .sub .f64 s (whF s)
def frF (s : Nat) : Nat := if fcmp .lss .f64 (fr0 s) 0 then fop .add .f64 (fr0 s) one64 else fr0 s
def okF (f B : Nat) : Prop := (fs .f64 f = false ∨ mg .f64 f = 0) ∧ mg .f64 f ≤ B
theorem one_inf : one64 < inf .f64 := by decide +kernel
theorem one_mg : mg .f64 one64 = one64 := by decide +kernel
theorem one_fs : fs .f64 one64 = false := by decide +kernel
theorem RR_one : RR FloatKind.f64.format (tp 4096) = one64 := by rw [← vl_one]; exact RR_vl .f64 (Nat.le_of_lt one_inf)
theorem mk_mg {u : Bool} {T : Nat} : mg .f64 (mk .f64 u (RR FloatKind.f64.format T)) = RR FloatKind.f64.format T := mg_mk .f64 u (RR_inf .f64 T)
theorem fr0_ok {s : Nat} (h : mg .f64 s < c52) : mg .f64 (fr0 s) ≤ one64 := by
  obtain ⟨h1, h2, h3⟩ := whF_parts h
  obtain ⟨u, T, e, ha, hb⟩ := sub_fin (k := .f64) (x := s) (y := whF s) (Nat.lt_trans h c52_inf) h1
  unfold fr0
  rw [e, mk_mg, ← RR_one]
  refine RR_mono _ ?_
  have hd : vl .f64 (mg .f64 s) < whl s * tp 4096 + tp 4096 := by
    have := Nat.lt_div_mul_add (a := vl .f64 (mg .f64 s)) (tp_pos 4096)
    exact this
  have hdl : whl s * tp 4096 ≤ vl .f64 (mg .f64 s) := Nat.div_mul_le_self _ _
  rw [h2] at ha hb
  by_cases hs : fs .f64 s = fs .f64 (whF s)
  · obtain ⟨hT, _⟩ := hb hs
    omega
  · obtain ⟨_, hT⟩ := ha hs
    have h0 : whl s = 0 := by
      rcases Nat.eq_zero_or_pos (whl s) with h0 | h0
      · exact h0
      · exact absurd (h3 (by omega)).symm hs
    rw [h0] at hT hd
    omega
theorem zero_fin64 : mg .f64 0 < inf .f64 := by decide +kernel
theorem sv_zero64 : sv .f64 0 = 0 := by decide +kernel
theorem frF_ok {s : Nat} (h : mg .f64 s < c52) : okF (frF s) one64 := by
  have h1 := fr0_ok h
  have hi : mg .f64 (fr0 s) < inf .f64 := Nat.lt_of_le_of_lt h1 one_inf
  unfold frF
  cases hq : fcmp .lss .f64 (fr0 s) 0 with
  | true =>
    rw [if_pos rfl]
    rw [fcmp_fin hi zero_fin64, sv_zero64] at hq
    have hq' : sv .f64 (fr0 s) < 0 := of_decide_eq_true hq
    have hfs : fs .f64 (fr0 s) = true := by
      cases hf : fs .f64 (fr0 s) with
      | true => rfl
      | false => unfold sv at hq'; rw [hf] at hq'; simp at hq'; omega
    obtain ⟨u, T, e, ha, hb⟩ := add_fin (k := .f64) (x := fr0 s) (y := one64) hi (by rw [one_mg]; exact one_inf)
    rw [e]
    obtain ⟨hT, _, hu⟩ := hb (by rw [hfs, one_fs]; decide)
    rw [one_mg, vl_one] at hT hu
    have hle : vl .f64 (mg .f64 (fr0 s)) ≤ tp 4096 := by rw [← vl_one]; exact (vl_le (k := .f64)).2 h1
    refine ⟨?_, by rw [mk_mg, ← RR_one]; exact RR_mono _ (by omega)⟩
    rcases Nat.lt_or_eq_of_le hle with hl | hl
    · left; rw [hu hl, fs_mk .f64 _ (RR_inf .f64 T)]; exact one_fs
    · right; rw [mk_mg, show T = 0 by omega, RR_zero]
  | false =>
    rw [if_neg (by decide)]
    rw [fcmp_fin hi zero_fin64, sv_zero64] at hq
    have hq' : ¬ sv .f64 (fr0 s) < 0 := of_decide_eq_false hq
    refine ⟨?_, h1⟩
    cases hf : fs .f64 (fr0 s) with
    | false => exact .inl rfl
    | true =>
      right
      unfold sv at hq'
      rw [hf, if_pos rfl] at hq'
      exact vl_pos (k := .f64) (by omega)
/-- A quarter is taken off. -/
def qB : Nat → Nat
  | 0 => 4607182418800017408
  | 1 => 4604930618986332160
  | 2 => 4602678819172646912
  | 3 => 4598175219545276416
  | _ => 0
theorem qB_inf : ∀ j, j < 4 → qB j < inf .f64 ∧ vl .f64 (qB j) - vl .f64 q25 = vl .f64 (qB (j + 1)) ∧ qB (j + 1) ≤ inf .f64 := by decide +kernel
theorem q25_mg : mg .f64 q25 = q25 := by decide +kernel
theorem q25_inf : q25 < inf .f64 := by decide +kernel
theorem q25_fs : fs .f64 q25 = false := by decide +kernel
theorem q25_pos : 0 < vl .f64 q25 := by decide +kernel
theorem sv_q25 : sv .f64 q25 = (vl .f64 q25 : Int) := by unfold sv; rw [q25_fs, q25_mg]; rfl
theorem q_step {f j : Nat} (hj : j < 4) (h : okF f (qB j)) (hq : fcmp .geq .f64 f q25 = true) : okF (fop .sub .f64 f q25) (qB (j + 1)) := by
  obtain ⟨b1, b2, b3⟩ := qB_inf j hj
  have hi : mg .f64 f < inf .f64 := Nat.lt_of_le_of_lt h.2 b1
  rw [fcmp_fin hi (by rw [q25_mg]; exact q25_inf), sv_q25] at hq
  have hq' : (vl .f64 q25 : Int) ≤ sv .f64 f := of_decide_eq_true hq
  have hp := q25_pos
  have hfs : fs .f64 f = false := by
    cases hf : fs .f64 f with
    | false => rfl
    | true => unfold sv at hq'; rw [hf, if_pos rfl] at hq'; omega
  have hge : vl .f64 q25 ≤ vl .f64 (mg .f64 f) := by unfold sv at hq'; rw [hfs] at hq'; simpa using hq'
  obtain ⟨u, T, e, ha, hb⟩ := sub_fin (k := .f64) (x := f) (y := q25) hi (by rw [q25_mg]; exact q25_inf)
  obtain ⟨hT, hu, _⟩ := hb (by rw [hfs, q25_fs])
  rw [q25_mg] at hT hu
  rw [e]
  have hle : vl .f64 (mg .f64 f) ≤ vl .f64 (qB j) := (vl_le (k := .f64)).2 h.2
  refine ⟨?_, ?_⟩
  · rcases Nat.lt_or_eq_of_le hge with hl | hl
    · left; rw [hu hl, fs_mk .f64 _ (RR_inf .f64 T)]; exact hfs
    · right; rw [mk_mg, show T = 0 by omega, RR_zero]
  · rw [mk_mg, ← RR_vl .f64 b3]
    refine RR_mono _ ?_
    omega
theorem q_end {f : Nat} (h : okF f (qB 4)) : fcmp .geq .f64 f q25 = false := by
  have h0 : mg .f64 f = 0 := Nat.le_zero.1 h.2
  rw [fcmp_fin (by rw [h0]; decide +kernel) (by rw [q25_mg]; exact q25_inf), sv_q25]
  refine decide_eq_false ?_
  unfold sv
  rw [h0, vl_zero]
  have := q25_pos
  split <;> omega
theorem qB_le : ∀ j, qB j ≤ one64 := fun j => by
  unfold qB one64
  split <;> omega
/-- Quarters are taken off as long as it goes. -/
def qres : Nat → Nat → Nat → Nat × Nat
  | 0, f, q => (f, q)
  | n + 1, f, q => if fcmp .geq .f64 f q25 then qres n (fop .sub .f64 f q25) (q + 1) else (f, q)
theorem qres_go {n f q : Nat} (h : fcmp .geq .f64 f q25 = true) : qres (n + 1) f q = qres n (fop .sub .f64 f q25) (q + 1) := by
  rw [qres, h]; rfl
theorem qres_stop {n f q : Nat} (h : fcmp .geq .f64 f q25 = false) : qres n f q = (f, q) := by
  cases n with
  | zero => rfl
  | succ n => rw [qres, h]; rfl
end Go.Proofs.Ytnjgcacnfobmiaa.tr
