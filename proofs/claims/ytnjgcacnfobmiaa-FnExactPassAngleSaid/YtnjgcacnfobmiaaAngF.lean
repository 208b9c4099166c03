/- ReflectAngle and PassAngle in plain functions; when their quotient narrows. -/
import Derived.Test.YtnjgcacnfobmiaaCpxF
import Derived.Test.YtnjgcacnfobmiaaFHead
namespace Go.Proofs.Ytnjgcacnfobmiaa
open Ieee
set_option linter.unusedVariables false

def hdG (n : Nat) (l : List Nat) (s d k : Nat) : Nat := if k < n then fop .mul .f32 (lay l k 2) (lay l k 1) else fop .mul .f32 d s
def bhdC (s : Nat) : Nat × Nat := if fcmp .lss .f32 s (canon .f32 1065353216) then (cosV s, canon .f32 0) else (canon .f32 0, rootF (fop .sub .f32 (fop .mul .f32 s s) (canon .f32 1065353216)))
def angZ (c h1 : Nat) (z : Nat × Nat) (h0 : Nat) : Nat × Nat := quoC (csub (scl (c, canon .f32 0) h1) (scl z h0)) (cadd (scl (c, canon .f32 0) h1) (scl z h0))
def angG (n : Nat) (l : List Nat) (s d k p : Nat) : Option (Nat × Nat) := match cosO n l s k p with
  | some c => if finK .f32 (angZ c (hdG n l s d (k + 1)) (bhdC (sinG n l s (k + 1) p)) (hdG n l s d k)).1 && finK .f32 (angZ c (hdG n l s d (k + 1)) (bhdC (sinG n l s (k + 1) p)) (hdG n l s d k)).2 then some (angZ c (hdG n l s d (k + 1)) (bhdC (sinG n l s (k + 1) p)) (hdG n l s d k)) else none
  | none => none
def angO (n : Nat) (l : List Nat) (s d : Nat) (k : Int) (p : Nat) : Option (Nat × Nat) := if bndB n l s d k && slowB p then angG n l s d k.toNat p else none
def one1 : Nat × Nat := (canon .f32 1065353216, canon .f32 0)
def pasO (n : Nat) (l : List Nat) (s d : Nat) (k : Int) (p : Nat) : Option (Nat × Nat) := (angO n l s d k p).map (cadd one1)
theorem nn_nan : NN (nanOf .f32) := .inr (mg_nan _)
theorem nn_inf {s : Bool} (h : s = false) : NN (FloatKind.f32.format.write (.infinity s)) := by
  subst h
  exact .inl (fs_mk .f32 false (Nat.le_refl _))
theorem nn_mul {a b : Nat} (ha : NN a) (hb : NN b) : NN (fop .mul .f32 a b) := by
  rcases Nat.lt_trichotomy (mg .f32 a) (inf .f32) with h1 | h1 | h1
  · rcases Nat.lt_trichotomy (mg .f32 b) (inf .f32) with h2 | h2 | h2
    · obtain ⟨P, e, _⟩ := mul_fin (k := .f32) h1 h2
      have sa : fs .f32 a = false := by rcases ha with h | h; exact h; omega
      have sb : fs .f32 b = false := by rcases hb with h | h; exact h; omega
      rw [e, sa, sb]
      exact .inl (fs_mk .f32 _ (RR_inf _ _))
    · have sa : fs .f32 a = false := by rcases ha with h | h; exact h; omega
      have sb : fs .f32 b = false := by rcases hb with h | h; exact h; omega
      obtain ⟨m, e, e1, _, _⟩ := read_fin h1
      have e2 := read_inf (k := .f32) (b := b) h2
      by_cases hm : m = 0
      · subst hm
        rw [fop_none (by show FloatKind.f32.format.mul a b = none; unfold Format.mul; rw [e1, e2]; rfl)]
        exact nn_nan
      · rw [fop_of (op := .mul) (k := .f32) (x := a) (y := b) (r := FloatKind.f32.format.write (.infinity (fs .f32 a ^^ fs .f32 b))) (by show FloatKind.f32.format.mul a b = _; unfold Format.mul; rw [e1, e2]; simp [Datum.product, hm, Bool.xor_comm])]
        exact nn_inf (by rw [sa, sb]; rfl)
    · exact .inr (by rw [fop_none (floatBits_nan (.inr (by rw [isNan_mg]; simp; omega)))]; exact mg_nan _)
  · rcases Nat.lt_trichotomy (mg .f32 b) (inf .f32) with h2 | h2 | h2
    · have sa : fs .f32 a = false := by rcases ha with h | h; exact h; omega
      have sb : fs .f32 b = false := by rcases hb with h | h; exact h; omega
      obtain ⟨m, e, e1, _, _⟩ := read_fin h2
      have e2 := read_inf (k := .f32) (b := a) h1
      by_cases hm : m = 0
      · subst hm
        rw [fop_none (by show FloatKind.f32.format.mul a b = none; unfold Format.mul; rw [e1, e2]; rfl)]
        exact nn_nan
      · rw [fop_of (op := .mul) (k := .f32) (x := a) (y := b) (r := FloatKind.f32.format.write (.infinity (fs .f32 a ^^ fs .f32 b))) (by show FloatKind.f32.format.mul a b = _; unfold Format.mul; rw [e1, e2]; simp [Datum.product, hm])]
        exact nn_inf (by rw [sa, sb]; rfl)
    · have sa : fs .f32 a = false := by rcases ha with h | h; exact h; omega
      have sb : fs .f32 b = false := by rcases hb with h | h; exact h; omega
      have e1 := read_inf (k := .f32) (b := a) h1
      have e2 := read_inf (k := .f32) (b := b) h2
      rw [fop_of (op := .mul) (k := .f32) (x := a) (y := b) (r := FloatKind.f32.format.write (.infinity (fs .f32 a ^^ fs .f32 b))) (by show FloatKind.f32.format.mul a b = _; unfold Format.mul; rw [e1, e2]; rfl)]
      exact nn_inf (by rw [sa, sb]; rfl)
    · exact .inr (by rw [fop_none (floatBits_nan (.inr (by rw [isNan_mg]; simp; omega)))]; exact mg_nan _)
  · exact .inr (by rw [fop_none (floatBits_nan (.inl (by rw [isNan_mg]; simp; omega)))]; exact mg_nan _)
theorem nn_zero : NN (canon .f32 0) := .inl (by decide +kernel)
theorem Pos.nn {s : Nat} (h : Pos s) : NN s := .inl h.sg
theorem nn_le {s : Nat} (h : s ≤ inf .f32) : NN s := .inl (fs_small h)
theorem root_zero : NN (rootF 0) := .inl (by decide +kernel)
theorem root_inf : NN (rootF 2139095040) := .inl (by decide +kernel)
theorem nn_root {t : Nat} (h : t ≤ inf .f32) : NN (rootF t) := by
  rcases Nat.lt_or_eq_of_le h with h1 | h1
  · rcases Nat.eq_zero_or_pos t with h2 | h2
    · subst h2; exact root_zero
    · exact (root_pos (pos_of h2 h1)).nn
  · rw [h1, inf32]; exact root_inf
theorem mk_neg0 : mk .f32 true 0 = 2147483648 := by decide +kernel
/-- A sine of a slowness. -/
theorem sin_cases {p v : Nat} (hp : slowB p = true) (hv : Pos v) : fop .mul .f32 p v ≤ inf .f32 ∨ fop .mul .f32 p v = 2147483648 := by
  unfold slowB at hp
  rcases Nat.lt_trichotomy (mg .f32 p) (inf .f32) with h1 | h1 | h1
  · rw [fcmp_fin h1 zero_fin0] at hp
    have h2 : sv .f32 (canon .f32 0) ≤ sv .f32 p := of_decide_eq_true hp
    rw [sv_zero0] at h2
    obtain ⟨P, e, h3⟩ := mul_fin (k := .f32) h1 hv.hi
    rw [e, hv.sg, Bool.xor_false]
    cases hs : fs .f32 p with
    | false => rw [mk_false]; exact .inl (RR_inf _ _)
    | true =>
      unfold sv at h2
      rw [hs] at h2
      simp only [if_true] at h2
      have h4 : vl .f32 (mg .f32 p) = 0 := by omega
      rw [h4, Nat.zero_mul] at h3
      have h5 : P = 0 := by
        rcases Nat.mul_eq_zero.1 h3 with h6 | h6
        · exact h6
        · exact absurd h6 (by unfold nv; rw [Nat.one_mul]; exact Nat.ne_of_gt (Nat.two_pow_pos _))
      rw [h5, RR_zero, mk_neg0]
      exact .inr rfl
  · have e1 := read_inf (k := .f32) (b := p) h1
    cases hs : fs .f32 p with
    | false =>
      rw [hs] at e1
      obtain ⟨m, i, e3, h3, h4⟩ := read_fin hv.hi
      have hm : m ≠ 0 := fun h => by
        have := vl_ne hv.lo
        rw [← h4] at this
        exact nv_ne this h
      have h5 : fop .mul .f32 p v = inf .f32 := by
        apply fop_of
        show FloatKind.f32.format.mul p v = _
        unfold Format.mul
        rw [e1, e3, hv.sg]
        simp only [Datum.product, if_neg hm]
        rfl
      exact .inl (by rw [h5]; exact Nat.le_refl _)
    | true =>
      rw [hs] at e1
      obtain ⟨m, i, e3, _, _⟩ := read_fin zero_fin0
      have : FloatKind.f32.format.order p (canon .f32 0) = some .lt := by
        unfold Format.order
        rw [e1, e3]; rfl
      unfold fcmp at hp
      rw [this] at hp
      cases hp
  · rw [fcmp_nan (.inl (by rw [isNan_mg]; simp; omega))] at hp
    cases hp
theorem sin_not {s : Nat} (h : s ≤ inf .f32 ∨ s = 2147483648) : isNan .f32 s = false := by
  rcases h with h | h
  · exact nan_of_le h
  · subst h; decide +kernel
theorem geq_lss {s : Nat} (h : s ≤ inf .f32 ∨ s = 2147483648) : fcmp .geq .f32 s (canon .f32 1065353216) = !fcmp .lss .f32 s (canon .f32 1065353216) := by
  obtain ⟨o, ho⟩ := order_total (k := .f32) (sin_not h) (show isNan .f32 (canon .f32 1065353216) = false by decide +kernel)
  unfold fcmp
  rw [ho]
  cases o <;> rfl
theorem cos_neg0 : NN (cosV 2147483648) := .inl (by decide +kernel)
theorem cos_nn {s : Nat} (h : s ≤ inf .f32 ∨ s = 2147483648) (hq : fcmp .lss .f32 s (canon .f32 1065353216) = true) : NN (cosV s) := by
  rcases h with h | h
  · rw [one_eq, fcmp_small h one_le] at hq
    exact (cos_pos (of_decide_eq_true hq)).nn
  · subst h; exact cos_neg0
theorem one_sq : mg .f32 (fop .mul .f32 1065353216 1065353216) = 1065353216 := by decide +kernel
theorem one_one : fop .sub .f32 1065353216 1065353216 ≤ inf .f32 := by decide +kernel
theorem inf_one : fop .sub .f32 2139095040 1065353216 ≤ inf .f32 := by decide +kernel
theorem inf_sq : fop .mul .f32 2139095040 2139095040 = 2139095040 := by decide +kernel
theorem sub_one {u : Nat} (h : u ≤ inf .f32) (h1 : 1065353216 ≤ u) : fop .sub .f32 u 1065353216 ≤ inf .f32 := by
  have hi := inf32
  rcases Nat.lt_or_eq_of_le h with h2 | h2
  · rcases Nat.lt_or_eq_of_le h1 with h3 | h3
    · have ru : mg .f32 u = u := mg_small h
      have r1 : mg .f32 1065353216 = 1065353216 := mg_small one_le
      have su := fs_small h
      have s1 : fs .f32 1065353216 = false := fs_small one_le
      obtain ⟨v, T, e, _, h4⟩ := sub_fin (k := .f32) (x := u) (y := 1065353216) (by omega) (by omega)
      have h5 := (h4 (by rw [su, s1])).2.1 (by
        rw [ru, r1]
        have h6 : ¬ vl .f32 u ≤ vl .f32 1065353216 := by rw [vl_le]; omega
        omega)
      rw [e, h5, su, mk_false]
      exact RR_inf _ _
    · rw [← h3]; exact one_one
  · rw [h2, hi]; exact inf_one
theorem beh_nn {s : Nat} (h : s ≤ inf .f32 ∨ s = 2147483648) : NN (bhdC s).1 ∧ NN (bhdC s).2 := by
  unfold bhdC
  cases hq : fcmp .lss .f32 s (canon .f32 1065353216) with
  | true => exact ⟨cos_nn h hq, nn_zero⟩
  | false =>
    refine ⟨nn_zero, ?_⟩
    show NN (rootF _)
    have hi := inf32
    rcases h with h | h
    · have h1 : 1065353216 ≤ s := by
        rw [one_eq, fcmp_small h one_le] at hq
        have := of_decide_eq_false hq
        omega
      rw [one_eq]
      apply nn_root
      rcases Nat.lt_or_eq_of_le h with h2 | h2
      · have rs : mg .f32 s = s := mg_small h
        have r1 : mg .f32 1065353216 = 1065353216 := mg_small one_le
        obtain ⟨P, e, _⟩ := mul_fin (k := .f32) (x := s) (y := s) (by omega) (by omega)
        rw [Bool.xor_self, mk_false] at e
        have h3 := mul_lim (k := .f32) (x := 1065353216) (y := 1065353216) (X := s) (Y := s) h2 h2 (by omega) (by omega)
        have hle : fop .mul .f32 s s ≤ inf .f32 := by rw [e]; exact RR_inf _ _
        rw [one_sq, mg_small hle] at h3
        exact sub_one hle h3
      · rw [h2, hi, inf_sq]; exact sub_one (by omega) (by omega)
    · subst h
      have : fcmp .lss .f32 2147483648 (canon .f32 1065353216) = true := by decide +kernel
      rw [this] at hq; cases hq
theorem lay_pos2 {n j : Nat} {l : List Nat} {s d : Nat} (hg : grdB n l s d = true) (hj : j < n) : Pos (lay l j 2) := by
  rw [grdB_eq] at hg
  simp only [Bool.and_eq_true] at hg
  have h := layAll_at hj hg.2.2.2
  unfold layB at h
  simp only [Bool.and_eq_true] at h
  exact hardB_pos h.2.2.1
theorem hd_nn {n k : Nat} {l : List Nat} {s d : Nat} (hg : grdB n l s d = true) : NN (hdG n l s d k) := by
  unfold hdG
  split
  · rename_i h
    exact nn_mul (lay_pos2 hg h).nn (lay_pos hg h).2.nn
  · rw [grdB_eq] at hg
    simp only [Bool.and_eq_true] at hg
    exact nn_mul (hardB_pos hg.2.2.1).nn (hardB_pos hg.2.1).nn
theorem ang_ok {n k p c : Nat} {l : List Nat} {s d : Nat} (hg : grdB n l s d = true) (hp : slowB p = true) (hc : cosO n l s k p = some c) (z : Nat × Nat) (hz : NN z.1 ∧ NN z.2) :
    quoOk (csub (scl (c, canon .f32 0) (hdG n l s d (k + 1))) (scl z (hdG n l s d k))) (cadd (scl (c, canon .f32 0) (hdG n l s d (k + 1))) (scl z (hdG n l s d k))) := by
  have hcn : NN c := by
    unfold cosO at hc
    cases hq : fcmp .lss .f32 (sinG n l s k p) (canon .f32 1065353216) with
    | false => rw [hq] at hc; cases hc
    | true => rw [hq] at hc; injection hc with hc; subst hc; exact cos_nn (sin_cases hp (spd_pos hg)) hq
  exact quoOk_of (nn_mul hcn (hd_nn hg)) (nn_mul nn_zero (hd_nn hg)) (nn_mul hz.1 (hd_nn hg)) (nn_mul hz.2 (hd_nn hg))
theorem plus_fin {x : Nat} (h : finK .f32 x = true) : finK .f32 (fop .add .f32 (canon .f32 1065353216) x) = true ∧ finK .f32 (fop .add .f32 (canon .f32 0) x) = true := by
  have h1 := finK_mg h
  have hi := inf32
  have b1 : mg .f32 (fop .add .f32 1065353216 2139095039) < inf .f32 := by decide +kernel
  have b0 : mg .f32 (fop .add .f32 0 2139095039) < inf .f32 := by decide +kernel
  have c1 : mg .f32 (canon .f32 1065353216) ≤ 1065353216 := by decide +kernel
  have c0 : mg .f32 (canon .f32 0) ≤ 0 := by decide +kernel
  exact ⟨mg_finK (Nat.lt_of_le_of_lt (addsub_lim (.inl rfl) (by omega) (by omega) c1 (by omega)) b1), mg_finK (Nat.lt_of_le_of_lt (addsub_lim (.inl rfl) (by omega) (by omega) c0 (by omega)) b0)⟩
end Go.Proofs.Ytnjgcacnfobmiaa
