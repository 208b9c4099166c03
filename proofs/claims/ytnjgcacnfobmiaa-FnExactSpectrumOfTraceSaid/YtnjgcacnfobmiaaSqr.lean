/- The square root of a float, narrowed again. -/
import Derived.Test.YtnjgcacnfobmiaaNar
import Derived.Test.YtnjgcacnfobmiaaFin
import Derived.Laws.Externs
namespace Go.Proofs.Ytnjgcacnfobmiaa
open Go.RowKit
set_option maxRecDepth 100000
set_option linter.unusedVariables false

theorem rootFrom_sq (n : Nat) : ∀ todo r, r * r ≤ n → Ieee.Datum.rootFrom n todo r * Ieee.Datum.rootFrom n todo r ≤ n := by
  intro todo
  induction todo with
  | zero => intro r h; exact h
  | succ t ih =>
    intro r h
    unfold Ieee.Datum.rootFrom
    apply ih
    split <;> assumption
def fsqrt (s : Nat) : Nat := (FloatKind.f64.format.sqrt s).getD (nanOf .f64)
def tp (n : Nat) : Nat := 2 ^ n
theorem tp_add (a b : Nat) : tp a * tp b = tp (a + b) := (Nat.pow_add 2 a b).symm
theorem tp_pos (a : Nat) : 0 < tp a := Nat.two_pow_pos a
theorem tp_le {a b : Nat} (h : a ≤ b) : tp a ≤ tp b := Nat.pow_le_pow_right (by omega) h
theorem tp_lt {a b : Nat} (h : tp a < tp b) : a < b := (Nat.pow_lt_pow_iff_right (by omega)).1 h
theorem tp_succ (n : Nat) : tp (n + 1) = tp n + tp n := by unfold tp; rw [Nat.pow_succ, Nat.mul_two]
theorem vl_inf32 : vl .f32 (inf .f32) = tp 4224 := by decide +kernel
theorem big_fin64 : RR FloatKind.f64.format (tp 4161) < inf .f64 := by decide +kernel
theorem big_vl64 : vl .f64 (RR FloatKind.f64.format (tp 4161)) = tp 4161 := by decide +kernel
theorem big_fin32 : RR FloatKind.f32.format (tp 4161) < inf .f32 := by decide +kernel
/-- What is at most 2^65 narrows. -/
theorem narrow_of_le (s : Bool) {N : Nat} (h : N ≤ tp 4161) : narrowOk (mk .f64 s (RR FloatKind.f64.format N)) = true := by
  have h1 : RR FloatKind.f64.format N ≤ RR FloatKind.f64.format (tp 4161) := RR_mono _ h
  have h2 : RR FloatKind.f64.format N < inf .f64 := Nat.lt_of_le_of_lt h1 big_fin64
  have h3 := mg_mk .f64 s (Nat.le_of_lt h2)
  have h4 : vl .f64 (RR FloatKind.f64.format N) ≤ tp 4161 := by rw [← big_vl64]; exact vl_le.2 h1
  refine (narrow_fin (by rw [h3]; exact h2) ?_).2
  rw [h3]
  exact Nat.lt_of_le_of_lt (RR_mono _ h4) big_fin32
theorem narrow_nanOf : narrowOk (nanOf .f64) = true := narrow_not (Nat.le_of_lt (mg_nan _))
theorem root_bound {A m : Nat} {e q : Int} {more : Nat} (hA : A * A ≤ m * 2 ^ more) (he : e - more = 2 * q) (he0 : -1074 ≤ e) (hmore : more ≤ 200) (hm : m ≠ 0) (hv : nv m e < tp 4224) (b : Nat) (hb : b ≤ 1) :
    nv (2 * A + b) (q - 1) ≤ tp 4161 := by
  obtain ⟨E, hE⟩ : ∃ E : Nat, (E : Int) = e + 4096 := ⟨(e + 4096).toNat, by omega⟩
  obtain ⟨Q, hQ⟩ : ∃ Q : Nat, (Q : Int) = q - 1 + 4096 := ⟨(q - 1 + 4096).toNat, by omega⟩
  have hv' : m * tp E < tp 4224 := by
    have h : nv m e = m * tp E := by unfold nv tp; rw [show (e + 4096).toNat = E by omega]
    rw [← h]; exact hv
  have hg : nv (2 * A + b) (q - 1) = (2 * A + b) * tp Q := by unfold nv tp; rw [show (q - 1 + 4096).toNat = Q by omega]
  rw [hg]
  have hA' : A * A ≤ m * tp more := hA
  clear hv hg hA
  have hEm : 2 * Q + 2 + more = E + 4096 := by omega
  have hE2 : E < 4224 := tp_lt (Nat.lt_of_le_of_lt (Nat.le_mul_of_pos_left _ (by omega)) hv')
  have hQ2 : Q ≤ 4159 := by omega
  have h1 : (A * tp (Q + 1)) * (A * tp (Q + 1)) < tp 4160 * tp 4160 := by
    have e1 : (A * tp (Q + 1)) * (A * tp (Q + 1)) = (A * A) * tp (2 * Q + 2) := by
      rw [Nat.mul_mul_mul_comm, tp_add, show Q + 1 + (Q + 1) = 2 * Q + 2 by omega]
    have e2 : (m * tp more) * tp (2 * Q + 2) = (m * tp E) * tp 4096 := by
      rw [Nat.mul_assoc, Nat.mul_assoc, tp_add, tp_add, show more + (2 * Q + 2) = E + 4096 by omega]
    have e8 : tp 4160 * tp 4160 = tp 4224 * tp 4096 := by rw [tp_add, tp_add]
    rw [e1, e8]
    refine Nat.lt_of_le_of_lt (Nat.mul_le_mul_right _ hA') ?_
    rw [e2]
    exact Nat.mul_lt_mul_of_pos_right hv' (tp_pos _)
  have h2 : A * tp (Q + 1) < tp 4160 := Nat.mul_self_lt_mul_self_iff.1 h1
  have h3 : (2 * A + b) * tp Q = A * tp (Q + 1) + b * tp Q := by
    rw [Nat.add_mul, tp_succ, Nat.mul_add, Nat.mul_assoc, Nat.two_mul]
  have h4 : b * tp Q ≤ tp 4160 := by
    refine Nat.le_trans (Nat.mul_le_mul_right _ hb) ?_
    rw [Nat.one_mul]
    exact tp_le (by omega)
  have e9 : tp 4161 = tp 4160 + tp 4160 := tp_succ 4160
  rw [h3, e9]
  exact Nat.add_le_add (Nat.le_of_lt h2) h4
/-- The root of a wide number narrows. -/
theorem sqrt_narrow (t : Nat) : narrowOk (fsqrt (fwiden t)) = true := by
  rcases Nat.lt_trichotomy (mg .f32 t) (inf .f32) with h | h | h
  · obtain ⟨r, hr, e, hv⟩ := widen_fin h
    rw [e]
    have h1 := mg_mk .f64 (fs .f32 t) (Nat.le_of_lt hr)
    obtain ⟨m, i, e1, h2, h3⟩ := read_fin (b := mk .f64 (fs .f32 t) r) (by rw [h1]; exact hr)
    rw [h1, hv] at h3
    rw [fs_mk _ _ (Nat.le_of_lt hr)] at e1
    have h4 : nv m i < tp 4224 := by
      rw [h3, ← vl_inf32]
      unfold vl
      exact vg_lt h
    unfold fsqrt Ieee.Format.sqrt
    rw [e1]
    unfold Ieee.Datum.root
    by_cases hm : m = 0
    · subst hm
      simp only [if_true, Option.map_some, Option.getD_some]
      have e2 : FloatKind.f64.format.write (.number (fs .f32 t) 0 i) = mk .f64 (fs .f32 t) (RR FloatKind.f64.format (nv 0 i)) := nearest_mk .f64 _ 0 i (by omega)
      rw [e2]
      exact narrow_of_le _ (by unfold nv; omega)
    · simp only [if_neg hm]
      cases hs : fs .f32 t with
      | true => simp only [if_true, Option.map_none, Option.getD_none]; exact narrow_nanOf
      | false =>
        simp only [Bool.false_eq_true, if_false, Option.map_some, Option.getD_some]
        have hF : FloatKind.f64.format.fractionBits = 52 := rfl
        rw [hF]
        generalize hmo : 2 * (52 + 2) - m.log2 = mo
        have hmo2 : mo ≤ 108 := by omega
        generalize hmm : mo + ((i - (mo : Int)) % 2).toNat = more
        have hmore : more ≤ 200 := by omega
        obtain ⟨q, hq⟩ : ∃ q : Int, i - (more : Int) = 2 * q := ⟨(i - (more : Int)) / 2, by omega⟩
        have hq2 : (i - (more : Int)) / 2 = q := by omega
        rw [hq2]
        have hA := rootFrom_sq (m <<< more) ((m <<< more).log2 / 2 + 1) 0 (Nat.zero_le _)
        generalize hR : Ieee.Datum.rootFrom (m <<< more) ((m <<< more).log2 / 2 + 1) 0 = A at hA
        rw [Nat.shiftLeft_eq] at hA
        have e2 : FloatKind.f64.format.write (.number false (2 * A + (A * A != m <<< more).toNat) (q - 1)) = mk .f64 false (RR FloatKind.f64.format (nv (2 * A + (A * A != m <<< more).toNat) (q - 1))) := nearest_mk .f64 _ _ _ (by omega)
        rw [e2]
        exact narrow_of_le _ (root_bound hA hq h2 hmore hm h4 _ (by cases (A * A != m <<< more) <;> decide))
  · rw [widen_inf h]
    unfold fsqrt Ieee.Format.sqrt
    rw [read_inf (mg_mk _ _ (Nat.le_refl _)), fs_mk _ _ (Nat.le_refl _)]
    unfold Ieee.Datum.root
    cases fs .f32 t with
    | true => exact narrow_nanOf
    | false => exact narrow_not (by show inf .f64 ≤ mg .f64 (mk .f64 false (inf .f64)); rw [mg_mk _ _ (Nat.le_refl _)]; exact Nat.le_refl _)
  · rw [widen_nan h]
    have : fsqrt (nanOf .f64) = nanOf .f64 := by decide +kernel
    rw [this]
    exact narrow_nanOf
theorem sqrt_nan {x : Nat} (h : isNan .f64 x = true) : FloatKind.f64.format.sqrt x = none := by
  obtain ⟨s, t, e⟩ := read_nan h
  unfold Ieee.Format.sqrt
  rw [e]; rfl
theorem sqrt_canon (x : Nat) : FloatKind.f64.format.sqrt (canon .f64 x) = FloatKind.f64.format.sqrt x := by
  cases h : isNan .f64 x with
  | true => rw [sqrt_nan h, sqrt_nan (by rw [isNan_canon]; exact h)]
  | false => rw [canon_of_not h]
theorem sqrt_not {x r : Nat} (h : FloatKind.f64.format.sqrt x = some r) : isNan .f64 r = false := by
  unfold Ieee.Format.sqrt at h
  cases hd : Ieee.Datum.root (FloatKind.f64.format.fractionBits + 2) (FloatKind.f64.format.read x) with
  | none => rw [hd] at h; cases h
  | some d =>
    rw [hd] at h
    injection h with h
    subst h
    exact write_not _ (root_not hd)
def rootF (s : Nat) : Nat := fnarrow (fsqrt (fwiden s))

theorem sqrt_run (args : Array Value) (w : World) : (callFunc 203 args).run Try.prog w = ((Extern.MathSqrt.sqrt args).run Try.prog w).andThen fun v w' => .ok (.value v) w' :=
  run_callFunc_extern Try.func203 (by kernel_rfl) (by kernel_rfl) (by kernel_rfl) (by kernel_rfl) args w
theorem sqrt_at {b s : Nat} (hb : Is .f64 b s) (w : World) : ∃ r n, (callFunc 203 #[.float .f64 b]).run Try.prog w = .ok (.value (.float .f64 r)) (w.drewN n) ∧ Is .f64 r (fsqrt s) := by
  unfold Is at *
  subst hb
  rw [sqrt_run]
  have e : Extern.MathSqrt.sqrt #[.float .f64 b] = (match FloatKind.f64.format.sqrt b with | some r => pure (.float .f64 r) | none => do pure (.float .f64 (← choose (.nanBits .f64 b b)))) := rfl
  rw [e]
  cases h : FloatKind.f64.format.sqrt b with
  | some r =>
    refine ⟨r, 0, rfl, ?_⟩
    unfold fsqrt
    rw [sqrt_canon, h, canon_of_not (sqrt_not h)]; rfl
  | none =>
    refine ⟨(Question.nanBits .f64 b b).cut (w.tape w.drawn (.nanBits .f64 b b)), 1, ?_, ?_⟩
    · rw [← drew_one]; simp [Result.andThen, Question.forced]
    · unfold fsqrt
      rw [sqrt_canon, h, canon_of_nan (nanBits_nan _ _ _ _)]; rfl
theorem sqrt_fn {b s : Nat} (hb : Is .f64 b s) : ∃ (R N : World → Nat), (∀ w, (callFunc 203 #[.float .f64 b]).run Try.prog w = .ok (.value (.float .f64 (R w))) (w.drewN (N w))) ∧ ∀ w, Is .f64 (R w) (fsqrt s) := by
  obtain ⟨R, hR⟩ := Classical.axiomOfChoice (fun w => sqrt_at hb w)
  obtain ⟨N, hN⟩ := Classical.axiomOfChoice hR
  exact ⟨R, N, fun w => (hN w).1, fun w => (hN w).2⟩
theorem mathSqrt_any (b s : Nat) (hb : Is .f64 b s) (w : World) : Calls Try.prog 188 #[.float .f64 b] w (GivesF .f64 (fsqrt s) w) := by
  obtain ⟨R, N, h1, h2⟩ := sqrt_fn hb
  go_enter Try.func188, Try.ntmps188
  go_wp2
  go_ret
  exact ⟨_, _, rfl, h2 _, rfl⟩
theorem root_any (b s : Nat) (hb : Is .f32 b s) (w : World) : Calls Try.prog 163 #[.float .f32 b] w (GivesF .f32 (rootF s) w) := by
  have hok := sqrt_narrow s
  go_enter Try.func163, Try.ntmps163
  go_wp2_with (first | (go_at_call 188; refine (mathSqrt_any _ _ (by assumption) _).mono ?_; rintro _ _ ⟨q, n1, rfl, hq, rfl⟩) | (refine wl_widen rfl rfl rfl (by first | exact rfl | kernel_rfl) (by kernel_rfl) (by first | assumption | exact is_ofInt _ _ | exact is_self) ?_; intro r n hr) | (refine wl_narrow rfl rfl rfl (by first | exact rfl | kernel_rfl) (by kernel_rfl) (by first | assumption | exact is_ofInt _ _ | exact is_self) (by assumption) ?_; intro r2 n2 hr2))
  go_ret
  exact ⟨_, _, rfl, hr2, rfl⟩
theorem l01Narrow_any (b s : Nat) (hb : Is .f64 b s) (hok : narrowOk s = true) (w : World) : Calls Try.prog 181 #[.float .f64 b] w (GivesF .f32 (fnarrow s) w) := by
  go_enter Try.func181, Try.ntmps181
  go_wp2_with (refine wl_narrow rfl rfl rfl (by first | exact rfl | kernel_rfl) (by kernel_rfl) (by first | assumption | exact is_ofInt _ _ | exact is_self) (by assumption) ?_; intro r2 n2 hr2)
  go_ret
  exact ⟨_, _, rfl, hr2, rfl⟩
theorem l01Sqrt_any (b s : Nat) (hb : Is .f32 b s) (w : World) : Calls Try.prog 168 #[.float .f32 b] w (GivesF .f32 (rootF s) w) := by
  have hok := sqrt_narrow s
  go_enter Try.func168, Try.ntmps168
  go_wp2_with (first | (go_at_call 188; refine (mathSqrt_any _ _ (by assumption) _).mono ?_; rintro _ _ ⟨q, n1, rfl, hq, rfl⟩) | (go_at_call 181; refine (l01Narrow_any _ _ (by assumption) (by assumption) _).mono ?_; rintro _ _ ⟨q2, n2, rfl, hq2, rfl⟩) | (refine wl_widen rfl rfl rfl (by first | exact rfl | kernel_rfl) (by kernel_rfl) (by first | assumption | exact is_ofInt _ _ | exact is_self) ?_; intro r n hr))
  go_ret
  exact ⟨_, _, rfl, hq2, rfl⟩
end Go.Proofs.Ytnjgcacnfobmiaa
