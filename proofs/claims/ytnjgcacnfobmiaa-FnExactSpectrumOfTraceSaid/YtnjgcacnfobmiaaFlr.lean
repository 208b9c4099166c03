/- The whole part of a float; the number of a list at a place between its numbers. -/
import Derived.Test.YtnjgcacnfobmiaaSqr
namespace Go.Proofs.Ytnjgcacnfobmiaa
open Go.RowKit
set_option maxRecDepth 100000
set_option linter.unusedVariables false

theorem cut_low (n d : Nat) : n / (1 <<< min d (n.log2 + 2)) = n / 2 ^ d := by
  rw [Nat.one_shiftLeft]
  by_cases h : d ≤ n.log2 + 2
  · rw [Nat.min_eq_left h]
  · rw [Nat.min_eq_right (by omega)]
    have h1 : n < 2 ^ (n.log2 + 1) := Nat.lt_log2_self
    have h2 : 2 ^ (n.log2 + 1) ≤ 2 ^ (n.log2 + 2) := Nat.pow_le_pow_right (by omega) (by omega)
    have h3 : 2 ^ (n.log2 + 2) ≤ 2 ^ d := Nat.pow_le_pow_right (by omega) (by omega)
    rw [Nat.div_eq_of_lt (by omega), Nat.div_eq_of_lt (by omega)]
theorem cut_down (n d : Nat) : Ieee.Toward.down.cut false n d = n / 2 ^ d := by
  unfold Ieee.Toward.cut
  simp only [Bool.false_and, Bool.toNat_false, Nat.add_zero]
  exact cut_low n d
theorem cut_zero (s : Bool) (n d : Nat) : Ieee.Toward.zero.cut s n d = n / 2 ^ d := by
  unfold Ieee.Toward.cut
  simp only [Bool.toNat_false, Nat.add_zero]
  exact cut_low n d
theorem cut_down0 (s : Bool) (d : Nat) : Ieee.Toward.down.cut s 0 d = 0 := by
  unfold Ieee.Toward.cut
  cases s <;> simp
theorem whole_nv {m : Nat} {e : Int} (he : -1074 ≤ e) : (m <<< e.toNat) / 2 ^ (-e).toNat = nv m e / tp 4096 := by
  have e0 : nv m e = m * tp (e + 4096).toNat := rfl
  rw [Nat.shiftLeft_eq, e0]
  by_cases h : 0 ≤ e
  · rw [show (e + 4096).toNat = e.toNat + 4096 by omega, show (-e).toNat = 0 by omega, ← tp_add, ← Nat.mul_assoc, Nat.mul_div_cancel _ (tp_pos _)]
    simp [tp]
  · obtain ⟨d, hd⟩ : ∃ d : Nat, (d : Int) = -e := ⟨(-e).toNat, by omega⟩
    rw [show e.toNat = 0 by omega, show (-e).toNat = d by omega, show (e + 4096).toNat = 4096 - d by omega]
    have e1 : tp 4096 = tp d * tp (4096 - d) := by rw [tp_add, show d + (4096 - d) = 4096 by omega]
    rw [e1, Nat.mul_div_mul_right _ _ (tp_pos _)]
    simp [tp]
def flr (s : Nat) : Nat := vl .f32 (mg .f32 s) / tp 4096
def floorF (s : Nat) : Nat := FloatKind.f64.encode ((FloatKind.f64.decode s).integral .down)
theorem int64_small : ∀ M, M < 129 → (FloatKind.f64.decode (FloatKind.f64.encode (.number false M 0))).toInt .zero = some (M : Int) := by decide +kernel
theorem int64_zero : (FloatKind.f64.decode (FloatKind.f64.encode (.number true 0 0))).toInt .zero = some 0 := by decide +kernel
theorem ofInt_small : ∀ k : Nat, k < 129 → (mg .f32 (floatOfInt .f32 (k : Int)) < inf .f32 ∧ fs .f32 (floatOfInt .f32 (k : Int)) = false ∧ vl .f32 (mg .f32 (floatOfInt .f32 (k : Int))) = k * tp 4096) := by decide +kernel
theorem zero_fin : mg .f32 (canon .f32 0) < inf .f32 := by decide +kernel
theorem sv_zero : sv .f32 (canon .f32 0) = 0 := by decide +kernel
theorem order_infB {k : FloatKind} {x y : Nat} (hx : mg k x = inf k) (hy : mg k y < inf k) : k.format.order x y = some (if fs k x then .lt else .gt) := by
  obtain ⟨m, e, e1, _, _⟩ := read_fin hy
  unfold Ieee.Format.order
  rw [read_inf hx, e1]
  rfl
theorem vl_pos {k : FloatKind} {r : Nat} (h : vl k r = 0) : r = 0 := by
  have : r ≤ 0 := (vl_le (k := k)).1 (by rw [h, vl_zero]; exact Nat.le_refl _)
  omega
theorem in_range {s k : Nat} (hk : k < 129) (h1 : fcmp .geq .f32 s (canon .f32 0) = true) (h2 : fcmp .leq .f32 s (floatOfInt .f32 (k : Int)) = true) :
    mg .f32 s < inf .f32 ∧ (fs .f32 s = true → vl .f32 (mg .f32 s) = 0) ∧ vl .f32 (mg .f32 s) ≤ k * tp 4096 := by
  obtain ⟨k1, k2, k3⟩ := ofInt_small k hk
  rcases Nat.lt_trichotomy (mg .f32 s) (inf .f32) with h | h | h
  · rw [fcmp_fin h zero_fin, sv_zero] at h1
    rw [fcmp_fin h k1] at h2
    have h1' := of_decide_eq_true h1
    have h2' := of_decide_eq_true h2
    have e : sv .f32 (floatOfInt .f32 (k : Int)) = ((k * tp 4096 : Nat) : Int) := by unfold sv; rw [k2, k3]; rfl
    rw [e] at h2'
    unfold sv at h1' h2'
    refine ⟨h, fun hs => ?_, ?_⟩
    · rw [hs, if_pos rfl] at h1'; omega
    · cases hs : fs .f32 s with
      | true =>
        rw [hs, if_pos rfl] at h1'
        have : vl .f32 (mg .f32 s) = 0 := by omega
        rw [this]; exact Nat.zero_le _
      | false =>
        rw [hs, if_neg (by decide)] at h2'
        omega
  · unfold fcmp at h1 h2
    rw [order_infB h zero_fin] at h1
    rw [order_infB h k1] at h2
    cases hs : fs .f32 s <;> rw [hs] at h1 h2
    · exact absurd h2 (by decide)
    · exact absurd h1 (by decide)
  · have hn : isNan .f32 s = true := by rw [isNan_mg, decide_eq_true h]
    rw [fcmp_nan (.inl hn)] at h1
    exact absurd h1 (by decide)
theorem sub_same {x y : Nat} (hx : mg .f32 x < inf .f32) (hy : mg .f32 y < inf .f32) (hv : vl .f32 (mg .f32 x) = vl .f32 (mg .f32 y)) (hz : fs .f32 x = fs .f32 y ∨ vl .f32 (mg .f32 x) = 0) :
    fcmp .eql .f32 (fop .sub .f32 x y) (canon .f32 0) = true := by
  obtain ⟨u, T, e, h1, h2⟩ := sub_fin hx hy
  have hT : T = 0 := by
    by_cases h : fs .f32 x = fs .f32 y
    · have := (h2 h).1; omega
    · have := (h1 h).2
      rcases hz with hz | hz
      · exact absurd hz h
      · omega
  rw [e, hT, RR_zero]
  cases u <;> decide +kernel
/-- What a sample's place comes to. -/
theorem samp_facts {s n : Nat} (hn : n < 129) (h1 : fcmp .geq .f32 s (canon .f32 0) = true) (h2 : fcmp .leq .f32 s (floatOfInt .f32 (n : Int)) = true) :
    isNan .f64 (fwiden s) = false ∧ flr s ≤ n ∧ (FloatKind.f64.decode (floorF (fwiden s))).toInt .zero = some (flr s : Int) ∧
    (fcmp .eql .f32 (fop .sub .f32 s (floatOfInt .f32 ((flr s : Nat) : Int))) (canon .f32 0) = false → flr s + 1 ≤ n) := by
  obtain ⟨hf, hs, hv⟩ := in_range hn h1 h2
  have hle : flr s ≤ n := by unfold flr; exact Nat.div_le_of_le_mul (by rw [Nat.mul_comm]; exact hv)
  obtain ⟨r, hr, e, hvr⟩ := widen_fin hf
  have hm := mg_mk .f64 (fs .f32 s) (Nat.le_of_lt hr)
  refine ⟨by rw [e, isNan_mg, hm]; exact decide_eq_false (by omega), hle, ?_, fun h => ?_⟩
  · obtain ⟨m, i, e1, h3, h4⟩ := read_fin (b := mk .f64 (fs .f32 s) r) (by rw [hm]; exact hr)
    rw [hm, hvr] at h4
    rw [fs_mk _ _ (Nat.le_of_lt hr)] at e1
    have e2 : FloatKind.f64.decode (mk .f64 (fs .f32 s) r) = .number (fs .f32 s) m i := e1
    unfold floorF
    rw [e, e2]
    unfold Ieee.Datum.integral
    cases hb : fs .f32 s with
    | false =>
      simp only []
      rw [cut_down, whole_nv h3, h4]
      exact int64_small _ (by unfold flr at hle; omega)
    | true =>
      have hz := hs hb
      rw [hz] at h4
      have m0 : m = 0 := by
        unfold nv at h4
        rcases Nat.mul_eq_zero.1 h4 with h5 | h5
        · exact h5
        · exact absurd h5 (Nat.ne_of_gt (Nat.two_pow_pos _))
      have f0 : flr s = 0 := by unfold flr; rw [hz]; exact Nat.zero_div _
      rw [m0, f0]
      simp only []
      rw [Nat.zero_shiftLeft, cut_down0]
      exact int64_zero
  · obtain ⟨k1, k2, k3⟩ := ofInt_small (flr s) (by omega)
    rcases Nat.lt_or_eq_of_le hle with h5 | h5
    · exact h5
    · exfalso
      have hlow : flr s * tp 4096 ≤ vl .f32 (mg .f32 s) := Nat.div_mul_le_self _ _
      rw [h5] at hlow
      have heq : vl .f32 (mg .f32 s) = n * tp 4096 := Nat.le_antisymm hv hlow
      have := sub_same hf k1 (by rw [k3, heq, h5]) (by
        cases hb : fs .f32 s with
        | false => exact .inl k2.symm
        | true => exact .inr (hs hb))
      rw [this] at h
      exact absurd h (by decide)
def sampF (l : List Nat) (s : Nat) : Nat :=
  if fcmp .geq .f32 s (canon .f32 0) && fcmp .leq .f32 s (floatOfInt .f32 ((l.length : Int) - 1)) then
    if fcmp .eql .f32 (fop .sub .f32 s (floatOfInt .f32 ((flr s : Nat) : Int))) (canon .f32 0) then el l (flr s)
    else fop .add .f32 (el l (flr s)) (fop .mul .f32 (fop .sub .f32 s (floatOfInt .f32 ((flr s : Nat) : Int))) (fop .sub .f32 (el l (flr s + 1)) (el l (flr s))))
  else 0
section
variable {P : Program}
theorem run_toInt (src dst : TypeId) {b : Nat} {n : Int} (h : (FloatKind.f64.decode b).toInt .zero = some n) (hn : -9223372036854775808 ≤ n ∧ n ≤ 9223372036854775807) (hs : (P.underlying src).isSome = true) (hd : P.underlying dst = some (.int .i64)) (w : World) :
    (convert src dst (.float .f64 b)).run P w = .ok (.int .i64 n) w := by
  obtain ⟨u, hs'⟩ := Option.isSome_iff_exists.1 hs
  have e1 : IntKind.i64.min = -9223372036854775808 := by decide
  have e2 : IntKind.i64.max = 9223372036854775807 := by decide
  cases u <;> simp [convert, run_underlying hs', run_underlying hd, Conv.floatToInt, h, e1, e2, hn.1, hn.2]
variable {ops : Array Oper} {Q : Exit → Act → World → Prop} {a : Act} {w : World} {rest : List Oper} {o : Oper}
theorem wl_toInt (hg : Region.wanted o (yielded ops a.tmps) = true) {src dst : TypeId} {x : Operand} (ho : o.op = .convert src dst x) {b : Nat} (hx : a.eval x = .float .f64 b)
    (hs : (P.underlying src).isSome = true) (hd : P.underlying dst = some (.int .i64)) {s : Nat} (is : Is .f64 b s) {n : Int} (hn0 : isNan .f64 s = false) (h1 : (FloatKind.f64.decode s).toInt .zero = some n) (hn : -9223372036854775808 ≤ n ∧ n ≤ 9223372036854775807)
    (h : wpList P ops Q rest (a.put o.dst (.int .i64 n)) w) : wpList P ops Q (o :: rest) a w := by
  have e : b = s := by
    unfold Is at is
    have : isNan .f64 b = false := by rw [← isNan_canon, is]; exact hn0
    rw [← is, canon_of_not this]
  subst e
  have hr := run_toInt (P := P) src dst h1 hn hs hd w
  refine wl_of_run hg ?_ h
  simp [execOp, ho, hx, hr, Result.andThen]
end
theorem isNan_floorF {s : Nat} (h : isNan .f64 s = false) : isNan .f64 (floorF s) = false := by
  refine write_not _ ?_
  unfold isNan at h
  have e : FloatKind.f64.decode s = FloatKind.f64.format.read s := rfl
  rw [e]
  generalize FloatKind.f64.format.read s = d at h
  cases d <;> first | rfl | (simp [Ieee.Datum.isNaN] at h)
end Go.Proofs.Ytnjgcacnfobmiaa
