/- math.Abs, absolute; slices.ContainsFunc; the tests of coefficients. -/
import Derived.Test.YtnjgcacnfobmiaaRec
import Derived.Test.YtnjgcacnfobmiaaNar
import Derived.Test.YtnjgcacnfobmiaaFin
import Derived.Laws.Externs
namespace Go.Proofs.Ytnjgcacnfobmiaa
open Go.RowKit
set_option maxRecDepth 100000
set_option linter.unusedVariables false

theorem f64bits_run (args : Array Value) (w : World) : (callFunc 199 args).run Try.prog w = ((Extern.MathFloatBits.float64bits args).run Try.prog w).andThen fun v w' => .ok (.value v) w' :=
  run_callFunc_extern Try.func199 (by kernel_rfl) (by kernel_rfl) (by kernel_rfl) (by kernel_rfl) args w
theorem f64from_run (args : Array Value) (w : World) : (callFunc 198 args).run Try.prog w = ((Extern.MathFloatBits.float64frombits args).run Try.prog w).andThen fun v w' => .ok (.value v) w' :=
  run_callFunc_extern Try.func198 (by kernel_rfl) (by kernel_rfl) (by kernel_rfl) (by kernel_rfl) args w
theorem f64bits_at (b : Nat) (w : World) : (callFunc 199 #[.float .f64 b]).run Try.prog w = .ok (.value (.int .u64 b)) w := by
  rw [f64bits_run]; rfl
theorem f64from_at (b : Nat) (w : World) : (callFunc 198 #[.int .u64 (b : Int)]).run Try.prog w = .ok (.value (.float .f64 b)) w := by
  rw [f64from_run]; rfl
theorem abs_bits (b : Nat) : ((BitVec.ofInt 64 (b : Int)) &&& ~~~(BitVec.ofInt 64 9223372036854775808)).toNat = b % 9223372036854775808 := by
  have h : (BitVec.ofInt 64 (b : Int)) &&& ~~~(BitVec.ofInt 64 9223372036854775808) = BitVec.ofNat 64 (b % 9223372036854775808) := by
    apply BitVec.eq_of_getLsbD_eq
    intro i hi
    have e : BitVec.ofInt 64 9223372036854775808 = BitVec.twoPow 64 63 := by decide
    have e2 : BitVec.ofInt 64 (b : Int) = BitVec.ofNat 64 b := by simp
    rw [e, e2]
    have e3 : b % 9223372036854775808 = b % 2 ^ 63 := rfl
    simp only [BitVec.getLsbD_and, BitVec.getLsbD_not, BitVec.getLsbD_ofNat, BitVec.getLsbD_twoPow, hi, e3, Nat.testBit_mod_two_pow, decide_true, Bool.true_and]
    by_cases h63 : i = 63
    · subst h63; simp
    · have : i < 63 := by omega
      simp [this, Ne.symm h63]
  rw [h, BitVec.toNat_ofNat]
  omega
theorem run_abs (b : Nat) (ty : TypeId) (w : World) : (binOp .andNot ty (.int .u64 (b : Int)) (.int .u64 9223372036854775808)).run Try.prog w = .ok (.int .u64 ((b % 9223372036854775808 : Nat) : Int)) w := by
  have h := abs_bits b
  have e : (binOp .andNot ty (.int .u64 (b : Int)) (.int .u64 9223372036854775808) : Sem Value) = pure (.int .u64 (IntKind.u64.wrap ((((BitVec.ofInt 64 (b : Int)) &&& ~~~(BitVec.ofInt 64 9223372036854775808)).toNat : Nat) : Int))) := rfl
  rw [e, h]
  have hw : IntKind.u64.wrap ((b % 9223372036854775808 : Nat) : Int) = ((b % 9223372036854775808 : Nat) : Int) := by
    simp [IntKind.wrap, IntKind.signed, IntKind.bits]; omega
  rw [hw]; rfl
section
variable {P : Program} {ops : Array Oper} {Q : Exit → Act → World → Prop} {a : Act} {w : World} {rest : List Oper} {o : Oper}
theorem mg64 (b : Nat) : b % 9223372036854775808 = mg .f64 b := rfl
theorem wl_abs (hg : Region.wanted o (yielded ops a.tmps) = true) {ty ty' : TypeId} {x y : Operand} (ho : o.op = .binOp .andNot ty x y ty') {b : Nat} (hx : a.eval x = .int .u64 (b : Int)) (hy : a.eval y = .int .u64 9223372036854775808)
    (h : wpList Try.prog ops Q rest (a.put o.dst (.int .u64 ((mg .f64 b : Nat) : Int))) w) : wpList Try.prog ops Q (o :: rest) a w := by
  refine wl_of_run hg ?_ h
  rw [← mg64]
  simp [execOp, ho, hx, hy, run_abs, eqGuard, Result.andThen]
end
set_option maxRecDepth 100000 in
theorem mathAbs_any (b s : Nat) (hb : Is .f64 b s) (w : World) : Calls Try.prog 177 #[.float .f64 b] w (GivesF .f64 (fabs .f64 s) w) := by
  have h1 := fun (w' : World) => f64bits_at b w'
  have h2 := fun (w' : World) => f64from_at (mg .f64 b) w'
  go_enter Try.func177, Try.ntmps177
  go_wp2_with (refine wl_abs rfl rfl rfl rfl ?_)
  go_ret
  exact ⟨_, 0, rfl, is_abs hb, rfl⟩
theorem absolute_any (b s : Nat) (hb : Is .f32 b s) (w : World) : Calls Try.prog 143 #[.float .f32 b] w (GivesF .f32 (fabs .f32 s) w) := by
  have h1 := narrow_abs s
  have H := Lib.hid h1.1
  have hok := h1.2
  clear h1
  go_enter Try.func143, Try.ntmps143
  go_wp2_with (first | (go_at_call 177; refine (mathAbs_any _ _ (by assumption) _).mono ?_; rintro _ _ ⟨q, n1, rfl, hq, rfl⟩) | (refine wl_widen rfl rfl rfl (by first | exact rfl | kernel_rfl) (by kernel_rfl) (by first | assumption | exact is_ofInt _ _ | exact is_self) ?_; intro r n hr) | (refine wl_narrow rfl rfl rfl (by first | exact rfl | kernel_rfl) (by kernel_rfl) (by first | assumption | exact is_ofInt _ _ | exact is_self) (by assumption) ?_; intro r2 n2 hr2))
  go_ret
  exact ⟨_, _, rfl, by rw [← H.out]; exact hr2, rfl⟩

/-! ### Coefficients -/
theorem order_inf {k : FloatKind} {x y : Nat} (hx : mg k x = inf k) (hy : mg k y < inf k) : k.format.order x y = some (if fs k x then .lt else .gt) := by
  obtain ⟨m, e, e1, _, _⟩ := read_fin hy
  unfold Ieee.Format.order
  rw [read_inf hx, e1]
  rfl
def coefB (s : Nat) : Bool := fcmp .gtr .f32 s (canon .f32 3212836864) && fcmp .lss .f32 s (canon .f32 1065353216)
theorem coef_abs (s : Nat) : fcmp .lss .f32 (fabs .f32 s) (canon .f32 1065353216) = coefB s := by
  have c1 : canon .f32 1065353216 = 1065353216 := by decide +kernel
  have c2 : canon .f32 3212836864 = 3212836864 := by decide +kernel
  have m1 : mg .f32 1065353216 = 1065353216 := by decide +kernel
  have m2 : mg .f32 3212836864 = 1065353216 := by decide +kernel
  have f1 : fs .f32 1065353216 = false := by decide +kernel
  have f2 : fs .f32 3212836864 = true := by decide +kernel
  have hi : (1065353216 : Nat) < inf .f32 := by decide +kernel
  unfold coefB
  rw [c1, c2]
  rcases Nat.lt_trichotomy (mg .f32 s) (inf .f32) with h | h | h
  · have e : fabs .f32 s = mg .f32 s := by unfold fabs; rw [isNan_mg, decide_eq_false (by omega)]; rfl
    rw [e, fcmp_fin (by rw [mg_mod]; exact h) (by rw [m1]; exact hi), fcmp_fin h (by rw [m2]; exact hi), fcmp_fin h (by rw [m1]; exact hi)]
    have s1 : sv .f32 1065353216 = (vl .f32 1065353216 : Int) := by unfold sv; rw [f1, m1]; rfl
    have s2 : sv .f32 3212836864 = -(vl .f32 1065353216 : Int) := by unfold sv; rw [f2, m2]; rfl
    have s3 : sv .f32 (mg .f32 s) = (vl .f32 (mg .f32 s) : Int) := sv_small (Nat.le_of_lt h)
    rw [s1, s2, s3]
    unfold sv
    simp only []
    rw [← Bool.decide_and]
    apply decide_eq_decide.2
    cases fs .f32 s <;> simp <;> omega
  · have e : fabs .f32 s = inf .f32 := by unfold fabs; rw [isNan_mg, decide_eq_false (by omega), h]; rfl
    rw [e]
    unfold fcmp
    rw [order_inf (by rw [mg_small (Nat.le_refl _)]) (by rw [m1]; exact hi), order_inf h (by rw [m2]; exact hi), order_inf h (by rw [m1]; exact hi), fs_small (Nat.le_refl _)]
    cases fs .f32 s <;> rfl
  · have hn : isNan .f32 s = true := by rw [isNan_mg, decide_eq_true h]
    have e : fabs .f32 s = nanOf .f32 := by unfold fabs; rw [hn]; rfl
    rw [e, fcmp_nan (.inl (isNan_nanOf _)), fcmp_nan (.inl hn)]
    rfl
theorem isCoef_any (b s : Nat) (v : Bool) (hb : Is .f32 b s) (hv : coefB s = v) (w : World) : Calls Try.prog 93 #[.float .f32 b] w (Gives (.bool v) w) := by
  have hq : fcmp .lss .f32 (fabs .f32 s) (canon .f32 1065353216) = v := by rw [coef_abs, hv]
  go_enter Try.func93, Try.ntmps93
  go_wp2_with (first | (go_at_call 143; refine (absolute_any _ _ (by assumption) _).mono ?_; rintro _ _ ⟨q, n1, rfl, hq2, rfl⟩) | (refine wl_bin rfl rfl rfl rfl rfl (by first | assumption | exact is_ofInt _ _ | exact is_self) (by first | assumption | exact is_ofInt _ _ | exact is_self) ?_; intro r n hr) | (refine wl_cmp rfl rfl rfl rfl rfl (by first | assumption | exact is_ofInt _ _ | exact is_self) (by first | assumption | exact is_ofInt _ _ | exact is_self) (by first | assumption | rfl) ?_) | (refine wl_widen rfl rfl rfl (by first | exact rfl | kernel_rfl) (by kernel_rfl) (by first | assumption | exact is_ofInt _ _ | exact is_self) ?_; intro r n hr) | (refine wl_neg rfl rfl rfl (by first | assumption | exact is_ofInt _ _ | exact is_self) ?_; intro r hr))
  go_ret
  exact ⟨rfl, _, rfl⟩
theorem l03Coef_any (b s : Nat) (v : Bool) (hb : Is .f32 b s) (hv : coefB s = v) (w : World) : Calls Try.prog 91 #[.float .f32 b] w fun e w' => e = .returned (.bool v) ∧ w = w' := by
  have HV := Lib.hid hv
  clear hv
  cases h1 : fcmp .gtr .f32 s (canon .f32 3212836864) with
  | false =>
    have h : Hid (v = false) := by unfold Hid; rw [← HV.out]; unfold coefB; rw [h1]; rfl
    go_enter Try.func91, Try.ntmps91
    go_wp2_with (first | (refine wl_bin rfl rfl rfl rfl rfl (by first | assumption | exact is_ofInt _ _ | exact is_self) (by first | assumption | exact is_ofInt _ _ | exact is_self) ?_; intro r n hr) | (refine wl_cmp rfl rfl rfl rfl rfl (by first | assumption | exact is_ofInt _ _ | exact is_self) (by first | assumption | exact is_ofInt _ _ | exact is_self) (by first | assumption | rfl) ?_) | (refine wl_widen rfl rfl rfl (by first | exact rfl | kernel_rfl) (by kernel_rfl) (by first | assumption | exact is_ofInt _ _ | exact is_self) ?_; intro r n hr) | (refine wl_neg rfl rfl rfl (by first | assumption | exact is_ofInt _ _ | exact is_self) ?_; intro r hr))
    go_ret
    exact ⟨by rw [h.out]; rfl, rfl⟩
  | true =>
    cases h2 : fcmp .lss .f32 s (canon .f32 1065353216) with
    | false =>
      have h : Hid (v = false) := by unfold Hid; rw [← HV.out]; unfold coefB; rw [h1, h2]; rfl
      go_enter Try.func91, Try.ntmps91
      go_wp2_with (first | (refine wl_bin rfl rfl rfl rfl rfl (by first | assumption | exact is_ofInt _ _ | exact is_self) (by first | assumption | exact is_ofInt _ _ | exact is_self) ?_; intro r n hr) | (refine wl_cmp rfl rfl rfl rfl rfl (by first | assumption | exact is_ofInt _ _ | exact is_self) (by first | assumption | exact is_ofInt _ _ | exact is_self) (by first | assumption | rfl) ?_) | (refine wl_widen rfl rfl rfl (by first | exact rfl | kernel_rfl) (by kernel_rfl) (by first | assumption | exact is_ofInt _ _ | exact is_self) ?_; intro r n hr) | (refine wl_neg rfl rfl rfl (by first | assumption | exact is_ofInt _ _ | exact is_self) ?_; intro r hr))
      go_ret
      exact ⟨by rw [h.out]; rfl, rfl⟩
    | true =>
      have h : Hid (v = true) := by unfold Hid; rw [← HV.out]; unfold coefB; rw [h1, h2]; rfl
      go_enter Try.func91, Try.ntmps91
      go_wp2_with (first | (refine wl_bin rfl rfl rfl rfl rfl (by first | assumption | exact is_ofInt _ _ | exact is_self) (by first | assumption | exact is_ofInt _ _ | exact is_self) ?_; intro r n hr) | (refine wl_cmp rfl rfl rfl rfl rfl (by first | assumption | exact is_ofInt _ _ | exact is_self) (by first | assumption | exact is_ofInt _ _ | exact is_self) (by first | assumption | rfl) ?_) | (refine wl_widen rfl rfl rfl (by first | exact rfl | kernel_rfl) (by kernel_rfl) (by first | assumption | exact is_ofInt _ _ | exact is_self) ?_; intro r n hr) | (refine wl_neg rfl rfl rfl (by first | assumption | exact is_ofInt _ _ | exact is_self) ?_; intro r hr))
      go_ret
      exact ⟨by rw [h.out]; rfl, rfl⟩
/-- Of k numbers, all are p. -/
def allP (p : Nat → Bool) (l : List Nat) (k : Nat) : Bool := (List.range k).all fun i => p (el l i)
theorem allP_succ (p : Nat → Bool) (l : List Nat) (k : Nat) : allP p l (k + 1) = (allP p l k && p (el l k)) := by unfold allP; rw [List.range_succ, List.all_append]; simp
theorem allP_not {p : Nat → Bool} {l : List Nat} {k n : Nat} (hk : k < n) (h : p (el l k) = false) : allP p l n = false := by
  unfold allP
  rw [List.all_eq_false]
  exact ⟨k, List.mem_range.2 hk, by simp [h]⟩
theorem allP_at {p : Nat → Bool} {l : List Nat} {k n : Nat} (hk : k < n) (h : allP p l n = true) : p (el l k) = true := by
  unfold allP at h
  exact List.all_eq_true.1 h k (List.mem_range.2 hk)
theorem allP_congr {p q : Nat → Bool} {l : List Nat} {n : Nat} (h : ∀ i, i < n → p (el l i) = q (el l i)) : allP p l n = allP q l n := by
  induction n with
  | zero => rfl
  | succ n ih => rw [allP_succ, allP_succ, ih (fun i hi => h i (by omega)), h n (by omega)]
theorem allP_and (p q : Nat → Bool) (l : List Nat) (n : Nat) : allP (fun x => p x && q x) l n = (allP p l n && allP q l n) := by
  induction n with
  | zero => rfl
  | succ n ih =>
    rw [allP_succ, allP_succ, allP_succ, ih]
    cases allP p l n <;> cases allP q l n <;> cases p (el l n) <;> cases q (el l n) <;> rfl

/-- An index: at least 0 just where b. -/
def GivesIdx (b : Bool) (w : World) (e : Ending) (w' : World) : Prop := ∃ n : Int, e = .returned (.int .i64 n) ∧ decide (0 ≤ n) = b ∧ ∃ m, w' = w.drewN m
set_option maxHeartbeats 1000000 in
/-- A predicate p (of classes) that the function g is. -/
theorem indexFunc_any (g : FuncId) (eg : ∀ (args : Array Value) (w : World), (callFunc g args).run Try.prog w = .ok (.enter g args) w) (p : Nat → Bool) (ao : Option Addr) (cap : Nat) (xs : List Nat) (w : World) (hc : FR w ao xs) (hl : xs.length ≤ 1048576)
    (hp : ∀ (b s : Nat) (v : Bool) (w' : World), Is .f32 b s → (!p s) = v → Calls Try.prog g #[.float .f32 b] w' (Gives (.bool v) w')) :
    Calls Try.prog 178 #[.slice ao xs.length cap, .func (.func g) #[] #[]] w (GivesIdx (!allP p (cl xs) xs.length) w) := by
  go_enter Try.func178, Try.ntmps178
  go_wp2
  go_loopw [8] (fun i wr => ∃ k n : Nat, k ≤ xs.length ∧ i = .int .i64 k ∧ Hid (allP p (cl xs) k = true) ∧ wr = w.drewN n) (fun i _ => xs.length - (intOf i).toNat)
  case atStart => exact ⟨0, 0, Nat.zero_le _, rfl, rfl, rfl⟩
  case round =>
    obtain ⟨k, n, hk, rfl, hall, rfl⟩ := hrel
    by_cases hlt : k < xs.length
    · obtain ⟨b, off, rfl, hcell⟩ := hc k hlt
      have hel := is_el hlt
      cases hv : p (el (cl xs) k) with
      | false =>
        have hv' : (!p (el (cl xs) k)) = true := by rw [hv]; rfl
        have HN := Lib.hid (allP_not hlt hv)
        clear hv
        go_wp2_with ((with_reducible refine (hp _ _ _ _ hel hv').mono ?_); rintro _ _ ⟨rfl, n1, rfl⟩)
        go_ret
        exact ⟨_, rfl, by rw [HN.out]; simp, _, rfl⟩
      | true =>
        have hv' : (!p (el (cl xs) k)) = false := by rw [hv]; rfl
        have HN : Hid (allP p (cl xs) (k + 1) = true) := by unfold Hid; rw [allP_succ, hall.out, hv]; rfl
        clear hv
        go_wp2_with ((with_reducible refine (hp _ _ _ _ hel hv').mono ?_); rintro _ _ ⟨rfl, n1, rfl⟩)
        go_roundw
        case rel => exact ⟨k + 1, _, by omega, by go_num, HN, rfl⟩
        case measure => simp [intOf]; omega
    · go_wp2
      go_ret
      obtain rfl : k = xs.length := by omega
      exact ⟨_, rfl, by rw [hall.out]; rfl, _, rfl⟩
end Go.Proofs.Ytnjgcacnfobmiaa
