/- The spectrum of a trace: the plain function; the lexical laws that it wants. -/
import Derived.Test.YtnjgcacnfobmiaaFPho
import Derived.Test.YtnjgcacnfobmiaaLexw
namespace Go.Proofs.Ytnjgcacnfobmiaa.tr
open Go.RowKit Go.Proofs.Ytnjgcacnfobmiaa
set_option maxRecDepth 100000
set_option linter.unusedVariables false

theorem pw128 : tp 4224 ≤ vl .f64 ((1023 + 128) * 4503599627370496) ∧ (1023 + 128) * 4503599627370496 < inf .f64 := by decide +kernel
theorem mul_top : mg .f64 (fop .mul .f64 (pw 7) ((1023 + 128) * 4503599627370496)) < inf .f64 := by decide +kernel
theorem ofInt_b : ∀ k : Nat, k < 129 → mg .f64 (floatOfInt .f64 (k : Int)) ≤ pw 7 := by decide +kernel
theorem pw7_inf : pw 7 < inf .f64 := by decide +kernel
theorem widen_top {s : Nat} (h : finK .f32 s = true) : mg .f64 (fwiden s) ≤ (1023 + 128) * 4503599627370496 := by
  have hs := finK_mg h
  obtain ⟨r, hr, e, hv⟩ := widen_fin hs
  rw [e, mg_mk .f64 _ (Nat.le_of_lt hr)]
  refine (vl_le (k := .f64)).1 (Nat.le_trans ?_ pw128.1)
  rw [hv, ← vl_inf32]
  exact (vl_le (k := .f32)).2 (Nat.le_of_lt hs)
/-- The turns of number k. -/
def spT (s k : Nat) : Nat := fneg .f64 (fop .mul .f64 (floatOfInt .f64 (k : Int)) (fwiden s))
theorem spT_fin {s k : Nat} (h : finK .f32 s = true) (hk : k < 129) : mg .f64 (spT s k) < inf .f64 := by
  have h1 := mul_lim (k := .f64) pw7_inf pw128.2 (ofInt_b k hk) (widen_top h)
  have h2 := Nat.lt_of_le_of_lt h1 mul_top
  unfold spT
  rw [mg_neg (Nat.le_of_lt h2)]
  exact h2
def spK (l : List Nat) (s : Nat) : Nat → Nat × Nat
  | 0 => (0, 0)
  | k + 1 => cadd (spK l s k) (scl (phF (spT s k)) (el l k))
theorem spK_succ (l : List Nat) (s k : Nat) : spK l s (k + 1) = cadd (spK l s k) (scl (phF (spT s k)) (el l k)) := rfl
def specO (l : List Nat) (s : Nat) : Option (Nat × Nat) := if isTr l && finK .f32 s then some (spK l s l.length) else none
theorem is_ofInt64 (k : Nat) (h : k < 129) : Is .f64 (floatOfInt .f64 (k : Int)) (floatOfInt .f64 (k : Int)) := is_of (nan_of (Nat.lt_of_le_of_lt (ofInt_b k h) pw7_inf))
section
variable {P : Program} {ops : Array Oper} {Q : Exit → Act → World → Prop} {a : Act} {w : World} {rest : List Oper} {o : Oper}
variable {U : Nat → World → Prop} {eff : Nat → Bool} {An : Nat → Value → Prop} {k : Nat}
theorem lw_neg (hg : Region.wanted o (yielded ops a.tmps) = true) (he : eff k = false) {ty : TypeId} {x : Operand} (ho : o.op = .unOp .neg ty x) {fk : FloatKind} {bx s : Nat} (hx : a.eval x = .float fk bx) (is : Is fk bx s)
    (h : ∀ r, Is fk r (fneg fk s) → LexW P ops U eff An Q (k + 1) rest (a.put o.dst (.float fk r)) w) : LexW P ops U eff An Q k (o :: rest) a w :=
  ⟨lx_val hg he (fun w' _ => by
    have hr := run_fneg (P := P) fk bx w'
    simp [execOp, ho, hx, hr, Result.andThen]) (h _ (is_neg is)).out⟩
theorem lw_cadd (hg : Region.wanted o (yielded ops a.tmps) = true) (he : eff k = false) {ty ty' : TypeId} {x y : Operand} (ho : o.op = .binOp .add ty x y ty') {xr xi yr yi : Nat}
    (hx : a.eval x = .complex .f32 xr xi) (hy : a.eval y = .complex .f32 yr yi) {s t : Nat × Nat} (i1 : Is .f32 xr s.1) (i2 : Is .f32 xi s.2) (i3 : Is .f32 yr t.1) (i4 : Is .f32 yi t.2)
    (h : ∀ r i, Is .f32 r (cadd s t).1 → Is .f32 i (cadd s t).2 → LexW P ops U eff An Q (k + 1) rest (a.put o.dst (.complex .f32 r i)) w) : LexW P ops U eff An Q k (o :: rest) a w :=
  ⟨lx_some hg he (fun v => ∃ r i, v = .complex .f32 r i ∧ Is .f32 r (cadd s t).1 ∧ Is .f32 i (cadd s t).2) (fun w' _ => by
    obtain ⟨r, n, h1, h2⟩ := run_part (P := P) (op := .add) (.inl rfl) i1 i3 w'
    obtain ⟨i, m, h3, h4⟩ := run_part (P := P) (op := .add) (.inl rfl) i2 i4 (w'.drewN n)
    rw [drewN_drewN'] at h3
    refine ⟨_, n + m, ?_, r, i, rfl, h2, h4⟩
    simp [execOp, ho, hx, hy, eqGuard, binOp, Op.complexOp, h1, h3, Result.andThen]) (fun v ⟨r, i, hv, h5, h6⟩ => by subst hv; exact (h r i h5 h6).out)⟩
end
end Go.Proofs.Ytnjgcacnfobmiaa.tr
