/- Lists each of whose numbers hangs on those before; appends in regions that read the call's own cells; a float of a surface. -/
import Derived.Test.YtnjgcacnfobmiaaSum
namespace Go.Proofs.Ytnjgcacnfobmiaa
open Go.RowKit
set_option maxRecDepth 100000
set_option linter.unusedVariables false

/-- n numbers, each F of those before. -/
def recP (F : List Nat → Nat) : Nat → List Nat
  | 0 => []
  | n + 1 => recP F n ++ [F (recP F n)]
theorem recP_len (F : List Nat → Nat) (n : Nat) : (recP F n).length = n := by
  induction n with
  | zero => rfl
  | succ n ih => simp [recP, ih]
theorem rec_len {F : List Nat → Nat} {k : Nat} {ys : List Nat} (h : cl ys = recP F k) : ys.length = k := by rw [← cl_length, h, recP_len]
theorem rec_step {F : List Nat → Nat} {k r : Nat} {ys : List Nat} (h : cl ys = recP F k) (hr : Is .f32 r (F (cl ys))) : Hid (cl (ys ++ [r]) = recP F (k + 1)) := by
  unfold Hid
  rw [h] at hr
  rw [cl_append, h]
  simp only [cl, List.map_cons, List.map_nil, hr.out', recP]
theorem recP_congr {F G : List Nat → Nat} {n : Nat} (h : ∀ l, l.length < n → F l = G l) : recP F n = recP G n := by
  induction n with
  | zero => rfl
  | succ n ih =>
    have e := ih (fun l hl => h l (by omega))
    simp only [recP, e]
    rw [h _ (by rw [recP_len]; omega)]

section
variable {P : Program} {ops : Array Oper} {Q : Exit → Act → World → Prop} {a : Act} {w : World} {rest : List Oper} {o : Oper}
/-- 'out = append(out, x)' in a region that draws its order, whatever its worlds. -/
theorem lx_append1O {w0 : World} {U : Nat → World → Prop} {eff : Nat → Bool} {An : Nat → Value → Prop} {k : Nat} (hg : Region.wanted o (yielded ops a.tmps) = true) (he : eff k = true) (hT : P.underlying 22 = some (.slice 34)) {i0 : TypeInfo} (hi : P.info? 34 = some i0) (hz : i0.zero = some (.float .f32 0)) (hs1 : i0.size = 1) (hb4 : i0.bytes = 4)
    {s x : Operand} (ho : o.op = .call { callee := .builtin .append, args := #[s, x], argTypes := #[22, 22] }) {v : Value} {ys : List Nat} (hs : a.eval s = v) {g r : Nat} (hx : a.eval x = .slice (some ⟨g, 0, none⟩) 1 1)
    (hown : OwnF w w0.heap.size v ys) (hext : Ext w0 w) (hl : ys.length ≤ 1073741824) (hc : w.cell? ⟨g, 0, none⟩ = some (.float .f32 r)) (hA : ∀ w', Ext w0 w' → AftU .any ops U k w')
    (h : ∀ v' w', OwnF w' w0.heap.size v' (ys ++ [r]) → Ext w0 w' → wpLex P ops U eff An Q (k + 1) rest (a.put o.dst v') w') : wpLex P ops U eff An Q k (o :: rest) a w := by
  refine lx_eff hg he fun n => ?_
  obtain ⟨v', w', hr, h1, h2⟩ := run_append1 (P := P) (w := w.drewN n) hT hi hz hs1 hb4 (hown.drewN n) hl (hext.drewN n).size hc o.type
  have hE : Ext w0 w' := (hext.drewN n).grown h2 fun k hk => (hown.lt k hk).1
  refine ⟨v', w', .inl ?_, hA w' hE, h v' w' h1 hE⟩
  simp [execOp, ho, resolve, invoke, builtin, hs, hx, hr]
end

def surfB (s : Nat) : Bool := fcmp .geq .f32 s 3212836864 && fcmp .leq .f32 s 1065353216
theorem l03Surface_any (b s : Nat) (v : Bool) (hb : Is .f32 b s) (hv : surfB s = v) (w : World) : Calls Try.prog 89 #[.float .f32 b] w fun e w' => e = .returned (.bool v) ∧ w = w' := by
  have HV := Lib.hid hv
  clear hv
  cases h1 : fcmp .geq .f32 s (canon .f32 3212836864) with
  | false =>
    have h : Hid (v = false) := by unfold Hid; rw [← HV.out]; unfold surfB; rw [show (3212836864 : Nat) = canon .f32 3212836864 by decide +kernel, h1]; rfl
    go_enter Try.func89, Try.ntmps89
    go_wp2_with (first | (refine wl_bin rfl rfl rfl rfl rfl (by first | assumption | exact is_ofInt _ _ | exact is_self) (by first | assumption | exact is_ofInt _ _ | exact is_self) ?_; intro r n hr) | (refine wl_cmp rfl rfl rfl rfl rfl (by first | assumption | exact is_ofInt _ _ | exact is_self) (by first | assumption | exact is_ofInt _ _ | exact is_self) (by first | assumption | rfl) ?_) | (refine wl_widen rfl rfl rfl (by first | exact rfl | kernel_rfl) (by kernel_rfl) (by first | assumption | exact is_ofInt _ _ | exact is_self) ?_; intro r n hr) | (refine wl_neg rfl rfl rfl (by first | assumption | exact is_ofInt _ _ | exact is_self) ?_; intro r hr))
    go_ret
    exact ⟨by rw [h.out]; rfl, rfl⟩
  | true =>
    cases h2 : fcmp .leq .f32 s (canon .f32 1065353216) with
    | false =>
      have h : Hid (v = false) := by unfold Hid; rw [← HV.out]; unfold surfB; rw [show (3212836864 : Nat) = canon .f32 3212836864 by decide +kernel, h1, show (1065353216 : Nat) = canon .f32 1065353216 by decide +kernel, h2]; rfl
      go_enter Try.func89, Try.ntmps89
      go_wp2_with (first | (refine wl_bin rfl rfl rfl rfl rfl (by first | assumption | exact is_ofInt _ _ | exact is_self) (by first | assumption | exact is_ofInt _ _ | exact is_self) ?_; intro r n hr) | (refine wl_cmp rfl rfl rfl rfl rfl (by first | assumption | exact is_ofInt _ _ | exact is_self) (by first | assumption | exact is_ofInt _ _ | exact is_self) (by first | assumption | rfl) ?_) | (refine wl_widen rfl rfl rfl (by first | exact rfl | kernel_rfl) (by kernel_rfl) (by first | assumption | exact is_ofInt _ _ | exact is_self) ?_; intro r n hr) | (refine wl_neg rfl rfl rfl (by first | assumption | exact is_ofInt _ _ | exact is_self) ?_; intro r hr))
      go_ret
      exact ⟨by rw [h.out]; rfl, rfl⟩
    | true =>
      have h : Hid (v = true) := by unfold Hid; rw [← HV.out]; unfold surfB; rw [show (3212836864 : Nat) = canon .f32 3212836864 by decide +kernel, h1, show (1065353216 : Nat) = canon .f32 1065353216 by decide +kernel, h2]; rfl
      go_enter Try.func89, Try.ntmps89
      go_wp2_with (first | (refine wl_bin rfl rfl rfl rfl rfl (by first | assumption | exact is_ofInt _ _ | exact is_self) (by first | assumption | exact is_ofInt _ _ | exact is_self) ?_; intro r n hr) | (refine wl_cmp rfl rfl rfl rfl rfl (by first | assumption | exact is_ofInt _ _ | exact is_self) (by first | assumption | exact is_ofInt _ _ | exact is_self) (by first | assumption | rfl) ?_) | (refine wl_widen rfl rfl rfl (by first | exact rfl | kernel_rfl) (by kernel_rfl) (by first | assumption | exact is_ofInt _ _ | exact is_self) ?_; intro r n hr) | (refine wl_neg rfl rfl rfl (by first | assumption | exact is_ofInt _ _ | exact is_self) ?_; intro r hr))
      go_ret
      exact ⟨by rw [h.out]; rfl, rfl⟩
theorem isSurface_any (b s : Nat) (v : Bool) (hb : Is .f32 b s) (hv : surfB s = v) (w : World) : Calls Try.prog 92 #[.float .f32 b] w fun e w' => e = .returned (.bool v) ∧ w = w' := by
  have HV := Lib.hid hv
  clear hv
  cases h1 : fcmp .geq .f32 s (canon .f32 3212836864) with
  | false =>
    have h : Hid (v = false) := by unfold Hid; rw [← HV.out]; unfold surfB; rw [show (3212836864 : Nat) = canon .f32 3212836864 by decide +kernel, h1]; rfl
    go_enter Try.func92, Try.ntmps92
    go_wp2_with (first | (refine wl_bin rfl rfl rfl rfl rfl (by first | assumption | exact is_ofInt _ _ | exact is_self) (by first | assumption | exact is_ofInt _ _ | exact is_self) ?_; intro r n hr) | (refine wl_cmp rfl rfl rfl rfl rfl (by first | assumption | exact is_ofInt _ _ | exact is_self) (by first | assumption | exact is_ofInt _ _ | exact is_self) (by first | assumption | rfl) ?_) | (refine wl_widen rfl rfl rfl (by first | exact rfl | kernel_rfl) (by kernel_rfl) (by first | assumption | exact is_ofInt _ _ | exact is_self) ?_; intro r n hr) | (refine wl_neg rfl rfl rfl (by first | assumption | exact is_ofInt _ _ | exact is_self) ?_; intro r hr))
    go_ret
    exact ⟨by rw [h.out]; rfl, rfl⟩
  | true =>
    cases h2 : fcmp .leq .f32 s (canon .f32 1065353216) with
    | false =>
      have h : Hid (v = false) := by unfold Hid; rw [← HV.out]; unfold surfB; rw [show (3212836864 : Nat) = canon .f32 3212836864 by decide +kernel, h1, show (1065353216 : Nat) = canon .f32 1065353216 by decide +kernel, h2]; rfl
      go_enter Try.func92, Try.ntmps92
      go_wp2_with (first | (refine wl_bin rfl rfl rfl rfl rfl (by first | assumption | exact is_ofInt _ _ | exact is_self) (by first | assumption | exact is_ofInt _ _ | exact is_self) ?_; intro r n hr) | (refine wl_cmp rfl rfl rfl rfl rfl (by first | assumption | exact is_ofInt _ _ | exact is_self) (by first | assumption | exact is_ofInt _ _ | exact is_self) (by first | assumption | rfl) ?_) | (refine wl_widen rfl rfl rfl (by first | exact rfl | kernel_rfl) (by kernel_rfl) (by first | assumption | exact is_ofInt _ _ | exact is_self) ?_; intro r n hr) | (refine wl_neg rfl rfl rfl (by first | assumption | exact is_ofInt _ _ | exact is_self) ?_; intro r hr))
      go_ret
      exact ⟨by rw [h.out]; rfl, rfl⟩
    | true =>
      have h : Hid (v = true) := by unfold Hid; rw [← HV.out]; unfold surfB; rw [show (3212836864 : Nat) = canon .f32 3212836864 by decide +kernel, h1, show (1065353216 : Nat) = canon .f32 1065353216 by decide +kernel, h2]; rfl
      go_enter Try.func92, Try.ntmps92
      go_wp2_with (first | (refine wl_bin rfl rfl rfl rfl rfl (by first | assumption | exact is_ofInt _ _ | exact is_self) (by first | assumption | exact is_ofInt _ _ | exact is_self) ?_; intro r n hr) | (refine wl_cmp rfl rfl rfl rfl rfl (by first | assumption | exact is_ofInt _ _ | exact is_self) (by first | assumption | exact is_ofInt _ _ | exact is_self) (by first | assumption | rfl) ?_) | (refine wl_widen rfl rfl rfl (by first | exact rfl | kernel_rfl) (by kernel_rfl) (by first | assumption | exact is_ofInt _ _ | exact is_self) ?_; intro r n hr) | (refine wl_neg rfl rfl rfl (by first | assumption | exact is_ofInt _ _ | exact is_self) ?_; intro r hr))
      go_ret
      exact ⟨by rw [h.out]; rfl, rfl⟩
end Go.Proofs.Ytnjgcacnfobmiaa
