/- append of a whole slice; slices.Clone. -/
import Derived.Test.YtnjgcacnfobmiaaIs
import Derived.Lib.SliceRun
namespace Go.Proofs.Ytnjgcacnfobmiaa
open Go.RowKit
set_option maxRecDepth 100000
theorem OwnF.capLe {w : World} {base n cap : Nat} {ao : Option Addr} {xs : List Nat} (h : OwnF w base (.slice ao n cap) xs) : n ≤ cap := by
  rcases h.2 with ⟨h1, _⟩ | ⟨g, cap', cur, h1, _, _, h2, _⟩
  · injection h1 with _ h1 h2; omega
  · injection h1 with h1 h3 h4; omega
section
variable {P : Program} {ops : Array Oper} {Q : Exit → Act → World → Prop} {a : Act} {w : World} {rest : List Oper} {o : Oper}
/-- append(v, x...). -/
theorem run_appendS (hT : P.underlying 22 = some (.slice 34)) {i0 : TypeInfo} (hi : P.info? 34 = some i0) (hz : i0.zero = some (.float .f32 0)) (hs1 : i0.size = 1) (hb4 : i0.bytes = 4)
    {base : Nat} {v : Value} {ys : List Nat} (hown : OwnF w base v ys) (hbase : base ≤ w.heap.size) {ao : Option Addr} {c : Nat} {xs : List Nat} (hc : FR w ao xs) (hl : ys.length + xs.length ≤ 1073741824) (ty : TypeId) :
    ∃ v' w', (Builtin.append_ #[22, 22] ty #[v, .slice ao xs.length c]).run P w = .ok v' w' ∧ OwnF w' base v' (ys ++ xs) ∧ w.grownBy w' v.ownBlock := by
  by_cases hx : xs = []
  · subst hx
    rw [List.append_nil]
    refine ⟨v, w, ?_, hown, grownBy_refl _ _⟩
    rcases hown.2 with ⟨rfl, _⟩ | ⟨g, cap, cur, rfl, _, _, hnc, _⟩
    · cases ao <;> simp [Builtin.append_, run_underlying hT, sizeOf, typeInfo, hi, Builtin.lenOf, Builtin.firstCells, loadCells, loadCellsFrom]
    · cases ao <;> simp [Builtin.append_, run_underlying hT, sizeOf, typeInfo, hi, Builtin.lenOf, Builtin.firstCells, loadCells, loadCellsFrom, hnc, storeCells]
  · have h0 : 0 < xs.length := List.length_pos_iff.2 hx
    obtain ⟨b, off, rfl, _⟩ := hc 0 h0
    obtain ⟨v', w', hr, h1, h2, _⟩ := run_append_own (P := P) w base 22 ty 34 i0 (.float .f32 0) 1 4 hT hi hz hs1 hb4 rfl (by decide) v ys.length _ hown ⟨b, off, none⟩ xs.length c (xs.map (Value.float .f32)) (by simp)
      (fun j u hu => by
        rw [List.getElem?_map] at hu
        have hj : j < xs.length := by
          rcases Nat.lt_or_ge j xs.length with h | h
          · exact h
          · rw [List.getElem?_eq_none h] at hu; cases hu
        obtain ⟨b', off', e, hcell⟩ := hc j hj
        simp only [Option.some.injEq, Addr.mk.injEq, and_true] at e
        obtain ⟨rfl, rfl⟩ := e
        rw [List.getElem?_eq_getElem hj] at hu
        simp only [Option.map_some, Option.some.injEq] at hu
        subst hu
        rw [Addr.add_lit, hcell, el_eq hj])
      (fun u hu => by obtain ⟨x, _, rfl⟩ := List.mem_map.1 hu; rfl) (by unfold maxLen; omega) (by omega) hbase
    refine ⟨v', w', hr, ?_, h2⟩
    unfold OwnF
    rw [List.length_append, List.map_append]
    exact h1
theorem wl_appendS (w0 : World) (hg : Region.wanted o (yielded ops a.tmps) = true) (hT : P.underlying 22 = some (.slice 34)) {i0 : TypeInfo} (hi : P.info? 34 = some i0) (hz : i0.zero = some (.float .f32 0)) (hs1 : i0.size = 1) (hb4 : i0.bytes = 4)
    {s x : Operand} (ho : o.op = .call { callee := .builtin .append, args := #[s, x], argTypes := #[22, 22] }) {v : Value} {ys : List Nat} (hs : a.eval s = v) {ao : Option Addr} {c : Nat} {xs : List Nat} (hx : a.eval x = .slice ao xs.length c)
    (hown : OwnF w w0.heap.size v ys) (hext : Ext w0 w) (hc : FR w ao xs) (hl : ys.length + xs.length ≤ 1073741824)
    (h : ∀ v' w', OwnF w' w0.heap.size v' (ys ++ xs) → Ext w0 w' → wpList P ops Q rest (a.put o.dst v') w') : wpList P ops Q (o :: rest) a w := by
  obtain ⟨v', w', hr, h1, h2⟩ := run_appendS (P := P) (w := w) hT hi hz hs1 hb4 hown hext.size hc hl (c := c) o.type
  refine wl_of_run hg ?_ (h v' w' h1 (hext.grown h2 fun k hk => (hown.lt k hk).1))
  simp [execOp, ho, resolve, invoke, builtin, hs, hx, hr]
/-- 'out = append(out, x)' in a region that draws its order; the worlds are those that have grown out of w0. -/
theorem lx_append1 {w0 : World} {eff : Nat → Bool} {An : Nat → Value → Prop} {k : Nat} (hg : Region.wanted o (yielded ops a.tmps) = true) (he : eff k = true) (hT : P.underlying 22 = some (.slice 34)) {i0 : TypeInfo} (hi : P.info? 34 = some i0) (hz : i0.zero = some (.float .f32 0)) (hs1 : i0.size = 1) (hb4 : i0.bytes = 4)
    {s x : Operand} (ho : o.op = .call { callee := .builtin .append, args := #[s, x], argTypes := #[22, 22] }) {v : Value} {ys : List Nat} (hs : a.eval s = v) {g r : Nat} (hx : a.eval x = .slice (some ⟨g, 0, none⟩) 1 1)
    (hown : OwnF w w0.heap.size v ys) (hext : Ext w0 w) (hl : ys.length ≤ 1073741824) (hc : w.cell? ⟨g, 0, none⟩ = some (.float .f32 r))
    (h : ∀ v' w', OwnF w' w0.heap.size v' (ys ++ [r]) → Ext w0 w' → wpLex P ops (fun _ => Ext w0) eff An Q (k + 1) rest (a.put o.dst v') w') : wpLex P ops (fun _ => Ext w0) eff An Q k (o :: rest) a w := by
  refine lx_eff hg he fun n => ?_
  obtain ⟨v', w', hr, h1, h2⟩ := run_append1 (P := P) (w := w.drewN n) hT hi hz hs1 hb4 (hown.drewN n) hl (hext.drewN n).size hc o.type
  have hE : Ext w0 w' := (hext.drewN n).grown h2 fun k hk => (hown.lt k hk).1
  refine ⟨v', w', .inl ?_, fun _ _ _ => hE, h v' w' h1 hE⟩
  simp [execOp, ho, resolve, invoke, builtin, hs, hx, hr]
end
/-- A slice of its own with these very bits. -/
def GivesX (xs : List Nat) (w : World) (e : Ending) (w' : World) : Prop := ∃ v, e = .returned v ∧ Ext w w' ∧ OwnF w' w.heap.size v xs
theorem clone_any (ao : Option Addr) (cap : Nat) (xs : List Nat) (w : World) (hc : FR w ao xs) (hl : xs.length ≤ 1048576) :
    Calls Try.prog 80 #[.slice ao xs.length cap] w (GivesX xs w) := by
  obtain ⟨i0, hi0, hz0, hs0, hb0⟩ := info_parts info32
  have hnil := fun (u : World) => Lib.run_eql_slice_nil (P := Try.prog) u 22 34 ao xs.length cap 0 0 Try.underlying22
  cases ao with
  | none =>
    have hx : Hid (xs = []) := by
      cases xs with
      | nil => rfl
      | cons x xs => obtain ⟨_, _, h, _⟩ := hc 0 (by simp); cases h
    go_enter Try.func80, Try.ntmps80
    go_wp2
    go_ret
    exact ⟨_, rfl, Ext.refl _, by rw [hx.out]; exact OwnF.nil _ _⟩
  | some ad =>
    go_enter Try.func80, Try.ntmps80
    go_wp2_with (at_builtin; refine wl_appendS w rfl Try.underlying22 hi0 hz0 hs0 hb0 rfl rfl rfl (ownF_empty _ _ (Ext.refl _)) (by repeat (first | assumption | exact Ext.refl _ | apply Ext.drewN | apply Ext.alloc | (refine Ext.setCell ?_ (by first | assumption | exact Nat.le_refl _) _))) (hc.ext ((Ext.refl _).alloc _)) (by simp; omega) ?_; intro v2 w2 hO2 hE2)
    go_ret
    exact ⟨_, rfl, hE2, hO2⟩
end Go.Proofs.Ytnjgcacnfobmiaa
