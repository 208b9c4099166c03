/- The append of one float, with what it leaves alone; lists that are filled behind their first number. -/
import Derived.Test.YtnjgcacnfobmiaaGath
import Derived.Test.YtnjgcacnfobmiaaRec
import Derived.Laws.AppendOwn
import Derived.Deep.OwnRows
namespace Go.Proofs.Ytnjgcacnfobmiaa
open Go.RowKit
set_option maxRecDepth 100000
set_option linter.unusedVariables false

theorem ownB {g n c q : Nat} (h : (Value.slice (some ⟨g, 0, none⟩) n c).ownBlock = some q) : q = g := (Option.some.inj h).symm
theorem chg_setCellD (w : World) (g i : Nat) (u : Value) (n m : Nat) : Chg (fun k => k = g) w (((w.drewN n).setCell ⟨g, i, none⟩ u).drewN m) := by
  have h := chg_setCell w g i u
  exact ⟨h.os, h.tape, h.output, h.size, h.block⟩
theorem chg_setCellE (w : World) (g i : Nat) (u : Value) (n : Nat) : Chg (fun k => k = g) w ((w.drewN n).setCell ⟨g, i, none⟩ u) := by
  have h := chg_setCell w g i u
  exact ⟨h.os, h.tape, h.output, h.size, h.block⟩
theorem cell_newS (w : World) (a : Addr) (u v : Value) (t : TypeId) (n : Nat) : (((w.drewN n).setCell a u).alloc (.cells #[v] t)).cell? ⟨w.heap.size, 0, none⟩ = some v := by
  have h := cell_new ((w.drewN n).setCell a u) v t
  rwa [show ((w.drewN n).setCell a u).heap.size = w.heap.size by simp] at h
theorem made_list (N : Nat) : (madeCells #[Value.float .f32 0] N).toList = (List.replicate N 0).map (Value.float .f32) := by
  apply List.ext_getElem
  · simp [size_madeCells]
  · intro i h1 h2
    simp [madeCells, Nat.mod_one]
theorem OwnF.capN {w : World} {base n cap : Nat} {ao : Option Addr} {xs : List Nat} (h : OwnF w base (.slice ao n cap) xs) : n ≤ cap := by
  rcases h.2 with ⟨h1, h2⟩ | ⟨g, cp, cur, h1, h2, h3, h4, h5⟩
  · injection h1 with _ h1 h6; omega
  · injection h1 with _ h1 h6; omega
theorem ownF_made (w : World) (base N : Nat) (h : base ≤ w.heap.size) (hN : N ≤ 1000000) : OwnF (w.alloc (.cells (madeCells #[.float .f32 0] N) 34)) base (.slice (some ⟨w.heap.size, 0, none⟩) N N) (List.replicate N 0) := by
  refine ⟨by simp, .inr ⟨w.heap.size, N, _, by rw [List.length_replicate], h, heap_alloc_new w _, by rw [List.length_replicate]; exact Nat.le_refl _, by unfold maxLen; omega, by rw [size_madeCells, Nat.mul_one], ?_⟩⟩
  rw [← made_list, List.length_replicate]
  exact List.take_of_length_le (by rw [Array.length_toList, size_madeCells, Nat.mul_one]; exact Nat.le_refl _)
/-- Two slices made in one statement, in either order. -/
theorem two_made (w : World) (n N : Nat) (hN : N ≤ 1000000) :
    OwnF (((w.drewN n).alloc (.cells (madeCells #[.float .f32 0] N) 34)).alloc (.cells (madeCells #[.float .f32 0] N) 34)) w.heap.size (.slice (some ⟨w.heap.size, 0, none⟩) N N) (List.replicate N 0) ∧
    OwnF (((w.drewN n).alloc (.cells (madeCells #[.float .f32 0] N) 34)).alloc (.cells (madeCells #[.float .f32 0] N) 34)) w.heap.size (.slice (some ⟨w.heap.size + 1, 0, none⟩) N N) (List.replicate N 0) ∧
    Ext w (((w.drewN n).alloc (.cells (madeCells #[.float .f32 0] N) 34)).alloc (.cells (madeCells #[.float .f32 0] N) 34)) ∧
    (((w.drewN n).alloc (.cells (madeCells #[.float .f32 0] N) 34)).alloc (.cells (madeCells #[.float .f32 0] N) 34)).heap.size = w.heap.size + 2 := by
  have h1 := size_alloc (w.drewN n) (.cells (madeCells #[.float .f32 0] N) 34)
  have h2 := ownF_made ((w.drewN n).alloc (.cells (madeCells #[.float .f32 0] N) 34)) w.heap.size N (by rw [h1]; show w.heap.size ≤ w.heap.size + 1; omega) hN
  rw [h1] at h2
  refine ⟨(ownF_made (w.drewN n) w.heap.size N (Nat.le_refl _) hN).alloc _, h2, (((Ext.refl w).drewN n).alloc _).alloc _, ?_⟩
  rw [size_alloc, h1]
  rfl
theorem two_made1 (w : World) (N : Nat) (hN : N ≤ 1000000) :
    OwnF (((w.alloc (.cells (madeCells #[.float .f32 0] N) 34)).alloc (.cells (madeCells #[.float .f32 0] N) 34)).drew) w.heap.size (.slice (some ⟨w.heap.size, 0, none⟩) N N) (List.replicate N 0) ∧
    OwnF (((w.alloc (.cells (madeCells #[.float .f32 0] N) 34)).alloc (.cells (madeCells #[.float .f32 0] N) 34)).drew) w.heap.size (.slice (some ⟨w.heap.size + 1, 0, none⟩) N N) (List.replicate N 0) ∧
    Ext w (((w.alloc (.cells (madeCells #[.float .f32 0] N) 34)).alloc (.cells (madeCells #[.float .f32 0] N) 34)).drew) ∧
    (((w.alloc (.cells (madeCells #[.float .f32 0] N) 34)).alloc (.cells (madeCells #[.float .f32 0] N) 34)).drew).heap.size = w.heap.size + 2 := two_made w 1 N hN
section
variable {P : Program} {ops : Array Oper} {Q : Exit → Act → World → Prop} {a : Act} {w : World} {rest : List Oper} {o : Oper}
theorem run_append1K (hT : P.underlying 22 = some (.slice 34)) {i0 : TypeInfo} (hi : P.info? 34 = some i0) (hz : i0.zero = some (.float .f32 0)) (hs1 : i0.size = 1) (hb4 : i0.bytes = 4)
    {base : Nat} {v : Value} {ys : List Nat} (hown : OwnF w base v ys) (hl : ys.length ≤ 1073741824) (hbase : base ≤ w.heap.size) {g r : Nat} (hc : w.cell? ⟨g, 0, none⟩ = some (.float .f32 r)) (ty : TypeId) :
    ∃ v' w', (Builtin.append_ #[22, 22] ty #[v, .slice (some ⟨g, 0, none⟩) 1 1]).run P w = .ok v' w' ∧ OwnF w' base v' (ys ++ [r]) ∧ w.grownBy w' v.ownBlock ∧ (v'.ownBlock = v.ownBlock ∨ v'.ownBlock = some w.heap.size) := by
  obtain ⟨v', w', hr, h1, h2, _, h3⟩ := run_append_own_at (P := P) (w := w) base 22 ty 34 i0 (.float .f32 0) 1 4 hT hi hz hs1 hb4 rfl (by decide) v ys.length _ hown ⟨g, 0, none⟩ 1 1 [.float .f32 r] rfl
    (fun j u hu => by
      cases j with
      | zero => simp only [List.getElem?_cons_zero, Option.some.injEq] at hu; subst hu; exact hc
      | succ j => simp at hu)
    (fun u hu => by simp only [List.mem_singleton] at hu; subst hu; rfl) (by unfold maxLen; omega) (by omega) hbase
  refine ⟨v', w', hr, ?_, h2, h3⟩
  unfold OwnF
  rw [List.length_append, List.map_append]
  exact h1
/-- 'out = append(out, x)'. -/
theorem wl_append1K (w0 : World) (hg : Region.wanted o (yielded ops a.tmps) = true) (hT : P.underlying 22 = some (.slice 34)) {i0 : TypeInfo} (hi : P.info? 34 = some i0) (hz : i0.zero = some (.float .f32 0)) (hs1 : i0.size = 1) (hb4 : i0.bytes = 4)
    {s x : Operand} (ho : o.op = .call { callee := .builtin .append, args := #[s, x], argTypes := #[22, 22] }) {v : Value} {ys : List Nat} (hs : a.eval s = v) {g r : Nat} (hx : a.eval x = .slice (some ⟨g, 0, none⟩) 1 1)
    (hown : OwnF w w0.heap.size v ys) (hext : Ext w0 w) (hl : ys.length ≤ 1073741824) (hc : w.cell? ⟨g, 0, none⟩ = some (.float .f32 r))
    (h : ∀ v' w', OwnF w' w0.heap.size v' (ys ++ [r]) → Ext w0 w' → Chg (fun k => v.ownBlock = some k) w w' → (v'.ownBlock = v.ownBlock ∨ v'.ownBlock = some w.heap.size) → wpList P ops Q rest (a.put o.dst v') w') : wpList P ops Q (o :: rest) a w := by
  obtain ⟨v', w', hr, h1, h2, h3⟩ := run_append1K (P := P) (w := w) hT hi hz hs1 hb4 hown hl hext.size hc o.type
  refine wl_of_run hg ?_ (h v' w' h1 (hext.grown h2 fun k hk => (hown.lt k hk).1) (Chg.of_grown h2 fun k hk => hk) h3)
  simp [execOp, ho, resolve, invoke, builtin, hs, hx, hr]
end
end Go.Proofs.Ytnjgcacnfobmiaa
