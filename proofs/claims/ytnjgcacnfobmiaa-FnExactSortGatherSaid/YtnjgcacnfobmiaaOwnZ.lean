/- append onto an empty slice without room: a new block, whose number is known. -/
import Derived.Test.YtnjgcacnfobmiaaFFlatYes
import Derived.Deep.Cut
import Derived.Deep.CutRange
import Derived.Deep.RegionHeld3
import Derived.Deep.RegionLaw
namespace Go.Proofs.Ytnjgcacnfobmiaa
open Go.RowKit
set_option maxRecDepth 100000
set_option linter.unusedVariables false

/-- The cells of a row of its own, n numbers, room for c. -/
def RowOk (cs : Array Value) (c : Nat) (xs : List Nat) : Prop := xs.length ≤ c ∧ c ≤ maxLen ∧ cs.size = c ∧ cs.toList.take xs.length = xs.map (Value.float .f32)
theorem RowOk.own {cs : Array Value} {c : Nat} {xs : List Nat} (h : RowOk cs c xs) {w : World} {g base : Nat} (hg : w.heap[g]? = some (.cells cs 34 (0, 0))) (hb : base ≤ g) : OwnF w base (.slice (some ⟨g, 0, none⟩) xs.length c) xs :=
  ⟨by simp, .inr ⟨g, c, cs, rfl, hb, hg, h.1, h.2.1, by rw [h.2.2.1, Nat.mul_one], by rw [Nat.mul_one]; exact h.2.2.2⟩⟩
theorem ownRows_at {w : World} {g base : Nat} (hg : w.heap[g]? = some (.cells #[] 22 (0, 0))) (hb : base ≤ g) : OwnRows w base (.slice (some ⟨g, 0, none⟩) 0 0) [] [] :=
  ⟨rfl, ⟨by simp, .inr ⟨g, 0, #[], rfl, hb, hg, Nat.le_refl _, by unfold maxLen; omega, rfl, rfl⟩⟩, fun i hi => by simp at hi, fun i k hi => by simp at hi, fun i j k hi => by simp at hi⟩
theorem heap_alloc_if (w : World) (o : Obj) (k : Nat) : (w.alloc o).heap[k]? = if k = w.heap.size then some o else w.heap[k]? := by
  show (w.heap.push o)[k]? = _
  rw [Array.getElem?_push]
theorem heap_here {w : World} {o : Obj} {k : Nat} (h : w.heap.size = k) : (w.alloc o).heap[k]? = some o := by subst h; exact heap_alloc_new w o
theorem heap_past {w : World} {o x : Obj} {k : Nat} (h : w.heap[k]? = some x) : (w.alloc o).heap[k]? = some x := by
  have h1 := (Array.getElem?_eq_some_iff.1 h).1
  rw [heap_alloc_if, if_neg (by omega)]; exact h
theorem heap_drew {w : World} {x : Obj} {k : Nat} (h : w.heap[k]? = some x) : w.drew.heap[k]? = some x := h
theorem size_drew (w : World) : w.drew.heap.size = w.heap.size := rfl
theorem own_start {w0 wx : World} {g gp gr c' : Nat} {t : Int} {cs : Array Value} {ps : List Nat} (hx : Ext w0 wx) (hg : wx.heap[g]? = some (.cells #[.int .i64 t, .slice (some ⟨gp, 0, none⟩) ps.length c', .slice (some ⟨gr, 0, none⟩) 0 0] 25 (0, 0)))
    (hp : wx.heap[gp]? = some (.cells cs 34 (0, 0))) (hr : wx.heap[gr]? = some (.cells #[] 22 (0, 0))) (hrow : RowOk cs c' ps) (n1 : w0.heap.size ≤ g) (n2 : w0.heap.size ≤ gp) (n3 : w0.heap.size ≤ gr) (n4 : gp ≠ g) (n5 : gr ≠ g) (n6 : gp ≠ gr) :
    ∃ g' pv rv, Value.pointer (some ⟨g, 0, none⟩) = .pointer (some ⟨g', 0, none⟩) ∧ Cells wx g' #[.int .i64 t, pv, rv] 25 ∧ OwnF wx w0.heap.size pv ps ∧ OwnRows wx w0.heap.size rv [] [] ∧ w0.heap.size ≤ g' ∧ pv.ownBlock ≠ some g' ∧ rv.ownBlock ≠ some g' ∧ (∀ k, pv.ownBlock = some k → rv.ownBlock ≠ some k) ∧ Ext w0 wx :=
  ⟨g, _, _, rfl, hg, hrow.own hp n2, ownRows_at hr n3, n1, fun e => n4 (by injection e), fun e => n5 (by injection e), fun k e e' => n6 (by injection e with e; injection e' with e'; exact e.trans e'.symm), hx⟩

section
variable {P : Program} {w : World}
theorem append0_eq (hT : P.underlying 22 = some (.slice 34)) {i0 : TypeInfo} (hi : P.info? 34 = some i0) (hz : i0.zero = some (.float .f32 0)) (hs1 : i0.size = 1) (hb4 : i0.bytes = 4)
    {g : Nat} {ad : Addr} {n c : Nat} (h0 : 0 < n) (hl : n ≤ 1073741824) (ty : TypeId) :
    (Builtin.append_ #[22, 22] ty #[.slice (some ⟨g, 0, none⟩) 0 0, .slice (some ad) n c]).run P w = (Builtin.append_ #[22, 22] ty #[.slice none 0 0, .slice (some ad) n c]).run P w := by
  have hn : n ≠ 0 := by omega
  have h63' : ¬ (9223372036854775807 < (n : Int)) := by omega
  have h48' : ¬ (281474976710656 < Builtin.nextslicecap n 0 * i0.bytes) := by rw [nextslicecap_zero h0, hb4]; omega
  simp [Builtin.append_, run_underlying hT, sizeOf, typeInfo, zeroValue, hi, hz, Builtin.lenOf, hn, h63', h48', Question.forced, Builtin.firstCells, loadCells, loadCellsFrom, newRow]
theorem run_append0 (hT : P.underlying 22 = some (.slice 34)) {i0 : TypeInfo} (hi : P.info? 34 = some i0) (hz : i0.zero = some (.float .f32 0)) (hs1 : i0.size = 1) (hb4 : i0.bytes = 4)
    {g : Nat} {ao : Option Addr} {c : Nat} {xs : List Nat} (hc : FR w ao xs) (h0 : 0 < xs.length) (hl : xs.length ≤ 1073741824) (ty : TypeId) :
    ∃ cs c', (Builtin.append_ #[22, 22] ty #[.slice (some ⟨g, 0, none⟩) 0 0, .slice ao xs.length c]).run P w = .ok (.slice (some ⟨w.heap.size, 0, none⟩) xs.length c') (w.drew.alloc (.cells cs 34)) ∧
      RowOk cs c' xs := by
  obtain ⟨b, off, rfl, _⟩ := hc 0 h0
  have hnews : ∀ (j : Nat) (u : Value), (xs.map (Value.float .f32))[j]? = some u → w.cell? ((⟨b, off, none⟩ : Addr).add j) = some u := fun j u hu => by
    rw [List.getElem?_map] at hu
    have hj : j < xs.length := by
      rcases Nat.lt_or_ge j xs.length with h | h
      · exact h
      · rw [List.getElem?_eq_none h] at hu; cases hu
    obtain ⟨b', off', e, hcell⟩ := hc j hj
    simp only [Option.some.injEq, Addr.mk.injEq, and_true] at e
    obtain ⟨rfl, rfl⟩ := e
    rw [List.getElem?_eq_getElem hj] at hu
    simp only [Option.map_some, Option.some.injEq] at hu
    rw [Addr.add_lit, hcell, ← hu, el_eq hj]
  have hr := run_append_nil (P := P) w 22 ty 34 i0 (.float .f32 0) hT hi hz ⟨b, off, none⟩ xs.length c (xs.map (Value.float .f32)) (by simp [hs1]) hnews h0 (by omega) (by rw [hb4]; omega)
  obtain ⟨v', w', hr', h1, _⟩ := run_appendS (P := P) (w := w) (base := w.heap.size) hT hi hz hs1 hb4 (OwnF.nil w _) (Nat.le_refl _) hc (by simpa using hl) (c := c) ty
  rw [hr] at hr'
  injection hr' with e1 e2
  subst e1 e2
  rw [← append0_eq (g := g) hT hi hz hs1 hb4 h0 hl] at hr
  refine ⟨_, _, hr, ?_⟩
  obtain ⟨_, h1 | ⟨g9, cap9, cur9, e9, _, hg9, k1, k2, k3, k4⟩⟩ := h1
  · simp at h1
  · injection e9 with e9 _ e9c
    injection e9 with e9
    injection e9 with e9
    subst e9 e9c
    rw [show w.heap.size = w.drew.heap.size from rfl, heap_alloc_new] at hg9
    injection hg9 with hg9
    injection hg9 with hg9
    subst hg9
    simp only [List.nil_append, Nat.mul_one] at k1 k3 k4
    exact ⟨k1, k2, k3, k4⟩
theorem step_append0 {ops : Array Oper} {o : Oper} {a : Act} {K : Act → World → Prop} {Q : Exit → Act → World → Prop} {E : Prop} (hg : o.guard = none)
    (s x : Operand) (hop : o.op = Op.call { callee := Callee.builtin Builtin.append, args := #[s, x], argTypes := #[22, 22] })
    (hT : P.underlying 22 = some (.slice 34)) {i0 : TypeInfo} (hi : P.info? 34 = some i0) (hz : i0.zero = some (.float .f32 0)) (hs1 : i0.size = 1) (hb4 : i0.bytes = 4)
    {ao : Option Addr} {c : Nat} {xs : List Nat} (hs : ∃ g, a.eval s = .slice (some ⟨g, 0, none⟩) 0 0) (hx : a.eval x = .slice ao xs.length c) (hc : FR w ao xs) (h0 : 0 < xs.length) (hl : xs.length ≤ 1073741824)
    (hK : ∀ cs c', RowOk cs c' xs → K (a.put o.dst (.slice (some ⟨w.heap.size, 0, none⟩) xs.length c')) (w.drew.alloc (.cells cs 34))) :
    if Region.wanted o (yielded ops a.tmps) = true then Oper.wp P o a w K Q else E := by
  have hw : Region.wanted o (yielded ops a.tmps) = true := by simp [Region.wanted, hg]
  rw [if_pos hw]
  obtain ⟨g, hs⟩ := hs
  obtain ⟨cs, c', hr, h1⟩ := run_append0 (P := P) (w := w) (g := g) hT hi hz hs1 hb4 hc h0 hl (c := c) o.type
  unfold Oper.wp
  simp [execOp, hop, resolve, invoke, builtin, hs, hx, hr, Result.andThen]
  exact hK cs c' h1
end
end Go.Proofs.Ytnjgcacnfobmiaa
