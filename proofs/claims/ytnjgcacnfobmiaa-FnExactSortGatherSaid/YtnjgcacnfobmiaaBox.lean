/- Boxes of gathers that the call owns; the lexical walk's laws for operations that make memory, the world behind them a letter. -/
import Derived.Test.YtnjgcacnfobmiaaOwnZ
namespace Go.Proofs.Ytnjgcacnfobmiaa
open Go.RowKit
set_option maxRecDepth 100000
set_option linter.unusedVariables false

/-- A gather of the call's own in a box of its own. -/
def GBox (w : World) (base g : Nat) (t : Int) (pv rv : Value) (vs : List Value) (ps : List Nat) (rs : List (List Nat)) : Prop :=
  Cells w g #[.int .i64 t, pv, rv] 25 ∧ base ≤ g ∧ OwnG w base pv rv vs ps rs ∧ ∀ k, gB pv rv vs k → k ≠ g
section
variable {w w' w2 wa : World} {base g : Nat} {t : Int} {pv rv : Value} {vs : List Value} {ps : List Nat} {rs : List (List Nat)}
theorem GBox.ext (h : GBox w base g t pv rv vs ps rs) (he : Ext w w') : GBox w' base g t pv rv vs ps rs := ⟨h.1.ext he, h.2.1, h.2.2.1.ext he, h.2.2.2⟩
theorem GBox.drewN (h : GBox w base g t pv rv vs ps rs) (n : Nat) : GBox (w.drewN n) base g t pv rv vs ps rs := h
theorem GBox.cells (h : GBox w base g t pv rv vs ps rs) : Cells w g #[.int .i64 t, pv, rv] 25 := h.1
theorem GBox.own (h : GBox w base g t pv rv vs ps rs) : OwnG w base pv rv vs ps rs := h.2.2.1
theorem GBox.rows (h : GBox w base g t pv rv vs ps rs) : OwnRows w base rv vs rs := h.2.2.1.2.1
theorem GBox.places (h : GBox w base g t pv rv vs ps rs) : OwnF w base pv ps := h.2.2.1.1
theorem GBox.lt (h : GBox w base g t pv rv vs ps rs) : g < w.heap.size := h.1.lt
theorem GBox.chg {bs : Nat → Prop} (h : GBox w base g t pv rv vs ps rs) (hg : Chg bs w w') (h1 : ¬ bs g) (h2 : ∀ k, gB pv rv vs k → ¬ bs k) : GBox w' base g t pv rv vs ps rs :=
  ⟨(hg.block g h.1.lt h1).trans h.1, h.2.1, h.2.2.1.chg hg h2, h.2.2.2⟩
theorem GBox.mono {base' : Nat} (h : GBox w base g t pv rv vs ps rs) (hb : base' ≤ base) : GBox w base' g t pv rv vs ps rs := ⟨h.1, Nat.le_trans hb h.2.1, h.2.2.1.mono hb, h.2.2.2⟩
theorem GBox.at0 (h : GBox w base g t pv rv vs ps rs) : w.cell? ⟨g, 0, none⟩ = some (.int .i64 t) := h.1.at 0
theorem GBox.at1 (h : GBox w base g t pv rv vs ps rs) : w.cell? ⟨g, 1, none⟩ = some pv := h.1.at 1
theorem GBox.at2 (h : GBox w base g t pv rv vs ps rs) : w.cell? ⟨g, 2, none⟩ = some rv := h.1.at 2
theorem GBox.fz (h : GBox w base g t pv rv vs ps rs) (i : Nat) : w.frozen? ⟨g, i, none⟩ = false := h.1.fz i
theorem chg_one (w : World) (g i n m : Nat) (v : Value) : Chg (fun q => q = g) w (((w.drewN n).setCell ⟨g, i, none⟩ v).drewN m) := by
  have h := chg_setCell (w.drewN n) g i v
  exact ⟨h.os, h.tape, h.output, h.size, h.block⟩
/-- A row is appended to the box's rows, and the new rows are stored. -/
theorem GBox.row {u v' : Value} {r : List Nat} (h : GBox w base g t pv rv vs ps rs) (he : Ext w w2) (hR : OwnRows wa base v' (vs ++ [u]) (rs ++ [r])) (hC : Chg (fun q => rv.ownBlock = some q) w2 wa) (hv : v'.ownBlock = rv.ownBlock ∨ v'.ownBlock = some w2.heap.size)
    (hu : ∀ k, u.ownBlock = some k → k ≠ g ∧ pv.ownBlock ≠ some k) :
    Cells wa g #[.int .i64 t, pv, rv] 25 ∧ ∀ n m, GBox (((wa.drewN n).setCell ⟨g, 2, none⟩ v').drewN m) base g t pv v' (vs ++ [u]) ps (rs ++ [r]) := by
  have h2 := h.ext he
  have hgl := h.lt
  have hsz := he.size
  have hCa : Cells wa g #[.int .i64 t, pv, rv] 25 := (hC.block g h2.lt (fun e => h.2.2.2 g (.inr (.inl e)) rfl)).trans h2.1
  refine ⟨hCa, fun n m => ?_⟩
  have hck := chg_one wa g 2 n m v'
  have hvg : ∀ q, v'.ownBlock = some q → q ≠ g := fun q e => by
    rcases hv with hv | hv
    · exact h.2.2.2 q (.inr (.inl (hv ▸ e)))
    · rw [hv] at e; injection e with e; omega
  have hrg : ∀ q, rowsB (vs ++ [u]) q → q ≠ g := fun q ⟨i, hi, e⟩ => by
    rw [List.length_append, List.length_singleton] at hi
    rw [va_snoc] at e
    by_cases h1 : i < vs.length
    · rw [if_pos h1] at e; exact h.2.2.2 q (.inr (.inr ⟨i, h1, e⟩))
    · rw [if_neg h1, if_pos (by omega)] at e; exact (hu q e).1
  have hpg : ∀ q, pv.ownBlock = some q → q ≠ g := fun q e => h.2.2.2 q (.inl e)
  have hPl := h.places.lt
  have hPa := h2.places.chg hC (fun q hq e => (h.own.2.2 q hq).1 e)
  refine ⟨hCa.set 2 _, h.2.1, ⟨hPa.chg hck hpg, hR.chg hck hvg hrg, fun q hq => ⟨fun e => ?_, fun ⟨i, hi, e⟩ => ?_⟩⟩, fun q hq => ?_⟩
  · rcases hv with hv | hv
    · exact (h.own.2.2 q hq).1 (hv ▸ e)
    · rw [hv] at e; injection e with e; have := hPl q hq; omega
  · rw [List.length_append, List.length_singleton] at hi
    rw [va_snoc] at e
    by_cases h1 : i < vs.length
    · rw [if_pos h1] at e; exact (h.own.2.2 q hq).2 ⟨i, h1, e⟩
    · rw [if_neg h1, if_pos (by omega)] at e; exact (hu q e).2 hq
  · rcases hq with hq | hq | hq
    · exact hpg q hq
    · exact hvg q hq
    · exact hrg q hq
/-- A number is appended to the box's places, and the new places are stored. -/
theorem GBox.place {v' : Value} {x : Nat} (h : GBox w base g t pv rv vs ps rs) (he : Ext w w2) (hR : OwnF wa base v' (ps ++ [x])) (hC : Chg (fun q => pv.ownBlock = some q) w2 wa) (hv : v'.ownBlock = pv.ownBlock ∨ v'.ownBlock = some w2.heap.size) :
    Cells wa g #[.int .i64 t, pv, rv] 25 ∧ ∀ n m, GBox (((wa.drewN n).setCell ⟨g, 1, none⟩ v').drewN m) base g t v' rv vs (ps ++ [x]) rs := by
  have h2 := h.ext he
  have hgl := h.lt
  have hsz := he.size
  have hCa : Cells wa g #[.int .i64 t, pv, rv] 25 := (hC.block g h2.lt (fun e => h.2.2.2 g (.inl e) rfl)).trans h2.1
  refine ⟨hCa, fun n m => ?_⟩
  have hck := chg_one wa g 1 n m v'
  have hvg : ∀ q, v'.ownBlock = some q → q ≠ g := fun q e => by
    rcases hv with hv | hv
    · exact h.2.2.2 q (.inl (hv ▸ e))
    · rw [hv] at e; injection e with e; omega
  have hRl := h.rows.lt
  have hRa := h2.rows.chg hC (fun q hq e => (h.own.2.2 q e).1 hq) (fun q hq e => (h.own.2.2 q e).2 hq)
  refine ⟨hCa.set 1 _, h.2.1, ⟨hR.chg hck hvg, hRa.chg hck (fun q hq => h.2.2.2 q (.inr (.inl hq))) (fun q hq => h.2.2.2 q (.inr (.inr hq))), fun q hq => ⟨fun e => ?_, fun e => ?_⟩⟩, fun q hq => ?_⟩
  · rcases hv with hv | hv
    · exact (h.own.2.2 q (hv ▸ hq)).1 e
    · rw [hv] at hq; injection hq with hq; have := (hRl.1 q e).2; omega
  · rcases hv with hv | hv
    · exact (h.own.2.2 q (hv ▸ hq)).2 e
    · rw [hv] at hq; injection hq with hq; have := (hRl.2 q e).2; omega
  · rcases hq with hq | hq | hq
    · exact hvg q hq
    · exact h.2.2.2 q (.inr (.inl hq))
    · exact h.2.2.2 q (.inr (.inr hq))
end
/-- The gather in the box is handed out by way of a block x that was there before the box's base. -/
theorem GBox.out {w w0 wr : World} {g x : Nat} {t : Int} {pv rv : Value} {vs : List Value} {ps : List Nat} {rs : List (List Nat)} (a b c : Value) (E0 : Ext w w0) (h1 : w.heap.size ≤ x) (h2 : x < w0.heap.size) (hG : GBox wr w0.heap.size g t pv rv vs ps rs) (hE : Ext w0 wr) :
    Ext w (((wr.setCell ⟨x, 0, none⟩ a).setCell ⟨x, 1, none⟩ b).setCell ⟨x, 2, none⟩ c) ∧ OwnG (((wr.setCell ⟨x, 0, none⟩ a).setCell ⟨x, 1, none⟩ b).setCell ⟨x, 2, none⟩ c) w.heap.size pv rv vs ps rs := by
  have hcR := (((chg_setCell wr x 0 a).trans (chg_setCell _ x 1 b)).trans (chg_setCell _ x 2 c))
  have hl := hG.own.lt
  exact ⟨Ext.setCell (Ext.setCell (Ext.setCell (E0.trans hE) h1 _) h1 _) h1 _, (hG.own.chg hcR (fun q hq e => by have h3 := hl q hq; have e' : q = x := e; omega)).mono E0.size⟩
theorem Chg.of_drewN {bs : Nat → Prop} {w wa : World} {n : Nat} (h : Chg bs (w.drewN n) wa) : Chg bs w wa := ⟨h.os, h.tape, h.output, h.size, h.block⟩

/-! ### The lexical walk -/
section
variable {P : Program} {ops : Array Oper} {Q : Exit → Act → World → Prop} {a : Act} {w : World} {rest : List Oper} {o : Oper}
variable {U : Nat → World → Prop} {eff : Nat → Bool} {An : Nat → Value → Prop} {k : Nat}
/-- An operation that makes a block (alloc, buildSlice). -/
theorem lx_new (hg : Region.wanted o (yielded ops a.tmps) = true) (he : eff k = true) {v : Value} {b : Obj} (hr : ∀ n, (execOp a.eval o).run P (w.drewN n) = .ok (.value v) ((w.drewN n).alloc b)) (hU : ∀ w', Ext w w' → AftU .any ops U k w')
    (h : ∀ w', Ext w w' → w'.heap[w.heap.size]? = some b → w'.heap.size = w.heap.size + 1 → wpLex P ops U eff An Q (k + 1) rest (a.put o.dst v) w') : wpLex P ops U eff An Q k (o :: rest) a w :=
  lx_effV hg he hr (fun n => hU _ (((Ext.refl w).drewN n).alloc _)) fun n => h _ (((Ext.refl w).drewN n).alloc _) (heap_here rfl) (size_alloc _ _)
/-- append onto an empty slice without room. -/
theorem lx_app0 (hT : P.underlying 22 = some (.slice 34)) {i0 : TypeInfo} (hi : P.info? 34 = some i0) (hz : i0.zero = some (.float .f32 0)) (hs1 : i0.size = 1) (hb4 : i0.bytes = 4)
    (hg : Region.wanted o (yielded ops a.tmps) = true) (he : eff k = true) {s x : Operand} (ho : o.op = .call { callee := .builtin .append, args := #[s, x], argTypes := #[22, 22] }) {g c : Nat} {ao : Option Addr} {xs : List Nat} (hs : a.eval s = .slice (some ⟨g, 0, none⟩) 0 0) (hx : a.eval x = .slice ao xs.length c)
    (hc : FR w ao xs) (h0 : 0 < xs.length) (hl : xs.length ≤ 1073741824) (hU : ∀ w', Ext w w' → AftU .any ops U k w')
    (h : ∀ w' c', Ext w w' → OwnF w' w.heap.size (.slice (some ⟨w.heap.size, 0, none⟩) xs.length c') xs → w'.heap.size = w.heap.size + 1 → wpLex P ops U eff An Q (k + 1) rest (a.put o.dst (.slice (some ⟨w.heap.size, 0, none⟩) xs.length c')) w') : wpLex P ops U eff An Q k (o :: rest) a w :=
  lx_append hg he ho hs hx fun n => by
    obtain ⟨cs, c', hr, hrow⟩ := run_append0 (P := P) (w := w.drewN n) (g := g) hT hi hz hs1 hb4 (hc.drewN n) h0 hl (c := c) o.type
    have hE : Ext w ((w.drewN n).drew.alloc (.cells cs 34)) := (((Ext.refl w).drewN n).drew).alloc _
    exact ⟨_, _, hr, hU _ hE, h _ c' hE (hrow.own (heap_here rfl) (Nat.le_refl _)) (size_alloc _ _)⟩
/-- append of one row. -/
theorem lx_appR (hT : P.underlying 23 = some (.slice 22)) {i1 : TypeInfo} (hi : P.info? 22 = some i1) (hz : i1.zero = some (.slice none 0 0)) (hs1 : i1.size = 1) (hb4 : i1.bytes = 24)
    (hg : Region.wanted o (yielded ops a.tmps) = true) (he : eff k = true) {s x : Operand} (ho : o.op = .call { callee := .builtin .append, args := #[s, x], argTypes := #[23, 23] }) {g base : Nat} {v u : Value} {r : List Nat} {vs : List Value} {rs : List (List Nat)}
    (hs : a.eval s = v) (hx : a.eval x = .slice (some ⟨g, 0, none⟩) 1 1) (hown : OwnRows w base v vs rs) (hl : rs.length ≤ 1073741824) (hbase : base ≤ w.heap.size) (hc : w.cell? ⟨g, 0, none⟩ = some u) (hu : OwnF w base u r)
    (hgu : u.ownBlock ≠ v.ownBlock ∨ u.ownBlock = none) (hd : ∀ j k, j < vs.length → u.ownBlock = some k → (va vs j).ownBlock ≠ some k) (hU : ∀ wa, Chg (fun q => v.ownBlock = some q) w wa → AftU .any ops U k wa)
    (h : ∀ v' wa, OwnRows wa base v' (vs ++ [u]) (rs ++ [r]) → Chg (fun q => v.ownBlock = some q) w wa → (v'.ownBlock = v.ownBlock ∨ v'.ownBlock = some w.heap.size) → wpLex P ops U eff An Q (k + 1) rest (a.put o.dst v') wa) : wpLex P ops U eff An Q k (o :: rest) a w :=
  lx_append hg he ho hs hx fun n => by
    obtain ⟨v', wa, hr, hR, hG, hv⟩ := run_appendR (P := P) (w := w.drewN n) hT hi hz hs1 hb4 (hown.drewN n) hl hbase hc (hu.drewN n) hgu hd o.type
    have hC : Chg (fun q => v.ownBlock = some q) w wa := Chg.of_drewN (Chg.of_grown hG (fun k e => e))
    exact ⟨v', wa, hr, hU wa hC, h v' wa hR hC hv⟩
theorem run_append1at (hT : P.underlying 22 = some (.slice 34)) {i0 : TypeInfo} (hi : P.info? 34 = some i0) (hz : i0.zero = some (.float .f32 0)) (hs1 : i0.size = 1) (hb4 : i0.bytes = 4)
    {base : Nat} {v : Value} {ys : List Nat} (hown : OwnF w base v ys) (hl : ys.length ≤ 1073741824) (hbase : base ≤ w.heap.size) {g r : Nat} (hc : w.cell? ⟨g, 0, none⟩ = some (.float .f32 r)) (ty : TypeId) :
    ∃ v' w', (Builtin.append_ #[22, 22] ty #[v, .slice (some ⟨g, 0, none⟩) 1 1]).run P w = .ok v' w' ∧ OwnF w' base v' (ys ++ [r]) ∧ w.grownBy w' v.ownBlock ∧ (v'.ownBlock = v.ownBlock ∨ v'.ownBlock = some w.heap.size) := by
  obtain ⟨v', w', hr, h1, h2, _, h3⟩ := run_append_own_at (P := P) (w := w) base 22 ty 34 i0 (.float .f32 0) 1 4 hT hi hz hs1 hb4 rfl (by decide) v ys.length _ hown ⟨g, 0, none⟩ 1 1 [.float .f32 r] rfl
    (fun j u hu => by
      cases j with
      | zero => simp only [List.getElem?_cons_zero, Option.some.injEq] at hu; subst hu; exact hc
      | succ j => simp at hu)
    (fun u hu => by simp only [List.mem_singleton] at hu; subst hu; rfl) (by unfold maxLen; omega) (by omega) hbase
  refine ⟨v', w', hr, ?_, h2, h3⟩
  unfold OwnF
  rw [List.length_append, List.map_append]
  exact h1
/-- append of one number. -/
theorem lx_appF (hT : P.underlying 22 = some (.slice 34)) {i0 : TypeInfo} (hi : P.info? 34 = some i0) (hz : i0.zero = some (.float .f32 0)) (hs1 : i0.size = 1) (hb4 : i0.bytes = 4)
    (hg : Region.wanted o (yielded ops a.tmps) = true) (he : eff k = true) {s x : Operand} (ho : o.op = .call { callee := .builtin .append, args := #[s, x], argTypes := #[22, 22] }) {g base r : Nat} {v : Value} {ys : List Nat}
    (hs : a.eval s = v) (hx : a.eval x = .slice (some ⟨g, 0, none⟩) 1 1) (hown : OwnF w base v ys) (hl : ys.length ≤ 1073741824) (hbase : base ≤ w.heap.size) (hc : w.cell? ⟨g, 0, none⟩ = some (.float .f32 r)) (hU : ∀ wa, Chg (fun q => v.ownBlock = some q) w wa → AftU .any ops U k wa)
    (h : ∀ v' wa, OwnF wa base v' (ys ++ [r]) → Chg (fun q => v.ownBlock = some q) w wa → (v'.ownBlock = v.ownBlock ∨ v'.ownBlock = some w.heap.size) → wpLex P ops U eff An Q (k + 1) rest (a.put o.dst v') wa) : wpLex P ops U eff An Q k (o :: rest) a w :=
  lx_append hg he ho hs hx fun n => by
    obtain ⟨v', wa, hr, hR, hG, hv⟩ := run_append1at (P := P) (w := w.drewN n) hT hi hz hs1 hb4 (hown.drewN n) hl hbase hc o.type
    have hC : Chg (fun q => v.ownBlock = some q) w wa := Chg.of_drewN (Chg.of_grown hG (fun k e => e))
    exact ⟨v', wa, hr, hU wa hC, h v' wa hR hC hv⟩
end
end Go.Proofs.Ytnjgcacnfobmiaa
