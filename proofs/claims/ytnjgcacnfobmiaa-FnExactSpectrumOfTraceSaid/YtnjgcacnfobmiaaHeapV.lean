/- Slices of one-cell values (whole numbers, complex numbers) that are read, or that the call owns. -/
import Derived.Test.YtnjgcacnfobmiaaApp
import Derived.Test.YtnjgcacnfobmiaaGat
namespace Go.Proofs.Ytnjgcacnfobmiaa
open Go.RowKit
set_option maxRecDepth 100000
set_option linter.unusedVariables false
set_option linter.unusedSectionVars false

/-- Number i of a list. -/
def elv {α : Type} [Inhabited α] (xs : List α) (i : Nat) : α := xs.getD i default
theorem elv_eq {α : Type} [Inhabited α] {xs : List α} {i : Nat} (h : i < xs.length) : elv xs i = xs[i] := by simp [elv, List.getD, h]
theorem elv_set {α : Type} [Inhabited α] (xs : List α) (i j : Nat) (r : α) (h : i < xs.length) : elv (xs.set i r) j = if i = j then r else elv xs j := by
  unfold elv
  by_cases hij : i = j
  · subst hij; simp [List.getD, h]
  · simp [List.getD, hij]
theorem take_snocV {α : Type} [Inhabited α] (l : List α) (k : Nat) (h : k < l.length) : l.take (k + 1) = l.take k ++ [elv l k] := by
  rw [List.take_succ_eq_append_getElem h, elv_eq h]
theorem set_midV {α : Type} (a b : List α) (k : Nat) (r : α) (ha : a.length = k) (hb : 0 < b.length) : (a ++ b).set k r = (a ++ [r]) ++ b.drop 1 := by
  subst ha
  rw [List.set_append_right _ _ (Nat.le_refl _), Nat.sub_self, List.append_assoc]
  cases b with
  | nil => simp at hb
  | cons x b => simp

section
variable {α : Type} [Inhabited α] {f : α → Value} {t : TypeId}
/-- The cells behind a slice value are these values. -/
def FRV (f : α → Value) (w : World) (ao : Option Addr) (xs : List α) : Prop :=
  ∀ i, i < xs.length → ∃ b off, ao = some ⟨b, off, none⟩ ∧ w.cell? ⟨b, off + i, none⟩ = some (f (elv xs i))
theorem FRV.ext {w w' : World} {ao : Option Addr} {xs : List α} (h : FRV f w ao xs) (he : Ext w w') : FRV f w' ao xs := fun i hi => by
  obtain ⟨b, off, ha, hc⟩ := h i hi
  exact ⟨b, off, ha, he.cell hc⟩
/-- A slice that the call owns from block 'base' on. -/
def OwnV (f : α → Value) (t : TypeId) (w : World) (base : Nat) (v : Value) (xs : List α) : Prop := w.ownsRow base t 1 v xs.length (xs.map f)
theorem OwnV.drewN {w : World} {base : Nat} {v : Value} {xs : List α} (h : OwnV f t w base v xs) (n : Nat) : OwnV f t (w.drewN n) base v xs := h
theorem OwnV.alloc {w : World} {base : Nat} {v : Value} {xs : List α} (h : OwnV f t w base v xs) (o : Obj) : OwnV f t (w.alloc o) base v xs := World.ownsRow.alloc h o
theorem OwnV.nil (w : World) (base : Nat) : OwnV f t w base (.slice none 0 0) [] := World.ownsRow_nil w base _ 1
theorem OwnV.lt {w : World} {base : Nat} {v : Value} {xs : List α} (h : OwnV f t w base v xs) : ∀ k, v.ownBlock = some k → base ≤ k ∧ k < w.heap.size := World.ownsRow.lt h
theorem OwnV.kept {w w' : World} {base : Nat} {v : Value} {xs : List α} {row : Option Nat} (h : OwnV f t w base v xs) (hg : w.grownBy w' row) (hne : ∀ k, row = some k → v.ownBlock ≠ some k) : OwnV f t w' base v xs := by
  refine World.ownsRow.kept h hg ?_
  cases row with
  | none => cases hv : v.ownBlock <;> simp
  | some k => exact .inr (hne k rfl)
theorem OwnV.ext {w w' : World} {base : Nat} {v : Value} {xs : List α} (h : OwnV f t w base v xs) (he : Ext w w') : OwnV f t w' base v xs := by
  refine OwnV.kept (row := none) h ⟨he.os, he.tape, he.output, he.size, fun k hk _ => Below.block he k hk⟩ (fun k hk => by cases hk)
theorem OwnV.mono {w : World} {base base' : Nat} {v : Value} {xs : List α} (h : OwnV f t w base v xs) (hb : base' ≤ base) : OwnV f t w base' v xs := by
  refine ⟨h.1, h.2.imp id ?_⟩
  rintro ⟨g, cap, cur, h1, h2, h3⟩
  exact ⟨g, cap, cur, h1, Nat.le_trans hb h2, h3⟩
theorem OwnV.cases {w : World} {base : Nat} {v : Value} {xs : List α} (h : OwnV f t w base v xs) :
    (v = .slice none 0 0 ∧ xs = []) ∨ ∃ g cap, v = .slice (some ⟨g, 0, none⟩) xs.length cap ∧ base ≤ g ∧ g < w.heap.size ∧ ∀ i, i < xs.length → w.cell? ⟨g, i, none⟩ = some (f (elv xs i)) := by
  rcases h.2 with ⟨h1, h2⟩ | ⟨g, cap, cur, h1, h2, h3, h4, h5, h6, h7⟩
  · exact .inl ⟨h1, List.eq_nil_of_length_eq_zero h2⟩
  · refine .inr ⟨g, cap, h1, h2, (Array.getElem?_eq_some_iff.1 h3).1, fun i hi => ?_⟩
    subst h1
    rw [World.ownsRow.cellAt h i (by omega)]
    simp [elv, List.getD, hi]
theorem OwnV.fr {w : World} {base : Nat} {v : Value} {xs : List α} (h : OwnV f t w base v xs) :
    ∃ ao cap, v = .slice ao xs.length cap ∧ FRV f w ao xs := by
  rcases h.cases with ⟨rfl, rfl⟩ | ⟨g, cap, rfl, _, _, hc⟩
  · exact ⟨none, 0, rfl, fun i hi => by simp at hi⟩
  · exact ⟨some ⟨g, 0, none⟩, cap, rfl, fun i hi => ⟨g, 0, rfl, by rw [Nat.zero_add]; exact hc i hi⟩⟩
theorem OwnV.stored {w : World} {base g n cap : Nat} {xs : List α} (h : OwnV f t w base (.slice (some ⟨g, 0, none⟩) n cap) xs) (j : Nat) (r : α) :
    OwnV f t (w.setCell ⟨g, j, none⟩ (f r)) base (.slice (some ⟨g, 0, none⟩) n cap) (xs.set j r) ∧ w.grownBy (w.setCell ⟨g, j, none⟩ (f r)) (some g) := by
  unfold OwnV at *
  have hn : xs.length = n := by
    rcases h.2 with ⟨h1, _⟩ | ⟨_, _, _, h1, _⟩
    · cases h1
    · injection h1 with _ h1 _; exact h1.symm
  subst hn
  have := World.ownsRow.stored h j (f r)
  rw [List.length_set, List.map_set]
  exact this
theorem OwnV.frozen {w : World} {base g n cap : Nat} {xs : List α} (h : OwnV f t w base (.slice (some ⟨g, 0, none⟩) n cap) xs) (j : Nat) : w.frozen? ⟨g, j, none⟩ = false := by
  unfold OwnV at h
  rcases h.2 with ⟨h1, _⟩ | ⟨g', cap', cur, h1, _, hg, _⟩
  · cases h1
  · injection h1 with h1 h2 h3
    injection h1 with h1
    injection h1 with h1
    subst h1
    exact frozen_of_row w g j cur _ hg
theorem OwnV.at {w : World} {base n cap : Nat} {ao : Option Addr} {xs : List α} (h : OwnV f t w base (.slice ao n cap) xs) {k : Nat} (hk : k < xs.length) :
    ∃ g, ao = some ⟨g, 0, none⟩ ∧ base ≤ g ∧ g < w.heap.size ∧ w.cell? ⟨g, k, none⟩ = some (f (elv xs k)) ∧ w.frozen? ⟨g, k, none⟩ = false := by
  rcases h.cases with ⟨_, h1⟩ | ⟨g, cp, h1, h2, h3, h4⟩
  · subst h1; simp at hk
  · injection h1 with h1 h5 h6
    subst h1 h5 h6
    exact ⟨g, rfl, h2, h3, h4 k hk, h.frozen k⟩
theorem OwnV.toFR {w : World} {base n cap : Nat} {ao : Option Addr} {xs : List α} (h : OwnV f t w base (.slice ao n cap) xs) : FRV f w ao xs := fun i hi => by
  obtain ⟨g, h1, _, _, h2, _⟩ := h.at hi
  exact ⟨g, 0, h1, by rw [Nat.zero_add]; exact h2⟩
theorem OwnV.chg {w w' : World} {bs : Nat → Prop} {base : Nat} {v : Value} {xs : List α} (h : OwnV f t w base v xs) (hg : Chg bs w w') (hne : ∀ k, v.ownBlock = some k → ¬ bs k) : OwnV f t w' base v xs := by
  refine ⟨h.1, h.2.imp id ?_⟩
  rintro ⟨g, cap, cur, h1, h2, h3, h4⟩
  have h5 := (Array.getElem?_eq_some_iff.1 h3).1
  exact ⟨g, cap, cur, h1, h2, (hg.block g h5 (hne g (by rw [h1]; rfl))).trans h3, h4⟩
theorem ownV_empty (w : World) (w0 : World) (h : Ext w0 w) : OwnV f t (w.alloc (.cells #[] t)) w0.heap.size (.slice (some ⟨w.heap.size, 0, none⟩) 0 0) [] :=
  World.ownsRow_made w #[] 0 h.size (by unfold maxLen; omega) rfl
end

section
variable {α : Type} [Inhabited α] {f : α → Value} {t ts : TypeId} {P : Program} {ops : Array Oper} {Q : Exit → Act → World → Prop} {a : Act} {w : World} {rest : List Oper} {o : Oper}
theorem run_append1V (hf : ∀ x, (f x).cells = #[f x] ∧ (f x).oneCell' = true) (hT : P.underlying ts = some (.slice t)) {i0 : TypeInfo} {z : α} {nb : Nat} (hi : P.info? t = some i0) (hz : i0.zero = some (f z)) (hs1 : i0.size = 1) (hb4 : i0.bytes = nb) (hnb : nb ≤ 8) (hn0 : 0 < nb)
    {base : Nat} {v : Value} {ys : List α} (hown : OwnV f t w base v ys) (hl : ys.length ≤ 1073741824) (hbase : base ≤ w.heap.size) {g : Nat} {r : α} (hc : w.cell? ⟨g, 0, none⟩ = some (f r)) (ty : TypeId) :
    ∃ v' w', (Builtin.append_ #[ts, ts] ty #[v, .slice (some ⟨g, 0, none⟩) 1 1]).run P w = .ok v' w' ∧ OwnV f t w' base v' (ys ++ [r]) ∧ w.grownBy w' v.ownBlock := by
  obtain ⟨v', w', hr, h1, h2, _⟩ := run_append_own (P := P) w base ts ty t i0 (f z) 1 nb hT hi hz hs1 hb4 (by rw [(hf z).1]; rfl) (by omega) v ys.length _ hown ⟨g, 0, none⟩ 1 1 [f r] rfl
    (fun j u hu => by
      cases j with
      | zero => simp only [List.getElem?_cons_zero, Option.some.injEq] at hu; subst hu; exact hc
      | succ j => simp at hu)
    (fun u hu => by simp only [List.mem_singleton] at hu; subst hu; exact (hf r).2) (by unfold maxLen; omega) (by
      have : (ys.length + 1) * nb ≤ (ys.length + 1) * 8 := Nat.mul_le_mul_left _ hnb
      omega) hbase
  refine ⟨v', w', hr, ?_, h2⟩
  unfold OwnV
  rw [List.length_append, List.map_append]
  exact h1
/-- 'out = append(out, x)'. -/
theorem wl_append1V (hf : ∀ x, (f x).cells = #[f x] ∧ (f x).oneCell' = true) (w0 : World) (hg : Region.wanted o (yielded ops a.tmps) = true) (hT : P.underlying ts = some (.slice t)) {i0 : TypeInfo} {z : α} {nb : Nat} (hi : P.info? t = some i0) (hz : i0.zero = some (f z)) (hs1 : i0.size = 1) (hb4 : i0.bytes = nb) (hnb : nb ≤ 8) (hn0 : 0 < nb)
    {s x : Operand} (ho : o.op = .call { callee := .builtin .append, args := #[s, x], argTypes := #[ts, ts] }) {v : Value} {ys : List α} (hs : a.eval s = v) {g : Nat} {r : α} (hx : a.eval x = .slice (some ⟨g, 0, none⟩) 1 1)
    (hown : OwnV f t w w0.heap.size v ys) (hext : Ext w0 w) (hl : ys.length ≤ 1073741824) (hc : w.cell? ⟨g, 0, none⟩ = some (f r))
    (h : ∀ v' w', OwnV f t w' w0.heap.size v' (ys ++ [r]) → Ext w0 w' → wpList P ops Q rest (a.put o.dst v') w') : wpList P ops Q (o :: rest) a w := by
  obtain ⟨v', w', hr, h1, h2⟩ := run_append1V (P := P) (w := w) hf hT hi hz hs1 hb4 hnb hn0 hown hl hext.size hc o.type
  refine wl_of_run hg ?_ (h v' w' h1 (hext.grown h2 fun k hk => (hown.lt k hk).1))
  simp [execOp, ho, resolve, invoke, builtin, hs, hx, hr]
end
end Go.Proofs.Ytnjgcacnfobmiaa
