/- What the proofs say of memory: slices of floats that are read, slices of floats that the call owns, worlds that have grown. -/
import Derived.Test.YtnjgcacnfobmiaaFlw
import Derived.Lib.Hide
import Derived.Deep.Slices
namespace Go.Proofs.Ytnjgcacnfobmiaa
open Go.RowKit
set_option maxRecDepth 100000

/-- Number i of a list (bits). -/
def el (xs : List Nat) (i : Nat) : Nat := xs.getD i 0
theorem el_eq {xs : List Nat} {i : Nat} (h : i < xs.length) : el xs i = xs[i] := by simp [el, List.getD, h]

/-- What was there has not turned. -/
def Ext (w w' : World) : Prop := Below w.heap.size w w'
theorem Ext.refl (w : World) : Ext w w := Below.refl _ _
theorem Ext.size {w w' : World} (h : Ext w w') : w.heap.size ≤ w'.heap.size := Below.size h
theorem Ext.trans {a b c : World} (h : Ext a b) (k : Ext b c) : Ext a c := Below.trans h (Below.mono k h.size)
theorem Ext.drewN {a w : World} (h : Ext a w) (n : Nat) : Ext a (w.drewN n) := ⟨h.os, h.tape, h.output, h.size, h.block⟩
theorem Ext.drew {a w : World} (h : Ext a w) : Ext a w.drew := h.drewN 1
theorem Ext.of_drewN {a w : World} {n : Nat} (h : Ext (a.drewN n) w) : Ext a w := by
  have h1 := h.os
  have h2 := h.tape
  have h3 := h.output
  have h4 := Below.size h
  have h5 := fun k hk => Below.block h k hk
  exact ⟨h1, h2, h3, h4, h5⟩
theorem Ext.alloc {a w : World} (h : Ext a w) (o : Obj) : Ext a (w.alloc o) := Below.alloc h h.size o
theorem Ext.setCell {a w : World} (h : Ext a w) {p : Addr} (hp : a.heap.size ≤ p.block) (u : Value) : Ext a (w.setCell p u) := Below.setCell h hp u
theorem Ext.grown {a w w' : World} {row : Option Nat} (h : Ext a w) (hg : w.grownBy w' row) (hr : ∀ k, row = some k → a.heap.size ≤ k) : Ext a w' := Below.grown h hg h.size hr
theorem Ext.cell {w w' : World} (h : Ext w w') {b o : Nat} {v : Value} (hv : w.cell? ⟨b, o, none⟩ = some v) : w'.cell? ⟨b, o, none⟩ = some v :=
  (Below.cell h (p := ⟨b, o, none⟩) (World.block_lt_of_cell? w _ hv)).trans hv
theorem Ext.below {w w' : World} (h : Ext w w') : Below w.heap.size w w' := h

/-- The cells behind a slice value are these floats (bits). -/
def FR (w : World) (ao : Option Addr) (xs : List Nat) : Prop :=
  ∀ i, i < xs.length → ∃ b off, ao = some ⟨b, off, none⟩ ∧ w.cell? ⟨b, off + i, none⟩ = some (.float .f32 (el xs i))
theorem FR.ext {w w' : World} {ao : Option Addr} {xs : List Nat} (h : FR w ao xs) (he : Ext w w') : FR w' ao xs := fun i hi => by
  obtain ⟨b, off, ha, hc⟩ := h i hi
  exact ⟨b, off, ha, he.cell hc⟩
theorem FR.drewN {w : World} {ao : Option Addr} {xs : List Nat} (h : FR w ao xs) (n : Nat) : FR (w.drewN n) ao xs := h

/-- A slice of floats that the call owns from block 'base' on. -/
def OwnF (w : World) (base : Nat) (v : Value) (xs : List Nat) : Prop := w.ownsRow base 34 1 v xs.length (xs.map (Value.float .f32))
theorem OwnF.drewN {w : World} {base : Nat} {v : Value} {xs : List Nat} (h : OwnF w base v xs) (n : Nat) : OwnF (w.drewN n) base v xs := h
theorem OwnF.alloc {w : World} {base : Nat} {v : Value} {xs : List Nat} (h : OwnF w base v xs) (o : Obj) : OwnF (w.alloc o) base v xs := World.ownsRow.alloc h o
theorem OwnF.nil (w : World) (base : Nat) : OwnF w base (.slice none 0 0) [] := World.ownsRow_nil w base _ 1
theorem OwnF.lt {w : World} {base : Nat} {v : Value} {xs : List Nat} (h : OwnF w base v xs) : ∀ k, v.ownBlock = some k → base ≤ k ∧ k < w.heap.size := World.ownsRow.lt h
theorem OwnF.kept {w w' : World} {base : Nat} {v : Value} {xs : List Nat} {row : Option Nat} (h : OwnF w base v xs) (hg : w.grownBy w' row) (hne : ∀ k, row = some k → v.ownBlock ≠ some k) : OwnF w' base v xs := by
  refine World.ownsRow.kept h hg ?_
  cases row with
  | none => cases hv : v.ownBlock <;> simp
  | some k => exact .inr (hne k rfl)
theorem OwnF.ext {w w' : World} {base : Nat} {v : Value} {xs : List Nat} (h : OwnF w base v xs) (he : Ext w w') : OwnF w' base v xs := by
  refine OwnF.kept (row := none) h ⟨he.os, he.tape, he.output, he.size, fun k hk _ => Below.block he k hk⟩ (fun k hk => by cases hk)
theorem OwnF.mono {w : World} {base base' : Nat} {v : Value} {xs : List Nat} (h : OwnF w base v xs) (hb : base' ≤ base) : OwnF w base' v xs := by
  refine ⟨h.1, h.2.imp id ?_⟩
  rintro ⟨g, cap, cur, h1, h2, h3⟩
  exact ⟨g, cap, cur, h1, Nat.le_trans hb h2, h3⟩
theorem OwnF.cases {w : World} {base : Nat} {v : Value} {xs : List Nat} (h : OwnF w base v xs) :
    (v = .slice none 0 0 ∧ xs = []) ∨ ∃ g cap, v = .slice (some ⟨g, 0, none⟩) xs.length cap ∧ base ≤ g ∧ g < w.heap.size ∧ ∀ i, i < xs.length → w.cell? ⟨g, i, none⟩ = some (.float .f32 (el xs i)) := by
  rcases h.2 with ⟨h1, h2⟩ | ⟨g, cap, cur, h1, h2, h3, h4, h5, h6, h7⟩
  · exact .inl ⟨h1, List.eq_nil_of_length_eq_zero h2⟩
  · refine .inr ⟨g, cap, h1, h2, (Array.getElem?_eq_some_iff.1 h3).1, fun i hi => ?_⟩
    subst h1
    rw [World.ownsRow.cellAt h i (by omega)]
    simp [el, List.getD, hi]
theorem OwnF.fr {w : World} {base : Nat} {v : Value} {xs : List Nat} (h : OwnF w base v xs) :
    ∃ ao cap, v = .slice ao xs.length cap ∧ FR w ao xs := by
  rcases h.cases with ⟨rfl, rfl⟩ | ⟨g, cap, rfl, _, _, hc⟩
  · exact ⟨none, 0, rfl, fun i hi => by simp at hi⟩
  · exact ⟨some ⟨g, 0, none⟩, cap, rfl, fun i hi => ⟨g, 0, rfl, by rw [Nat.zero_add]; exact hc i hi⟩⟩
/-- A store into it. -/
theorem OwnF.stored {w : World} {base g n cap : Nat} {xs : List Nat} (h : OwnF w base (.slice (some ⟨g, 0, none⟩) n cap) xs) (j r : Nat) :
    OwnF (w.setCell ⟨g, j, none⟩ (.float .f32 r)) base (.slice (some ⟨g, 0, none⟩) n cap) (xs.set j r) ∧ w.grownBy (w.setCell ⟨g, j, none⟩ (.float .f32 r)) (some g) := by
  unfold OwnF at *
  have hn : xs.length = n := by
    rcases h.2 with ⟨h1, _⟩ | ⟨_, _, _, h1, _⟩
    · cases h1
    · injection h1 with _ h1 _; exact h1.symm
  subst hn
  have := World.ownsRow.stored h j (.float .f32 r)
  rw [List.length_set, List.map_set]
  exact this
theorem OwnF.frozen {w : World} {base g n cap : Nat} {xs : List Nat} (h : OwnF w base (.slice (some ⟨g, 0, none⟩) n cap) xs) (j : Nat) : w.frozen? ⟨g, j, none⟩ = false := by
  unfold OwnF at h
  rcases h.2 with ⟨h1, _⟩ | ⟨g', cap', cur, h1, _, hg, _⟩
  · cases h1
  · injection h1 with h1 h2 h3
    injection h1 with h1
    injection h1 with h1
    subst h1
    exact frozen_of_row w g j cur _ hg

theorem OwnF.at {w : World} {base n cap : Nat} {ao : Option Addr} {xs : List Nat} (h : OwnF w base (.slice ao n cap) xs) {k : Nat} (hk : k < xs.length) :
    ∃ g, ao = some ⟨g, 0, none⟩ ∧ base ≤ g ∧ g < w.heap.size ∧ w.cell? ⟨g, k, none⟩ = some (.float .f32 (el xs k)) ∧ w.frozen? ⟨g, k, none⟩ = false := by
  rcases h.cases with ⟨_, h1⟩ | ⟨g, cp, h1, h2, h3, h4⟩
  · subst h1; simp at hk
  · injection h1 with h1 h5 h6
    subst h1 h5 h6
    exact ⟨g, rfl, h2, h3, h4 k hk, h.frozen k⟩
theorem OwnF.at' {w : World} {base n cap g : Nat} {xs : List Nat} (h : OwnF w base (.slice (some ⟨g, 0, none⟩) n cap) xs) {k : Nat} (hk : k < xs.length) :
    w.cell? ⟨g, k, none⟩ = some (.float .f32 (el xs k)) ∧ w.frozen? ⟨g, k, none⟩ = false := by
  obtain ⟨g', h1, _, _, h2, h3⟩ := h.at hk
  simp only [Option.some.injEq, Addr.mk.injEq, and_true] at h1
  subst h1
  exact ⟨h2, h3⟩
theorem OwnF.len {w : World} {base n cap : Nat} {ao : Option Addr} {xs : List Nat} (h : OwnF w base (.slice ao n cap) xs) : n = xs.length := by
  rcases h.cases with ⟨h1, h2⟩ | ⟨g, cp, h1, _⟩
  · injection h1 with _ h1 _; subst h2; exact h1
  · injection h1
theorem OwnF.toFR {w : World} {base n cap : Nat} {ao : Option Addr} {xs : List Nat} (h : OwnF w base (.slice ao n cap) xs) : FR w ao xs := fun i hi => by
  obtain ⟨g, h1, _, _, h2, _⟩ := h.at hi
  exact ⟨g, 0, h1, by rw [Nat.zero_add]; exact h2⟩
theorem grownBy_refl (w : World) (row : Option Nat) : w.grownBy w row := ⟨rfl, rfl, rfl, Nat.le_refl _, fun _ _ _ => rfl⟩
theorem grownBy_trans {a b c : World} {row : Option Nat} (h : a.grownBy b row) (k : b.grownBy c row) : a.grownBy c row :=
  ⟨k.os.trans h.os, k.tape.trans h.tape, k.output.trans h.output, Nat.le_trans h.size k.size, fun i hi hn => (k.block i (Nat.lt_of_lt_of_le hi h.size) hn).trans (h.block i hi hn)⟩
theorem grownBy_drewN {a b : World} {row : Option Nat} (h : a.grownBy b row) (n : Nat) : a.grownBy (b.drewN n) row := ⟨h.os, h.tape, h.output, h.size, h.block⟩
theorem OwnF.at_ne {w : World} {base : Nat} {v : Value} {xs : List Nat} (h : OwnF w base v xs) {k : Nat} (hk : k < base ∨ w.heap.size ≤ k) : v.ownBlock ≠ some k := fun e => by
  have := h.lt k e
  omega

theorem own_drew {w w1 w' : World} {base n : Nat} {v : Value} {xs : List Nat} (h : OwnF w base v xs) (e : w' = w1.drewN n) (hw : OwnF w base v xs → OwnF w1 base v xs := by exact id) : OwnF w' base v xs := by subst e; exact hw h
theorem ext_drew {a w w' : World} {n : Nat} (h : Ext a w) (e : w' = w.drewN n) : Ext a w' := by subst e; exact h.drewN n

@[go_sem] theorem run_store_float (P : Program) (w : World) (a : Addr) (m : Mode) (k : FloatKind) (b : Nat) : (store a (.float k b) m).run P w = stored P w a (.float k b) m := run_store P w a _ m rfl

/-! ### Lists of classes -/
def cl (xs : List Nat) : List Nat := xs.map (canon .f32)
theorem cl_length (xs : List Nat) : (cl xs).length = xs.length := by simp [cl]
theorem cl_append (xs ys : List Nat) : cl (xs ++ ys) = cl xs ++ cl ys := by simp [cl]
theorem cl_nil : cl [] = [] := rfl
theorem cl_set (xs : List Nat) (i r : Nat) : cl (xs.set i r) = (cl xs).set i (canon .f32 r) := by simp [cl, List.map_set]
/-- The class of number i. -/
theorem cl_el (xs : List Nat) (i : Nat) (h : i < xs.length) : el (cl xs) i = canon .f32 (el xs i) := by simp [el, cl, List.getD, h]
theorem take_snoc' (l : List Nat) (k : Nat) (h : k < l.length) : l.take (k + 1) = l.take k ++ [el l k] := by
  rw [List.take_succ_eq_append_getElem h, el_eq h]
/-- A class with its bits: for a slot that holds number i of a list that is read. -/
theorem is_el {xs : List Nat} {i : Nat} (h : i < xs.length) : Is .f32 (el xs i) (el (cl xs) i) := (cl_el xs i h).symm
theorem el_set (xs : List Nat) (i j r : Nat) (h : i < xs.length) : el (xs.set i r) j = if i = j then r else el xs j := by
  unfold el
  by_cases hij : i = j
  · subst hij; simp [List.getD, h]
  · simp [List.getD, hij]
theorem el_append_left {xs ys : List Nat} {i : Nat} (h : i < xs.length) : el (xs ++ ys) i = el xs i := by simp [el, List.getD, List.getElem?_append_left h]
theorem set_mid (a b : List Nat) (k r : Nat) (ha : a.length = k) (hb : 0 < b.length) : (a ++ b).set k r = (a ++ [r]) ++ b.drop 1 := by
  subst ha
  rw [List.set_append_right _ _ (Nat.le_refl _), Nat.sub_self, List.append_assoc]
  cases b with
  | nil => simp at hb
  | cons x b => simp
theorem el_ext {xs ys : List Nat} (hl : xs.length = ys.length) (h : ∀ i, i < xs.length → el xs i = el ys i) : xs = ys := by
  apply List.ext_getElem hl
  intro i h1 h2
  rw [← el_eq h1, ← el_eq h2]
  exact h i h1

/-! ### make, append -/
section
variable {P : Program} {ops : Array Oper} {Q : Exit → Act → World → Prop} {a : Act} {w : World} {rest : List Oper} {o : Oper}

theorem run_append1 (hT : P.underlying 22 = some (.slice 34)) {i0 : TypeInfo} (hi : P.info? 34 = some i0) (hz : i0.zero = some (.float .f32 0)) (hs1 : i0.size = 1) (hb4 : i0.bytes = 4)
    {base : Nat} {v : Value} {ys : List Nat} (hown : OwnF w base v ys) (hl : ys.length ≤ 1073741824) (hbase : base ≤ w.heap.size) {g r : Nat} (hc : w.cell? ⟨g, 0, none⟩ = some (.float .f32 r)) (ty : TypeId) :
    ∃ v' w', (Builtin.append_ #[22, 22] ty #[v, .slice (some ⟨g, 0, none⟩) 1 1]).run P w = .ok v' w' ∧ OwnF w' base v' (ys ++ [r]) ∧ w.grownBy w' v.ownBlock := by
  obtain ⟨v', w', hr, h1, h2, _⟩ := run_append_own (P := P) w base 22 ty 34 i0 (.float .f32 0) 1 4 hT hi hz hs1 hb4 rfl (by decide) v ys.length _ hown ⟨g, 0, none⟩ 1 1 [.float .f32 r] rfl
    (fun j u hu => by
      cases j with
      | zero => simp only [List.getElem?_cons_zero, Option.some.injEq] at hu; subst hu; exact hc
      | succ j => simp at hu)
    (fun u hu => by simp only [List.mem_singleton] at hu; subst hu; rfl) (by unfold maxLen; omega) (by omega) hbase
  refine ⟨v', w', hr, ?_, h2⟩
  unfold OwnF
  rw [List.length_append, List.map_append]
  exact h1

/-- 'out = append(out, x)'. -/
theorem wl_append1 (w0 : World) (hg : Region.wanted o (yielded ops a.tmps) = true) (hT : P.underlying 22 = some (.slice 34)) {i0 : TypeInfo} (hi : P.info? 34 = some i0) (hz : i0.zero = some (.float .f32 0)) (hs1 : i0.size = 1) (hb4 : i0.bytes = 4)
    {s x : Operand} (ho : o.op = .call { callee := .builtin .append, args := #[s, x], argTypes := #[22, 22] }) {v : Value} {ys : List Nat} (hs : a.eval s = v) {g r : Nat} (hx : a.eval x = .slice (some ⟨g, 0, none⟩) 1 1)
    (hown : OwnF w w0.heap.size v ys) (hext : Ext w0 w) (hl : ys.length ≤ 1073741824) (hc : w.cell? ⟨g, 0, none⟩ = some (.float .f32 r))
    (h : ∀ v' w', OwnF w' w0.heap.size v' (ys ++ [r]) → Ext w0 w' → wpList P ops Q rest (a.put o.dst v') w') : wpList P ops Q (o :: rest) a w := by
  obtain ⟨v', w', hr, h1, h2⟩ := run_append1 (P := P) (w := w) hT hi hz hs1 hb4 hown hl hext.size hc o.type
  refine wl_of_run hg ?_ (h v' w' h1 (hext.grown h2 fun k hk => (hown.lt k hk).1))
  simp [execOp, ho, resolve, invoke, builtin, hs, hx, hr]
theorem cell_new (w : World) (v : Value) (t : TypeId) : (w.alloc (.cells #[v] t)).cell? ⟨w.heap.size, 0, none⟩ = some v := by
  rw [World.cell?_alloc_at _ _ _ _ rfl]; rfl
theorem cell_newD (w : World) (v : Value) (t : TypeId) (n : Nat) : ((w.alloc (.cells #[v] t)).drewN n).cell? ⟨w.heap.size, 0, none⟩ = some v := cell_new w v t
theorem ownF_empty (w : World) (w0 : World) (h : Ext w0 w) : OwnF (w.alloc (.cells #[] 34)) w0.heap.size (.slice (some ⟨w.heap.size, 0, none⟩) 0 0) [] :=
  World.ownsRow_made w #[] 0 h.size (by unfold maxLen; omega) rfl
theorem ownF_one (w : World) (w0 : World) (h : Ext w0 w) (r : Nat) : OwnF (w.alloc (.cells #[.float .f32 r] 34)) w0.heap.size (.slice (some ⟨w.heap.size, 0, none⟩) 1 1) [r] :=
  ⟨rfl, .inr ⟨w.heap.size, 1, _, rfl, h.size, heap_alloc_new w _, Nat.le_refl _, by unfold maxLen; omega, rfl, rfl⟩⟩

/-- 'make([]float32, n)'. -/
theorem run_make1 (hT : P.underlying 22 = some (.slice 34)) {i0 : TypeInfo} (hi : P.info? 34 = some i0) (hz : i0.zero = some (.float .f32 0)) (hs1 : i0.size = 1) (hb4 : i0.bytes = 4) {kl kc : IntKind} {n : Nat} (hn : n ≤ 1073741824) :
    ∃ w', (Instr.makeSlice 22 (.int kl (n : Int)) (.int kc (n : Int))).run P w = .ok (.slice (some ⟨w.heap.size, 0, none⟩) n n) w' ∧ OwnF w' w.heap.size (.slice (some ⟨w.heap.size, 0, none⟩) n n) (List.replicate n 0) ∧ Ext w w' := by
  obtain ⟨w', hr, h1, h2⟩ := run_make_full (P := P) w w.heap.size 22 34 i0 (.float .f32 0) 1 hT hi hz hs1 kl kc n (by rw [hb4]; omega) (by unfold maxLen; omega) (Nat.le_refl _)
  refine ⟨w', hr, ?_, (Ext.refl w).grown h2 (fun k hk => by cases hk)⟩
  unfold OwnF
  rw [List.length_replicate]
  have e : (madeCells (Value.float .f32 0).cells (n * 1)).toList = (List.replicate n 0).map (Value.float .f32) := by
    apply List.ext_getElem
    · simp [size_madeCells]
    · intro i h1 h2
      simp [madeCells, Value.cells, Nat.mod_one]
  rw [← e]
  exact h1
theorem wl_make1 (hg : Region.wanted o (yielded ops a.tmps) = true) (hT : P.underlying 22 = some (.slice 34)) {i0 : TypeInfo} (hi : P.info? 34 = some i0) (hz : i0.zero = some (.float .f32 0)) (hs1 : i0.size = 1) (hb4 : i0.bytes = 4)
    {l c : Operand} (ho : o.op = .makeSlice 22 l c) {kl kc : IntKind} {n : Nat} {m1 m2 : Int} (hl : a.eval l = .int kl m1) (hc : a.eval c = .int kc m2) (e1 : m1 = (n : Int)) (e2 : m2 = (n : Int)) (hn : n ≤ 1073741824)
    (h : ∀ w', OwnF w' w.heap.size (.slice (some ⟨w.heap.size, 0, none⟩) n n) (List.replicate n 0) → Ext w w' → wpList P ops Q rest (a.put o.dst (.slice (some ⟨w.heap.size, 0, none⟩) n n)) w') : wpList P ops Q (o :: rest) a w := by
  subst e1 e2
  obtain ⟨w', hr, h1, h2⟩ := run_make1 (P := P) (w := w) hT hi hz hs1 hb4 (kl := kl) (kc := kc) hn
  refine wl_of_run hg ?_ (h w' h1 h2)
  simp [execOp, ho, hl, hc, hr, Result.andThen]
end

/-! ### A slice of floats that came in -/
section
open Go.WideShapes Go.ChangeShapes
variable {H : Type} {enc : TypeId × Value → H} {P : Program} {w : World} {base b0 : Nat} {spare : Nat → Bool} {held : Bool} {t e : TypeId} {v : Value} {d : DataW H} {ps : List MemPlace} {r : Reach}
theorem trod_float {fuel : Nat} {k : FloatKind} {cs : List Value} {x : DataW H × List MemPlace} (ht : P.underlying t = some (.float k)) (h : DataW.trod enc P w base spare held fuel t cs = some x) :
    ∃ n, cs = [.float k n] ∧ x = (.lit (.float k n), []) ∧ (Lit.float k n).wf = true := by
  cases fuel with
  | zero => simp [DataW.trod] at h
  | succ n =>
    unfold DataW.trod at h
    rw [ht] at h
    split at h <;> simp_all
theorem open_floats (ht : P.underlying t = some (.slice e)) (he : P.underlying e = some (.float .f32)) (hc : P.cellsOf e = 1)
    (hval : Value.okWide P w r b0 t v) (hd : DataW.Trod enc P w base spare held t v d ps) :
    ∃ ao cap xs, v = .slice ao (List.length xs) cap ∧ FR w ao xs ∧ xs.length ≤ 9223372036854775807 ∧ ∀ i, i < xs.length → el xs i < 2 ^ 32 := by
  obtain ⟨ao, len, cap, rfl⟩ := okWide_slice ht hval
  obtain ⟨fuel, hf⟩ := hd
  rcases Go.Deep.open_slice1 ht hc hf with ⟨h1, _⟩ | ⟨ad, len', cap', m, n, V, D, Pl, h1, _, h3, h4, h5, _, h6⟩
  · simp only [Value.cells, List.cons.injEq, Value.slice.injEq, and_true] at h1
    obtain ⟨rfl, rfl, rfl⟩ := h1
    exact ⟨none, 0, [], rfl, fun i hi => by simp at hi, by simp, by simp⟩
  · simp only [Value.cells, List.cons.injEq, Value.slice.injEq, and_true] at h1
    obtain ⟨rfl, rfl, rfl⟩ := h1
    have hlm : len ≤ m := by rw [h5]; split <;> omega
    have key : ∀ i, i < len → ∃ b, w.cell? (ad.add i) = some (.float .f32 b) ∧ b < 2 ^ 32 := fun i hi => by
      obtain ⟨h7, h8⟩ := h6 i (by omega)
      obtain ⟨b, h9, _, h10⟩ := trod_float he h8
      simp only [List.cons.injEq, and_true] at h9
      rw [h9] at h7
      exact ⟨b, h7, by simpa [Lit.wf] using h10⟩
    obtain ⟨X, hX⟩ := Go.Deep.choose_lt key
    have hel : ∀ i, i < len → el ((List.range len).map X) i = X i := fun i hi => by simp [el, List.getD, hi]
    refine ⟨some ad, cap, (List.range len).map X, by simp, fun i hi => ?_, by simp; unfold maxLen at h4; omega, fun i hi => ?_⟩
    · have hi' : i < len := by simpa using hi
      obtain ⟨b, off, sub⟩ := ad
      have h0 := (hX i hi').1
      rw [hel i hi']
      have hsub : sub = none := by
        simpa [Addr.add] using World.cell?_spot (hX 0 (by omega)).1
      subst hsub
      exact ⟨b, off, rfl, by rw [← Addr.add_lit]; exact h0⟩
    · have hi' : i < len := by simpa using hi
      rw [hel i hi']
      exact (hX i hi').2
end
end Go.Proofs.Ytnjgcacnfobmiaa
