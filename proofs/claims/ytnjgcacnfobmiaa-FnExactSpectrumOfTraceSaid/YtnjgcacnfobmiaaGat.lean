/- Slices of slices of floats, gathers: what they read and own. -/
import Derived.Test.YtnjgcacnfobmiaaIs
import Derived.Maps.AppendAt
namespace Go.Proofs.Ytnjgcacnfobmiaa
open Go.RowKit
set_option maxRecDepth 100000
set_option linter.unusedVariables false

theorem infoS : (Try.prog.info? 22).map (fun i => (i.zero, i.size, i.bytes)) = some (some (.slice none 0 0), 1, 24) := by kernel_rfl
/-- Row i. -/
def row (rs : List (List Nat)) (i : Nat) : List Nat := rs.getD i []
def va (vs : List Value) (i : Nat) : Value := vs.getD i .nilFunc
theorem row_eq {rs : List (List Nat)} {i : Nat} (h : i < rs.length) : row rs i = rs[i] := by simp [row, List.getD, h]
theorem va_eq {vs : List Value} {i : Nat} (h : i < vs.length) : va vs i = vs[i] := by simp [va, List.getD, h]
theorem va_get {vs : List Value} {i : Nat} (h : i < vs.length) : vs[i]? = some (va vs i) := by rw [va_eq h]; simp [h]
/-- The cells behind a slice value are slices of floats. -/
def RS (w : World) (ao : Option Addr) (rs : List (List Nat)) : Prop :=
  ∀ i, i < rs.length → ∃ b off ra rc, ao = some ⟨b, off, none⟩ ∧ w.cell? ⟨b, off + i, none⟩ = some (.slice ra (row rs i).length rc) ∧ FR w ra (row rs i)
theorem RS.ext {w w' : World} {ao : Option Addr} {rs : List (List Nat)} (h : RS w ao rs) (he : Ext w w') : RS w' ao rs := fun i hi => by
  obtain ⟨b, off, ra, rc, ha, hc, hf⟩ := h i hi
  exact ⟨b, off, ra, rc, ha, he.cell hc, hf.ext he⟩
theorem RS.drewN {w : World} {ao : Option Addr} {rs : List (List Nat)} (h : RS w ao rs) (n : Nat) : RS (w.drewN n) ao rs := h
/-- The numbers of all rows. -/
def tot : List (List Nat) → Nat
  | [] => 0
  | r :: rs => r.length + tot rs
theorem tot_append (a b : List (List Nat)) : tot (a ++ b) = tot a + tot b := by
  induction a with
  | nil => simp [tot]
  | cons r a ih => simp only [List.cons_append, tot, ih]; omega
theorem take_succ_row (rs : List (List Nat)) (k : Nat) (h : k < rs.length) : rs.take (k + 1) = rs.take k ++ [row rs k] := by
  rw [List.take_succ_eq_append_getElem h, row_eq h]
theorem tot_take (rs : List (List Nat)) (k : Nat) (h : k < rs.length) : tot (rs.take (k + 1)) = tot (rs.take k) + (row rs k).length := by
  rw [take_succ_row rs k h, tot_append]; rfl
theorem tot_le (rs : List (List Nat)) (k : Nat) : tot (rs.take k) ≤ tot rs := by
  have h := tot_append (rs.take k) (rs.drop k)
  rw [List.take_append_drop] at h
  omega
theorem row_tot (rs : List (List Nat)) (k : Nat) (h : k < rs.length) : (row rs k).length ≤ tot rs := by
  have h1 := tot_take rs k h
  have h2 := tot_le rs (k + 1)
  omega
def cls (rs : List (List Nat)) : List (List Nat) := rs.map cl
theorem cls_len (rs : List (List Nat)) : (cls rs).length = rs.length := by simp [cls]
theorem cls_row (rs : List (List Nat)) (i : Nat) : row (cls rs) i = cl (row rs i) := by
  unfold row cls
  by_cases h : i < rs.length
  · simp [List.getD, h]
  · simp [List.getD, h, cl]
theorem cls_rows {rs qs : List (List Nat)} (h : cls rs = cls qs) : rs.length = qs.length ∧ ∀ i, cl (row rs i) = cl (row qs i) :=
  ⟨by rw [← cls_len rs, h, cls_len], fun i => by rw [← cls_row, h, cls_row]⟩

/-- A world that has grown, and turned only in some blocks. -/
structure Chg (bs : Nat → Prop) (w w' : World) : Prop where
  os : w'.os = w.os
  tape : w'.tape = w.tape
  output : w'.output = w.output
  size : w.heap.size ≤ w'.heap.size
  block : ∀ k, k < w.heap.size → ¬ bs k → w'.heap[k]? = w.heap[k]?
theorem Chg.refl (bs : Nat → Prop) (w : World) : Chg bs w w := ⟨rfl, rfl, rfl, Nat.le_refl _, fun _ _ _ => rfl⟩
theorem Chg.trans {bs : Nat → Prop} {a b c : World} (h : Chg bs a b) (k : Chg bs b c) : Chg bs a c :=
  ⟨k.os.trans h.os, k.tape.trans h.tape, k.output.trans h.output, Nat.le_trans h.size k.size, fun i hi hn => (k.block i (Nat.lt_of_lt_of_le hi h.size) hn).trans (h.block i hi hn)⟩
theorem Chg.mono {bs cs : Nat → Prop} {w w' : World} (h : Chg bs w w') (hbc : ∀ k, bs k → cs k) : Chg cs w w' :=
  ⟨h.os, h.tape, h.output, h.size, fun k hk hn => h.block k hk (fun hb => hn (hbc k hb))⟩
theorem Chg.of_grown {w w' : World} {r : Option Nat} {bs : Nat → Prop} (h : w.grownBy w' r) (hb : ∀ k, r = some k → bs k) : Chg bs w w' :=
  ⟨h.os, h.tape, h.output, h.size, fun k hk hn => h.block k hk (fun e => hn (hb k e.symm))⟩
theorem Chg.ext {bs : Nat → Prop} {a w w' : World} (he : Ext a w) (h : Chg bs w w') (hb : ∀ k, bs k → a.heap.size ≤ k) : Ext a w' := by
  have h1 := he.os
  have h2 := he.tape
  have h3 := he.output
  exact ⟨h.os.trans h1, h.tape.trans h2, h.output.trans h3, Nat.le_trans he.size h.size, fun k hk => (h.block k (Nat.lt_of_lt_of_le hk he.size) (fun hbk => by have := hb k hbk; omega)).trans (Below.block he k hk)⟩
theorem ownsRow_chg {w w' : World} {bs : Nat → Prop} {base : Nat} {e : TypeId} {size : Nat} {v : Value} {n : Nat} {xs : List Value} (h : w.ownsRow base e size v n xs) (hg : Chg bs w w') (hne : ∀ k, v.ownBlock = some k → ¬ bs k) : w'.ownsRow base e size v n xs := by
  refine ⟨h.1, ?_⟩
  rcases h.2 with hn | ⟨g, cap, cur, rfl, hb, hgg, rest⟩
  · exact .inl hn
  · refine .inr ⟨g, cap, cur, rfl, hb, ?_, rest⟩
    rw [hg.block g (Array.getElem?_eq_some_iff.1 hgg).1 (hne g rfl)]
    exact hgg
theorem OwnF.chg {w w' : World} {bs : Nat → Prop} {base : Nat} {v : Value} {xs : List Nat} (h : OwnF w base v xs) (hg : Chg bs w w') (hne : ∀ k, v.ownBlock = some k → ¬ bs k) : OwnF w' base v xs :=
  ownsRow_chg h hg hne
theorem Chg.of_ext {w w' : World} (h : Ext w w') : Chg (fun _ => False) w w' := ⟨h.os, h.tape, h.output, h.size, fun k hk _ => Below.block h k hk⟩

/-- Rows that the call owns: the values of the rows, and what they hold. -/
def OwnRows (w : World) (base : Nat) (v : Value) (vs : List Value) (rs : List (List Nat)) : Prop :=
  vs.length = rs.length ∧ w.ownsRow base 22 1 v vs.length vs ∧ (∀ i, i < vs.length → OwnF w base (va vs i) (row rs i)) ∧
  (∀ i k, i < vs.length → (va vs i).ownBlock = some k → v.ownBlock ≠ some k) ∧
  (∀ i j k, i < vs.length → j < vs.length → i ≠ j → (va vs i).ownBlock = some k → (va vs j).ownBlock ≠ some k)
/-- The blocks of rows, without that of their values. -/
def rowsB (vs : List Value) (k : Nat) : Prop := ∃ i, i < vs.length ∧ (va vs i).ownBlock = some k
theorem OwnRows.chg {w w' : World} {bs : Nat → Prop} {base : Nat} {v : Value} {vs : List Value} {rs : List (List Nat)} (h : OwnRows w base v vs rs) (hg : Chg bs w w') (h1 : ∀ k, v.ownBlock = some k → ¬ bs k) (h2 : ∀ k, rowsB vs k → ¬ bs k) : OwnRows w' base v vs rs :=
  ⟨h.1, ownsRow_chg h.2.1 hg h1, fun i hi => (h.2.2.1 i hi).chg hg (fun k hk => h2 k ⟨i, hi, hk⟩), h.2.2.2⟩
theorem OwnRows.ext {w w' : World} {base : Nat} {v : Value} {vs : List Value} {rs : List (List Nat)} (h : OwnRows w base v vs rs) (he : Ext w w') : OwnRows w' base v vs rs :=
  h.chg (Chg.of_ext he) (fun _ _ => id) (fun _ _ => id)
theorem OwnRows.drewN {w : World} {base : Nat} {v : Value} {vs : List Value} {rs : List (List Nat)} (h : OwnRows w base v vs rs) (n : Nat) : OwnRows (w.drewN n) base v vs rs := h
theorem OwnRows.mono {w : World} {base base' : Nat} {v : Value} {vs : List Value} {rs : List (List Nat)} (h : OwnRows w base v vs rs) (hb : base' ≤ base) : OwnRows w base' v vs rs :=
  ⟨h.1, ⟨h.2.1.1, h.2.1.2.imp id fun ⟨g, cap, cur, h1, h2, h3⟩ => ⟨g, cap, cur, h1, Nat.le_trans hb h2, h3⟩⟩, fun i hi => (h.2.2.1 i hi).mono hb, h.2.2.2⟩
theorem OwnRows.lt {w : World} {base : Nat} {v : Value} {vs : List Value} {rs : List (List Nat)} (h : OwnRows w base v vs rs) : (∀ k, v.ownBlock = some k → base ≤ k ∧ k < w.heap.size) ∧ (∀ k, rowsB vs k → base ≤ k ∧ k < w.heap.size) :=
  ⟨World.ownsRow.lt h.2.1, fun k ⟨i, hi, hk⟩ => (h.2.2.1 i hi).lt k hk⟩
theorem OwnRows.fr {w : World} {base : Nat} {v : Value} {vs : List Value} {rs : List (List Nat)} (h : OwnRows w base v vs rs) : ∃ ao cap, v = .slice ao rs.length cap ∧ RS w ao rs := by
  obtain ⟨h1, h2, h3, h4, h5⟩ := h
  rcases h2.2 with ⟨rfl, h0⟩ | ⟨g, cap, cur, rfl, hb, hg, hr⟩
  · refine ⟨none, 0, by rw [← h1, h0], fun i hi => ?_⟩
    omega
  · refine ⟨_, cap, by rw [h1], fun i hi => ?_⟩
    have hi' : i < vs.length := by omega
    obtain ⟨ra, rc, e, hf⟩ := (h3 i hi').fr
    refine ⟨g, 0, ra, rc, rfl, ?_, hf⟩
    rw [Nat.zero_add, World.ownsRow.cellAt h2 i (by omega), va_get hi', e]
theorem OwnRows.at {w : World} {base n cap : Nat} {ao : Option Addr} {vs : List Value} {rs : List (List Nat)} (h : OwnRows w base (.slice ao n cap) vs rs) {k : Nat} (hk : k < rs.length) :
    ∃ g, ao = some ⟨g, 0, none⟩ ∧ base ≤ g ∧ g < w.heap.size ∧ w.cell? ⟨g, k, none⟩ = some (va vs k) ∧ w.frozen? ⟨g, k, none⟩ = false := by
  obtain ⟨h1, h2, h3, h4, h5⟩ := h
  have hk' : k < vs.length := by omega
  rcases h2.2 with ⟨e, h0⟩ | ⟨g, cap', cur, e, hb, hg, hr⟩
  · omega
  · injection e with e1 e2 e3
    subst e1 e2 e3
    refine ⟨g, rfl, hb, (Array.getElem?_eq_some_iff.1 hg).1, ?_, World.ownsRow.frozenAt h2 k⟩
    rw [World.ownsRow.cellAt h2 k (by omega), va_get hk']
theorem va_set {vs : List Value} {i j : Nat} (u : Value) (h : i < vs.length) : va (vs.set i u) j = if i = j then u else va vs j := by
  unfold va
  by_cases hij : i = j
  · subst hij; simp [List.getD, h]
  · simp [List.getD, hij]
theorem row_set {rs : List (List Nat)} {i j : Nat} (u : List Nat) (h : i < rs.length) : row (rs.set i u) j = if i = j then u else row rs j := by
  unfold row
  by_cases hij : i = j
  · subst hij; simp [List.getD, h]
  · simp [List.getD, hij]
theorem OwnRows.stored {w : World} {base g n cap : Nat} {vs : List Value} {rs : List (List Nat)} (h : OwnRows w base (.slice (some ⟨g, 0, none⟩) n cap) vs rs) {i : Nat} (hi : i < rs.length) {u : Value} {r : List Nat} (hu : OwnF w base u r)
    (hg : u.ownBlock ≠ some g) (hd : ∀ j k, j < vs.length → u.ownBlock = some k → (va vs j).ownBlock ≠ some k) :
    OwnRows (w.setCell ⟨g, i, none⟩ u) base (.slice (some ⟨g, 0, none⟩) n cap) (vs.set i u) (rs.set i r) ∧ w.grownBy (w.setCell ⟨g, i, none⟩ u) (some g) := by
  obtain ⟨h1, h2, h3, h4, h5⟩ := h
  have hn : n = vs.length := by
    rcases h2.2 with ⟨e, h0⟩ | ⟨g', cap', cur, e, hb, hg', hr⟩
    · cases e
    · injection e
  subst hn
  have hs := World.ownsRow.stored h2 i u
  have hc : Chg (fun k => k = g) w (w.setCell ⟨g, i, none⟩ u) := Chg.of_grown hs.2 (fun k e => by injection e with e; exact e.symm)
  have hb : ∀ k, (Value.slice (some ⟨g, 0, none⟩) vs.length cap).ownBlock = some k → k = g := fun k e => by injection e with e; exact e.symm
  refine ⟨⟨by simp [h1], by rw [List.length_set]; exact hs.1, fun j hj => ?_, fun j k hj hk => ?_, fun j l k hj hl hne hk => ?_⟩, hs.2⟩
  · rw [List.length_set] at hj
    rw [va_set u (by omega), row_set r hi]
    by_cases hij : i = j
    · rw [if_pos hij, if_pos hij]
      exact hu.chg hc (fun k hk e => hg (by rw [hk, e]))
    · rw [if_neg hij, if_neg hij]
      exact (h3 j hj).chg hc (fun k hk e => h4 j k hj hk (by rw [e]; rfl))
  · rw [List.length_set] at hj
    rw [va_set u (by omega)] at hk
    by_cases hij : i = j
    · rw [if_pos hij] at hk
      intro e
      exact hg (by rw [hk, hb k e])
    · rw [if_neg hij] at hk
      exact h4 j k hj hk
  · rw [List.length_set] at hj hl
    rw [va_set u (by omega)] at hk
    rw [va_set u (by omega)]
    by_cases hij : i = j
    · rw [if_pos hij] at hk
      rw [if_neg (by omega)]
      exact hd l k hl hk
    · rw [if_neg hij] at hk
      by_cases hil : i = l
      · rw [if_pos hil]
        intro e
        exact hd j k hj e hk
      · rw [if_neg hil]
        exact h5 j l k hj hl hne hk

/-! ### make, append: rows -/
section
variable {P : Program} {ops : Array Oper} {Q : Exit → Act → World → Prop} {a : Act} {w : World} {rest : List Oper} {o : Oper}
theorem ownRows_nils (w' : World) (base g n : Nat) (h : w'.ownsRow base 22 1 (.slice (some ⟨g, 0, none⟩) n n) n (List.replicate n (.slice none 0 0))) :
    OwnRows w' base (.slice (some ⟨g, 0, none⟩) n n) (List.replicate n (.slice none 0 0)) (List.replicate n []) := by
  have hv : ∀ i, i < n → va (List.replicate n (Value.slice none 0 0)) i = .slice none 0 0 := fun i hi => by rw [va_eq (by simpa using hi)]; simp
  refine ⟨by simp, by simpa using h, fun i hi => ?_, fun i k hi hk => ?_, fun i j k hi hj hne hk => ?_⟩
  · rw [List.length_replicate] at hi
    rw [hv i hi, row_eq (by simpa using hi)]
    simp only [List.getElem_replicate]
    exact OwnF.nil _ _
  · rw [List.length_replicate] at hi
    rw [hv i hi] at hk; cases hk
  · rw [List.length_replicate] at hi
    rw [hv i hi] at hk; cases hk
/-- 'make([][]float32, n)'. -/
theorem run_makeS (hT : P.underlying 23 = some (.slice 22)) {i0 : TypeInfo} (hi : P.info? 22 = some i0) (hz : i0.zero = some (.slice none 0 0)) (hs1 : i0.size = 1) (hb4 : i0.bytes = 24) {kl kc : IntKind} {n : Nat} (hn : n ≤ 1073741824) :
    ∃ w', (Instr.makeSlice 23 (.int kl (n : Int)) (.int kc (n : Int))).run P w = .ok (.slice (some ⟨w.heap.size, 0, none⟩) n n) w' ∧ OwnRows w' w.heap.size (.slice (some ⟨w.heap.size, 0, none⟩) n n) (List.replicate n (.slice none 0 0)) (List.replicate n []) ∧ Ext w w' := by
  obtain ⟨w', hr, h1, h2⟩ := run_make_full (P := P) w w.heap.size 23 22 i0 (.slice none 0 0) 1 hT hi hz hs1 kl kc n (by rw [hb4]; omega) (by unfold maxLen; omega) (Nat.le_refl _)
  refine ⟨w', hr, ?_, (Ext.refl w).grown h2 (fun k hk => by cases hk)⟩
  have e : (madeCells (Value.slice none 0 0).cells (n * 1)).toList = List.replicate n (.slice none 0 0) := by
    apply List.ext_getElem
    · simp [size_madeCells]
    · intro i h1 h2
      simp [madeCells, Value.cells, Nat.mod_one]
  rw [e] at h1
  exact ownRows_nils _ _ _ _ h1
theorem wl_makeS (hg : Region.wanted o (yielded ops a.tmps) = true) (hT : P.underlying 23 = some (.slice 22)) {i0 : TypeInfo} (hi : P.info? 22 = some i0) (hz : i0.zero = some (.slice none 0 0)) (hs1 : i0.size = 1) (hb4 : i0.bytes = 24)
    {l c : Operand} (ho : o.op = .makeSlice 23 l c) {kl kc : IntKind} {n : Nat} {m1 m2 : Int} (hl : a.eval l = .int kl m1) (hc : a.eval c = .int kc m2) (e1 : m1 = (n : Int)) (e2 : m2 = (n : Int)) (hn : n ≤ 1073741824)
    (h : ∀ w', OwnRows w' w.heap.size (.slice (some ⟨w.heap.size, 0, none⟩) n n) (List.replicate n (.slice none 0 0)) (List.replicate n []) → Ext w w' → wpList P ops Q rest (a.put o.dst (.slice (some ⟨w.heap.size, 0, none⟩) n n)) w') : wpList P ops Q (o :: rest) a w := by
  subst e1 e2
  obtain ⟨w', hr, h1, h2⟩ := run_makeS (P := P) (w := w) hT hi hz hs1 hb4 (kl := kl) (kc := kc) hn
  refine wl_of_run hg ?_ (h w' h1 h2)
  simp [execOp, ho, hl, hc, hr, Result.andThen]
theorem va_snoc {vs : List Value} (u : Value) (j : Nat) : va (vs ++ [u]) j = if j < vs.length then va vs j else if j = vs.length then u else .nilFunc := by
  unfold va
  by_cases h : j < vs.length
  · rw [if_pos h]; simp [List.getD, List.getElem?_append_left h]
  · rw [if_neg h]
    by_cases h2 : j = vs.length
    · subst h2; simp [List.getD]
    · rw [if_neg h2]
      simp [List.getD, List.getElem?_append_right (by omega : vs.length ≤ j), show j - vs.length ≠ 0 by omega]
theorem row_snoc {rs : List (List Nat)} (u : List Nat) (j : Nat) : row (rs ++ [u]) j = if j < rs.length then row rs j else if j = rs.length then u else [] := by
  unfold row
  by_cases h : j < rs.length
  · rw [if_pos h]; simp [List.getD, List.getElem?_append_left h]
  · rw [if_neg h]
    by_cases h2 : j = rs.length
    · subst h2; simp [List.getD]
    · rw [if_neg h2]
      simp [List.getD, List.getElem?_append_right (by omega : rs.length ≤ j), show j - rs.length ≠ 0 by omega]
/-- 'append(rows, u)': the row u may lie in the block behind the rows' values alone if it is another. -/
theorem run_appendR (hT : P.underlying 23 = some (.slice 22)) {i0 : TypeInfo} (hi : P.info? 22 = some i0) (hz : i0.zero = some (.slice none 0 0)) (hs1 : i0.size = 1) (hb4 : i0.bytes = 24)
    {base : Nat} {v : Value} {vs : List Value} {rs : List (List Nat)} (hown : OwnRows w base v vs rs) (hl : rs.length ≤ 1073741824) (hbase : base ≤ w.heap.size) {g : Nat} {u : Value} {r : List Nat} (hc : w.cell? ⟨g, 0, none⟩ = some u) (hu : OwnF w base u r)
    (hg : u.ownBlock ≠ v.ownBlock ∨ u.ownBlock = none) (hd : ∀ j k, j < vs.length → u.ownBlock = some k → (va vs j).ownBlock ≠ some k) (ty : TypeId) :
    ∃ v' w', (Builtin.append_ #[23, 23] ty #[v, .slice (some ⟨g, 0, none⟩) 1 1]).run P w = .ok v' w' ∧ OwnRows w' base v' (vs ++ [u]) (rs ++ [r]) ∧ w.grownBy w' v.ownBlock ∧ (v'.ownBlock = v.ownBlock ∨ v'.ownBlock = some w.heap.size) := by
  obtain ⟨h1, h2, h3, h4, h5⟩ := hown
  obtain ⟨ua, uc, eu, _⟩ := hu.fr
  obtain ⟨v', w', hr, k1, k2, _, k3⟩ := run_append_own_at (P := P) (w := w) base 23 ty 22 i0 (.slice none 0 0) 1 24 hT hi hz hs1 hb4 rfl (by decide) v vs.length _ h2 ⟨g, 0, none⟩ 1 1 [u] rfl
    (fun j x hx => by
      cases j with
      | zero => simp only [List.getElem?_cons_zero, Option.some.injEq] at hx; subst hx; exact hc
      | succ j => simp at hx)
    (fun x hx => by simp only [List.mem_singleton] at hx; subst hx; rw [eu]; rfl) (by unfold maxLen; omega) (by omega) hbase
  have hch : Chg (fun k => v.ownBlock = some k) w w' := Chg.of_grown k2 (fun k e => e)
  have hvk : ∀ i k, i < vs.length → (va vs i).ownBlock = some k → ¬ v.ownBlock = some k := fun i k hi hk => h4 i k hi hk
  have huk : ∀ k, u.ownBlock = some k → ¬ v.ownBlock = some k := fun k hk e => by
    rcases hg with hg | hg
    · exact hg (by rw [hk, e])
    · rw [hg] at hk; cases hk
  have hblk : ∀ (x : Value) k, x.ownBlock = some k → k < w.heap.size → ¬ v.ownBlock = some k → v'.ownBlock ≠ some k := fun x k hk hlt hne e => by
    rcases k3 with k3 | k3
    · exact hne (by rw [← k3]; exact e)
    · rw [k3] at e; injection e with e; omega
  refine ⟨v', w', hr, ⟨by simp [h1], by simpa using k1, fun j hj => ?_, fun j k hj hk => ?_, fun i j k hi hj hne hk => ?_⟩, k2, k3⟩
  · rw [List.length_append, List.length_singleton] at hj
    rw [va_snoc, row_snoc, ← h1]
    by_cases hj2 : j < vs.length
    · rw [if_pos hj2, if_pos hj2]; exact (h3 j hj2).chg hch (fun k hk => hvk j k hj2 hk)
    · rw [if_neg hj2, if_neg hj2, if_pos (by omega), if_pos (by omega)]; exact hu.chg hch huk
  · rw [List.length_append, List.length_singleton] at hj
    rw [va_snoc] at hk
    by_cases hj2 : j < vs.length
    · rw [if_pos hj2] at hk
      exact hblk _ k hk ((h3 j hj2).lt k hk).2 (hvk j k hj2 hk)
    · rw [if_neg hj2, if_pos (by omega)] at hk
      exact hblk _ k hk (hu.lt k hk).2 (huk k hk)
  · rw [List.length_append, List.length_singleton] at hi hj
    rw [va_snoc] at hk
    rw [va_snoc]
    by_cases hi2 : i < vs.length
    · rw [if_pos hi2] at hk
      by_cases hj2 : j < vs.length
      · rw [if_pos hj2]; exact h5 i j k hi2 hj2 hne hk
      · rw [if_neg hj2, if_pos (by omega)]
        intro e
        exact hd i k hi2 e hk
    · rw [if_neg hi2, if_pos (by omega)] at hk
      rw [if_pos (by omega)]
      exact hd j k (by omega) hk
end
end Go.Proofs.Ytnjgcacnfobmiaa
