/- A ground: its layers, read and owned; one that came in. -/
import Derived.Test.YtnjgcacnfobmiaaOpen
import Derived.Deep.Slices
namespace Go.Proofs.Ytnjgcacnfobmiaa
open Go.RowKit Go.WideShapes Go.ChangeShapes
set_option maxRecDepth 100000
set_option linter.unusedVariables false

/-- Layers that are read: four numbers each. -/
def LR (w : World) (ao : Option Addr) (n : Nat) (ls : List Nat) : Prop := ls.length = n * 4 ∧ FR w ao ls
theorem LR.ext {w w' : World} {ao : Option Addr} {n : Nat} {ls : List Nat} (h : LR w ao n ls) (he : Ext w w') : LR w' ao n ls := ⟨h.1, h.2.ext he⟩
theorem LR.drewN {w : World} {ao : Option Addr} {n : Nat} {ls : List Nat} (h : LR w ao n ls) (m : Nat) : LR (w.drewN m) ao n ls := h
/-- Layers that the call owns. -/
def OwnL (w : World) (base : Nat) (v : Value) (n : Nat) (ls : List Nat) : Prop := ls.length = n * 4 ∧ w.ownsRow base 125 4 v n (ls.map (Value.float .f32))
theorem OwnL.lt {w : World} {base n : Nat} {v : Value} {ls : List Nat} (h : OwnL w base v n ls) : ∀ k, v.ownBlock = some k → base ≤ k ∧ k < w.heap.size := World.ownsRow.lt h.2
theorem OwnL.chg {w w' : World} {bs : Nat → Prop} {base n : Nat} {v : Value} {ls : List Nat} (h : OwnL w base v n ls) (hg : Chg bs w w') (hne : ∀ k, v.ownBlock = some k → ¬ bs k) : OwnL w' base v n ls :=
  ⟨h.1, ownsRow_chg h.2 hg hne⟩
theorem OwnL.ext {w w' : World} {base n : Nat} {v : Value} {ls : List Nat} (h : OwnL w base v n ls) (he : Ext w w') : OwnL w' base v n ls := h.chg (Chg.of_ext he) (fun _ _ => id)
theorem OwnL.drewN {w : World} {base n : Nat} {v : Value} {ls : List Nat} (h : OwnL w base v n ls) (m : Nat) : OwnL (w.drewN m) base v n ls := h
theorem OwnL.mono {w : World} {base base' n : Nat} {v : Value} {ls : List Nat} (h : OwnL w base v n ls) (hb : base' ≤ base) : OwnL w base' v n ls := by
  refine ⟨h.1, h.2.1, h.2.2.imp id ?_⟩
  rintro ⟨g, cap, cur, h1, h2, h3⟩
  exact ⟨g, cap, cur, h1, Nat.le_trans hb h2, h3⟩
theorem ownL_drew {w w1 w' : World} {base n m : Nat} {v : Value} {ls : List Nat} (h : OwnL w base v n ls) (e : w' = w1.drewN m) (hw : OwnL w base v n ls → OwnL w1 base v n ls := by exact id) : OwnL w' base v n ls := by subst e; exact hw h
theorem OwnL.cases {w : World} {base n : Nat} {v : Value} {ls : List Nat} (h : OwnL w base v n ls) :
    (v = .slice none 0 0 ∧ n = 0 ∧ ls = []) ∨ ∃ g cap, v = .slice (some ⟨g, 0, none⟩) n cap ∧ base ≤ g ∧ g < w.heap.size ∧ ∀ i, i < ls.length → w.cell? ⟨g, i, none⟩ = some (.float .f32 (el ls i)) := by
  rcases h.2.2 with ⟨h1, h2⟩ | ⟨g, cap, cur, h1, h2, h3, h4, h5, h6, h7⟩
  · refine .inl ⟨h1, h2, List.eq_nil_of_length_eq_zero ?_⟩
    have := h.1
    omega
  · refine .inr ⟨g, cap, h1, h2, (Array.getElem?_eq_some_iff.1 h3).1, fun i hi => ?_⟩
    subst h1
    rw [World.ownsRow.cellAt h.2 i (by have := h.1; omega)]
    simp [el, List.getD, hi]
theorem OwnL.fr {w : World} {base n : Nat} {v : Value} {ls : List Nat} (h : OwnL w base v n ls) : ∃ ao cap, v = .slice ao n cap ∧ LR w ao n ls := by
  rcases h.cases with ⟨rfl, rfl, rfl⟩ | ⟨g, cap, rfl, _, _, hc⟩
  · exact ⟨none, 0, rfl, h.1, fun i hi => by simp at hi⟩
  · exact ⟨some ⟨g, 0, none⟩, cap, rfl, h.1, fun i hi => ⟨g, 0, rfl, by rw [Nat.zero_add]; exact hc i hi⟩⟩
theorem OwnL.lr {w : World} {base n m cap : Nat} {ao : Option Addr} {ls : List Nat} (h : OwnL w base (.slice ao m cap) n ls) : LR w ao n ls := by
  obtain ⟨ao', cap', e, hl⟩ := h.fr
  injection e with e1 e2 e3
  subst e1
  exact hl
section
variable {H : Type} {enc : TypeId × Value → H} {P : Program} {w : World} {base : Nat} {spare : Nat → Bool} {held : Bool} {t e : TypeId}
theorem layers_of {fuel : Nat} {cs : List Value} {x : DataW H × List MemPlace} {fs : Array Field} (ht : P.underlying t = some (.slice e)) (he : P.underlying e = some (.struct fs)) (ce : P.cellsOf e = 4)
    (hf : ∀ j, j < 4 → ∃ f, fs[j]? = some f ∧ f.offset = j ∧ P.cellsOf f.type = 1 ∧ P.underlying f.type = some (.float .f32)) (hs : fs.size = 4) (h : DataW.trod enc P w base spare held fuel t cs = some x) :
    ∃ ao n cap ls, cs = [.slice ao n cap] ∧ LR w ao n ls ∧ n ≤ 9223372036854775807 := by
  rcases Go.Deep.open_slice ht h with ⟨h1, _⟩ | ⟨ad, len, cap, m, n, D, Pl, h1, _, h3, h4, h5, _, h6⟩
  · exact ⟨none, 0, 0, [], h1, ⟨rfl, fun i hi => by simp at hi⟩, by omega⟩
  · have hlm : len ≤ m := by rw [h5]; split <;> omega
    have key : ∀ i, i < len * 4 → ∃ b, w.cell? (ad.add i) = some (.float .f32 b) := fun i hi => by
      obtain ⟨cs', h7, h8⟩ := h6 (i / 4) (by omega)
      rw [ce] at h7
      obtain ⟨_, hlen, hcell⟩ := World.cells?_some h7
      obtain ⟨xs, k, hk, hxy, _, hxl, hfd⟩ := DataW.trod_struct he h8
      obtain ⟨f, f1, f2, f3, f4⟩ := hf (i % 4) (by omega)
      have h9 := hfd (i % 4) f f1
      rw [f2, f3] at h9
      have h10 := hcell (i % 4) (by omega)
      rw [Go.Deep.add_add, show i / 4 * 4 + i % 4 = i by omega] at h10
      have hj : i % 4 < cs'.length := by omega
      have e1 : (cs'.drop (i % 4)).take 1 = [cs'[i % 4]] := by
        rw [List.drop_eq_getElem_cons hj]
        rfl
      rw [e1, List.getElem?_eq_getElem (by omega)] at h9
      obtain ⟨b, h11, _, _⟩ := trod_float f4 h9
      simp only [List.cons.injEq, and_true] at h11
      rw [List.getElem?_eq_getElem hj, h11] at h10
      exact ⟨b, h10⟩
    obtain ⟨X, hX⟩ := Go.Deep.choose_lt key
    have hel : ∀ i, i < len * 4 → el ((List.range (len * 4)).map X) i = X i := fun i hi => by simp [el, List.getD, hi]
    refine ⟨some ad, len, cap, (List.range (len * 4)).map X, h1, ⟨by simp, fun i hi => ?_⟩, by unfold maxLen at h4; omega⟩
    have hi' : i < len * 4 := by simpa using hi
    obtain ⟨b, off, sub⟩ := ad
    have h0 := hX i hi'
    rw [hel i hi']
    have hsub : sub = none := by simpa [Addr.add] using World.cell?_spot (hX 0 (by omega))
    subst hsub
    exact ⟨b, off, rfl, by rw [← Addr.add_lit]; exact h0⟩
end
theorem cellsF : Try.prog.cellsOf 34 = 1 := cells32
theorem cellsLS : Try.prog.cellsOf 71 = 1 := by kernel_rfl
theorem cellsLy : Try.prog.cellsOf 147 = 4 := by kernel_rfl
theorem cellsGr : Try.prog.cellsOf 73 = 3 := by kernel_rfl
theorem infoLGr : (Try.prog.info? 73).map (·.size) = some 3 := by kernel_rfl
theorem infoGr : (Try.prog.info? 79).map (·.size) = some 3 := by kernel_rfl
theorem open_ground {H : Type} {enc : TypeId × Value → H} {w : World} {base : Nat} {spare : Nat → Bool} {held : Bool} {v : Value} {d : DataW H} {pl : List MemPlace} (h : DataW.Trod enc Try.prog w base spare held 73 v d pl) :
    ∃ la lc n ls sp de, v = .agg #[.slice la n lc, .float .f32 sp, .float .f32 de] ∧ LR w la n ls ∧ n ≤ 9223372036854775807 := by
  obtain ⟨fuel, hf⟩ := h
  obtain ⟨xs, n, rfl, hx, hlen, hxl, hfd⟩ := DataW.trod_struct Try.underlying73 hf
  rw [cellsGr] at hlen
  obtain ⟨c0, c1, c2, hcs⟩ : ∃ c0 c1 c2, v.cells.toList = [c0, c1, c2] := by
    generalize v.cells.toList = l at hlen
    match l, hlen with
    | [a, b, c], _ => exact ⟨a, b, c, rfl⟩
  have hv : v = .agg #[c0, c1, c2] := by
    cases v <;> simp only [Value.cells] at hcs <;> first | (simp at hcs; done) | skip
    rename_i cells
    congr 1
    apply Array.ext'
    simpa using hcs
  rw [hcs] at hfd
  have hx3 : xs.length = 3 := hxl
  obtain ⟨y0, hy0⟩ : ∃ y, xs[0]? = some y := ⟨xs[0]'(by omega), by simp⟩
  obtain ⟨y1, hy1⟩ : ∃ y, xs[1]? = some y := ⟨xs[1]'(by omega), by simp⟩
  obtain ⟨y2, hy2⟩ : ∃ y, xs[2]? = some y := ⟨xs[2]'(by omega), by simp⟩
  have f0 : DataW.trod enc Try.prog w base spare held n 71 ((List.drop 0 [c0, c1, c2]).take (Try.prog.cellsOf 71)) = some y0 := by rw [← hy0]; exact hfd 0 _ rfl
  have f1 : DataW.trod enc Try.prog w base spare held n 34 ((List.drop 1 [c0, c1, c2]).take (Try.prog.cellsOf 34)) = some y1 := by rw [← hy1]; exact hfd 1 _ rfl
  have f2 : DataW.trod enc Try.prog w base spare held n 34 ((List.drop 2 [c0, c1, c2]).take (Try.prog.cellsOf 34)) = some y2 := by rw [← hy2]; exact hfd 2 _ rfl
  rw [cellsLS] at f0
  rw [cellsF] at f1 f2
  replace f0 : DataW.trod enc Try.prog w base spare held n 71 [c0] = some y0 := f0
  replace f1 : DataW.trod enc Try.prog w base spare held n 34 [c1] = some y1 := f1
  replace f2 : DataW.trod enc Try.prog w base spare held n 34 [c2] = some y2 := f2
  obtain ⟨la, n', lc, ls, e0, hr, hb⟩ := layers_of Try.underlying71 Try.underlying147 cellsLy (fun j hj => by
    match j, hj with
    | 0, _ => exact ⟨_, rfl, rfl, cells32, Try.underlying34⟩
    | 1, _ => exact ⟨_, rfl, rfl, cells32, Try.underlying34⟩
    | 2, _ => exact ⟨_, rfl, rfl, cells32, Try.underlying34⟩
    | 3, _ => exact ⟨_, rfl, rfl, cells32, Try.underlying34⟩) rfl f0
  obtain ⟨sp, e1, _, _⟩ := trod_float Try.underlying34 f1
  obtain ⟨de, e2, _, _⟩ := trod_float Try.underlying34 f2
  simp only [List.cons.injEq, and_true] at e0 e1 e2
  subst e0 e1 e2
  exact ⟨la, lc, n', ls, sp, de, hv, hr, hb⟩
end Go.Proofs.Ytnjgcacnfobmiaa
