/- A gather that came in. -/
import Derived.Test.YtnjgcacnfobmiaaGath
import Derived.ProofKit
namespace Go.Proofs.Ytnjgcacnfobmiaa
open Go.RowKit Go.WideShapes Go.ChangeShapes
set_option maxRecDepth 100000
set_option linter.unusedVariables false

section
variable {H : Type} {enc : TypeId × Value → H} {P : Program} {w : World} {base : Nat} {spare : Nat → Bool} {held : Bool} {t e tt : TypeId}
theorem floats_of {fuel : Nat} {cs : List Value} {x : DataW H × List MemPlace} (ht : P.underlying t = some (.slice e)) (he : P.underlying e = some (.float .f32)) (hc : P.cellsOf e = 1) (h : DataW.trod enc P w base spare held fuel t cs = some x) :
    ∃ ao cap xs, cs = [.slice ao (List.length xs) cap] ∧ FR w ao xs ∧ xs.length ≤ 9223372036854775807 := by
  rcases Go.Deep.open_slice1 ht hc h with ⟨h1, _⟩ | ⟨ad, len, cap, m, n, V, D, Pl, h1, _, h3, h4, h5, _, h6⟩
  · exact ⟨none, 0, [], h1, fun i hi => by simp at hi, by simp⟩
  · have hlm : len ≤ m := by rw [h5]; split <;> omega
    have key : ∀ i, i < len → ∃ b, w.cell? (ad.add i) = some (.float .f32 b) := fun i hi => by
      obtain ⟨h7, h8⟩ := h6 i (by omega)
      obtain ⟨b, h9, _, h10⟩ := trod_float he h8
      simp only [List.cons.injEq, and_true] at h9
      rw [h9] at h7
      exact ⟨b, h7⟩
    obtain ⟨X, hX⟩ := Go.Deep.choose_lt key
    have hel : ∀ i, i < len → el ((List.range len).map X) i = X i := fun i hi => by simp [el, List.getD, hi]
    refine ⟨some ad, cap, (List.range len).map X, by simpa using h1, fun i hi => ?_, by simp; unfold maxLen at h4; omega⟩
    have hi' : i < len := by simpa using hi
    obtain ⟨b, off, sub⟩ := ad
    have h0 := hX i hi'
    rw [hel i hi']
    have hsub : sub = none := by simpa [Addr.add] using World.cell?_spot (hX 0 (by omega))
    subst hsub
    exact ⟨b, off, rfl, by rw [← Addr.add_lit]; exact h0⟩
theorem rows_of {fuel : Nat} {cs : List Value} {x : DataW H × List MemPlace} (htt : P.underlying tt = some (.slice t)) (hct : P.cellsOf t = 1) (ht : P.underlying t = some (.slice e)) (he : P.underlying e = some (.float .f32)) (hc : P.cellsOf e = 1) (h : DataW.trod enc P w base spare held fuel tt cs = some x) :
    ∃ ao cap rs, cs = [.slice ao (List.length rs) cap] ∧ RS w ao rs ∧ rs.length ≤ 9223372036854775807 ∧ ∀ i, i < rs.length → (row rs i).length ≤ 9223372036854775807 := by
  rcases Go.Deep.open_slice1 htt hct h with ⟨h1, _⟩ | ⟨ad, len, cap, m, n, V, D, Pl, h1, _, h3, h4, h5, _, h6⟩
  · exact ⟨none, 0, [], h1, fun i hi => by simp at hi, by simp, by simp⟩
  · have hlm : len ≤ m := by rw [h5]; split <;> omega
    have key : ∀ i, i < len → ∃ q : (Option Addr × Nat) × List Nat, w.cell? (ad.add i) = some (.slice q.1.1 q.2.length q.1.2) ∧ FR w q.1.1 q.2 ∧ q.2.length ≤ 9223372036854775807 := fun i hi => by
      obtain ⟨h7, h8⟩ := h6 i (by omega)
      obtain ⟨ao, cp, xs, h9, h10, h11⟩ := floats_of ht he hc h8
      simp only [List.cons.injEq, and_true] at h9
      rw [h9] at h7
      exact ⟨((ao, cp), xs), h7, h10, h11⟩
    obtain ⟨X, hX⟩ := Go.Deep.choose_lt key
    have hrow : ∀ i, i < len → row ((List.range len).map fun i => (X i).2) i = (X i).2 := fun i hi => by simp [row, List.getD, hi]
    refine ⟨some ad, cap, (List.range len).map fun i => (X i).2, by simpa using h1, fun i hi => ?_, by simp; unfold maxLen at h4; omega, fun i hi => ?_⟩
    · have hi' : i < len := by simpa using hi
      obtain ⟨b, off, sub⟩ := ad
      obtain ⟨h0, hf, _⟩ := hX i hi'
      rw [hrow i hi']
      have hsub : sub = none := by simpa [Addr.add] using World.cell?_spot (hX 0 (by omega)).1
      subst hsub
      exact ⟨b, off, (X i).1.1, (X i).1.2, rfl, by rw [← Addr.add_lit]; exact h0, hf⟩
    · have hi' : i < len := by simpa using hi
      rw [hrow i hi']
      exact (hX i hi').2.2
end
/-- A block of a variable of its own. -/
def OwnC (w : World) (base g : Nat) (cs : Array Value) (t : TypeId) : Prop := Cells w g cs t ∧ base ≤ g
theorem OwnC.lt {w : World} {base g : Nat} {cs : Array Value} {t : TypeId} (h : OwnC w base g cs t) : ∀ k, k = g → base ≤ k ∧ k < w.heap.size := fun k e => by subst e; exact ⟨h.2, h.1.lt⟩
theorem OwnC.ext {w w' : World} {base g : Nat} {cs : Array Value} {t : TypeId} (h : OwnC w base g cs t) (he : Ext w w') : OwnC w' base g cs t := ⟨h.1.ext he, h.2⟩
theorem OwnC.mono {w : World} {base base' g : Nat} {cs : Array Value} {t : TypeId} (h : OwnC w base g cs t) (hb : base' ≤ base) : OwnC w base' g cs t := ⟨h.1, Nat.le_trans hb h.2⟩
theorem OwnC.chg {bs : Nat → Prop} {w w' : World} {base g : Nat} {cs : Array Value} {t : TypeId} (h : OwnC w base g cs t) (hg : Chg bs w w') (hd : ∀ k, k = g → ¬ bs k) : OwnC w' base g cs t := ⟨(hg.block g h.1.lt (hd g rfl)).trans h.1, h.2⟩
theorem ownC_drew {w w1 w' : World} {base g n : Nat} {cs : Array Value} {t : TypeId} (h : OwnC w base g cs t) (e : w' = w1.drewN n) (hw : OwnC w base g cs t → OwnC w1 base g cs t := by exact id) : OwnC w' base g cs t := by subst e; exact hw h
theorem OwnC.cells {w : World} {base g : Nat} {cs : Array Value} {t : TypeId} (h : OwnC w base g cs t) : Cells w g cs t := h.1
theorem OwnC.new (w : World) (cs : Array Value) (t : TypeId) : OwnC (w.alloc (.cells cs t)) w.heap.size w.heap.size cs t := ⟨Cells.new w cs t, Nat.le_refl _⟩
theorem cellsS : Try.prog.cellsOf 22 = 1 := by kernel_rfl
theorem cellsI : Try.prog.cellsOf 2 = 1 := by kernel_rfl
theorem cellsSS : Try.prog.cellsOf 23 = 1 := by kernel_rfl
theorem cellsG : Try.prog.cellsOf 55 = 3 := by kernel_rfl
theorem infoLG : (Try.prog.info? 55).map (·.size) = some 3 := by kernel_rfl
theorem open_gather {H : Type} {enc : TypeId × Value → H} {w : World} {base : Nat} {spare : Nat → Bool} {held : Bool} {v : Value} {d : DataW H} {pl : List MemPlace} (h : DataW.Trod enc Try.prog w base spare held 55 v d pl) :
    ∃ t pa pc ps ra rc rs, v = .agg #[.int .i64 t, .slice pa (List.length ps) pc, .slice ra (List.length rs) rc] ∧ (-9223372036854775808 ≤ t ∧ t ≤ 9223372036854775807) ∧ FR w pa ps ∧ RS w ra rs ∧ small ps rs := by
  obtain ⟨fuel, hf⟩ := h
  obtain ⟨xs, n, rfl, hx, hlen, hxl, hfd⟩ := DataW.trod_struct Try.underlying55 hf
  rw [cellsG] at hlen
  obtain ⟨c0, c1, c2, hcs⟩ : ∃ c0 c1 c2, v.cells.toList = [c0, c1, c2] := by
    generalize v.cells.toList = l at hlen
    match l, hlen with
    | [a, b, c], _ => exact ⟨a, b, c, rfl⟩
  have hv : v = .agg #[c0, c1, c2] := by
    cases v <;> simp only [Value.cells] at hcs <;> first | (simp at hcs; done) | skip
    rename_i cells
    congr 1
    apply Array.ext'
    simpa using hcs
  rw [hcs] at hfd
  have hx3 : xs.length = 3 := hxl
  obtain ⟨y0, hy0⟩ : ∃ y, xs[0]? = some y := ⟨xs[0]'(by omega), by simp⟩
  obtain ⟨y1, hy1⟩ : ∃ y, xs[1]? = some y := ⟨xs[1]'(by omega), by simp⟩
  obtain ⟨y2, hy2⟩ : ∃ y, xs[2]? = some y := ⟨xs[2]'(by omega), by simp⟩
  have f0 : DataW.trod enc Try.prog w base spare held n 2 ((List.drop 0 [c0, c1, c2]).take (Try.prog.cellsOf 2)) = some y0 := by rw [← hy0]; exact hfd 0 _ rfl
  have f1 : DataW.trod enc Try.prog w base spare held n 22 ((List.drop 1 [c0, c1, c2]).take (Try.prog.cellsOf 22)) = some y1 := by rw [← hy1]; exact hfd 1 _ rfl
  have f2 : DataW.trod enc Try.prog w base spare held n 23 ((List.drop 2 [c0, c1, c2]).take (Try.prog.cellsOf 23)) = some y2 := by rw [← hy2]; exact hfd 2 _ rfl
  rw [cellsI] at f0
  rw [cellsS] at f1
  rw [cellsSS] at f2
  replace f0 : DataW.trod enc Try.prog w base spare held n 2 [c0] = some y0 := f0
  replace f1 : DataW.trod enc Try.prog w base spare held n 22 [c1] = some y1 := f1
  replace f2 : DataW.trod enc Try.prog w base spare held n 23 [c2] = some y2 := f2
  obtain ⟨t, e0, _, ht⟩ := DataW.trod_int Try.underlying2 f0
  obtain ⟨pa, pc, ps, e1, hp, hb1⟩ := floats_of Try.underlying22 Try.underlying34 cells32 f1
  obtain ⟨ra, rc, rs, e2, hr, hb2, hb3⟩ := rows_of Try.underlying23 cellsS Try.underlying22 Try.underlying34 cells32 f2
  simp only [List.cons.injEq, and_true] at e0 e1 e2
  subst e0 e1 e2
  exact ⟨t, pa, pc, ps, ra, rc, rs, hv, by simpa [Lit.wf, IntKind.min, IntKind.max, IntKind.signed, IntKind.bits] using ht, hp, hr, hb1, hb2, hb3⟩
end Go.Proofs.Ytnjgcacnfobmiaa
