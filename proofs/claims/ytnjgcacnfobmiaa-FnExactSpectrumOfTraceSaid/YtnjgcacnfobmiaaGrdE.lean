/- Grounds: the copy, the count, the comparison. -/
import Derived.Test.YtnjgcacnfobmiaaGrd
import Derived.Test.YtnjgcacnfobmiaaGrdD
import Derived.Deep.MidRow
namespace Go.Proofs.Ytnjgcacnfobmiaa
open Go.RowKit
set_option maxRecDepth 100000
set_option linter.unusedVariables false

theorem infoLy : (Try.prog.info? 147).map (·.size) = some 4 := by kernel_rfl
theorem infoIy : (Try.prog.info? 125).map (·.size) = some 4 := by kernel_rfl
theorem infoI3 : (Try.prog.info? 125).map (fun i => (i.zero, i.size, i.bytes)) = some (some (.agg #[.float .f32 0, .float .f32 0, .float .f32 0, .float .f32 0]), 4, 16) := by kernel_rfl
def lc (ls : List Nat) (k : Nat) : List Value := [.float .f32 (lay ls k 0), .float .f32 (lay ls k 1), .float .f32 (lay ls k 2), .float .f32 (lay ls k 3)]
theorem LR.at {w : World} {ao : Option Addr} {n : Nat} {ls : List Nat} (h : LR w ao n ls) {k : Nat} (hk : k < n) :
    ∃ b off, ao = some ⟨b, off, none⟩ ∧ w.rangeAt b (off + k * 4) (lc ls k) ∧ w.cell? ⟨b, off + k * 4, none⟩ = some (.float .f32 (lay ls k 0)) ∧ w.cell? ⟨b, off + k * 4 + 1, none⟩ = some (.float .f32 (lay ls k 1)) ∧ w.cell? ⟨b, off + k * 4 + 2, none⟩ = some (.float .f32 (lay ls k 2)) ∧ w.cell? ⟨b, off + k * 4 + 3, none⟩ = some (.float .f32 (lay ls k 3)) := by
  have hl := h.1
  obtain ⟨b, off, rfl, h0⟩ := h.2 (k * 4) (by omega)
  have hat : ∀ j, j < 4 → w.cell? ⟨b, off + k * 4 + j, none⟩ = some (.float .f32 (lay ls k j)) := fun j hj => by
    obtain ⟨b', off', e, hc⟩ := h.2 (k * 4 + j) (by omega)
    simp only [Option.some.injEq, Addr.mk.injEq, and_true] at e
    obtain ⟨rfl, rfl⟩ := e
    rw [Nat.add_assoc, hc]; rfl
  refine ⟨b, off, rfl, fun j v hv => ?_, hat 0 (by omega), hat 1 (by omega), hat 2 (by omega), hat 3 (by omega)⟩
  match j, hv with
  | 0, hv => injection hv with hv; subst hv; exact hat 0 (by omega)
  | 1, hv => injection hv with hv; subst hv; exact hat 1 (by omega)
  | 2, hv => injection hv with hv; subst hv; exact hat 2 (by omega)
  | 3, hv => injection hv with hv; subst hv; exact hat 3 (by omega)
  | j + 4, hv => cases hv
theorem OwnL.stored4 {w : World} {base g n cap : Nat} {ls : List Nat} (h : OwnL w base (.slice (some ⟨g, 0, none⟩) n cap) n ls) (i a b c d : Nat) :
    OwnL (w.setCells g i [.float .f32 a, .float .f32 b, .float .f32 c, .float .f32 d]) base (.slice (some ⟨g, 0, none⟩) n cap) n ((((ls.set i a).set (i + 1) b).set (i + 1 + 1) c).set (i + 1 + 1 + 1) d) := by
  refine ⟨by simp only [List.length_set]; exact h.1, ?_⟩
  rw [List.map_set, List.map_set, List.map_set, List.map_set]
  exact ((((h.2.stored i _).1.stored (i + 1) _).1.stored (i + 1 + 1) _).1.stored (i + 1 + 1 + 1) _).1
theorem chg_setCells4 (w : World) (g i : Nat) (a b c d : Value) : Chg (fun k => k = g) w (w.setCells g i [a, b, c, d]) :=
  (((chg_setCell w g i a).trans (chg_setCell _ g (i + 1) b)).trans (chg_setCell _ g (i + 1 + 1) c)).trans (chg_setCell _ g (i + 1 + 1 + 1) d)
theorem OwnL.there {w : World} {base g n cap : Nat} {ls : List Nat} (h : OwnL w base (.slice (some ⟨g, 0, none⟩) n cap) n ls) {k : Nat} (hk : k < n) : w.there g (k * 4) 4 := fun j hj => by
  have hl := h.1
  refine ⟨?_, World.ownsRow.frozenAt h.2 (k * 4 + j)⟩
  rw [World.ownsRow.cellAt h.2 (k * 4 + j) (by omega), List.getElem?_map, List.getElem?_eq_getElem (by omega)]
  rfl
theorem OwnL.cells4 {w : World} {base g n cap : Nat} {ls : List Nat} (h : OwnL w base (.slice (some ⟨g, 0, none⟩) n cap) n ls) {k : Nat} (hk : k < n) :
    w.cell? ⟨g, k * 4, none⟩ = some (.float .f32 (lay ls k 0)) ∧ w.frozen? ⟨g, k * 4, none⟩ = false ∧ w.cell? ⟨g, k * 4 + 1, none⟩ = some (.float .f32 (lay ls k 1)) ∧ w.frozen? ⟨g, k * 4 + 1, none⟩ = false ∧
    w.cell? ⟨g, k * 4 + 2, none⟩ = some (.float .f32 (lay ls k 2)) ∧ w.frozen? ⟨g, k * 4 + 2, none⟩ = false ∧ w.cell? ⟨g, k * 4 + 3, none⟩ = some (.float .f32 (lay ls k 3)) ∧ w.frozen? ⟨g, k * 4 + 3, none⟩ = false := by
  have hl := h.1
  have hat : ∀ j, j < 4 → w.cell? ⟨g, k * 4 + j, none⟩ = some (.float .f32 (lay ls k j)) := fun j hj => by
    rw [World.ownsRow.cellAt h.2 (k * 4 + j) (by omega), List.getElem?_map, List.getElem?_eq_getElem (by omega)]
    simp [lay, el, List.getD, List.getElem?_eq_getElem (show k * 4 + j < ls.length by omega)]
  exact ⟨hat 0 (by omega), World.ownsRow.frozenAt h.2 (k * 4), hat 1 (by omega), World.ownsRow.frozenAt h.2 (k * 4 + 1), hat 2 (by omega), World.ownsRow.frozenAt h.2 (k * 4 + 2), hat 3 (by omega), World.ownsRow.frozenAt h.2 (k * 4 + 3)⟩
theorem set4_el {ys ls : List Nat} {k n : Nat} (hl : ys.length = n * 4) (hk : k < n) (h : ∀ i, i < k * 4 → el ys i = el ls i) :
    ∀ i, i < (k + 1) * 4 → el ((((ys.set (k * 4) (lay ls k 0)).set (k * 4 + 1) (lay ls k 1)).set (k * 4 + 1 + 1) (lay ls k 2)).set (k * 4 + 1 + 1 + 1) (lay ls k 3)) i = el ls i := fun i hi => by
  rw [el_set _ _ _ _ (by simp only [List.length_set]; omega), el_set _ _ _ _ (by simp only [List.length_set]; omega), el_set _ _ _ _ (by simp only [List.length_set]; omega), el_set _ _ _ _ (by omega)]
  unfold lay
  split
  · rename_i e; rw [← e]
  · split
    · rename_i e; rw [← e]
    · split
      · rename_i e; rw [← e]
      · split
        · rename_i e; rw [← e]; rfl
        · exact h i (by omega)

section
variable {P : Program} {ops : Array Oper} {Q : Exit → Act → World → Prop} {a : Act} {w : World} {rest : List Oper} {o : Oper}
theorem wl_makeL (hg : Region.wanted o (yielded ops a.tmps) = true) (hT : P.underlying 77 = some (.slice 125)) {i0 : TypeInfo} (hi : P.info? 125 = some i0) (hz : i0.zero = some (.agg #[.float .f32 0, .float .f32 0, .float .f32 0, .float .f32 0])) (hs1 : i0.size = 4) (hb4 : i0.bytes = 16)
    {l c : Operand} (ho : o.op = .makeSlice 77 l c) {kl kc : IntKind} {n : Nat} {m1 m2 : Int} (hl : a.eval l = .int kl m1) (hc : a.eval c = .int kc m2) (e1 : m1 = (n : Int)) (e2 : m2 = (n : Int)) (hn : n ≤ 1073741824)
    (h : ∀ w' ys, OwnL w' w.heap.size (.slice (some ⟨w.heap.size, 0, none⟩) n n) n ys → Ext w w' → wpList P ops Q rest (a.put o.dst (.slice (some ⟨w.heap.size, 0, none⟩) n n)) w') : wpList P ops Q (o :: rest) a w := by
  subst e1 e2
  obtain ⟨w', hr, h1, h2⟩ := run_make_full (P := P) w w.heap.size 77 125 i0 (.agg #[.float .f32 0, .float .f32 0, .float .f32 0, .float .f32 0]) 4 hT hi hz hs1 kl kc n (by rw [hb4]; omega) (by unfold maxLen; omega) (Nat.le_refl _)
  have e : (madeCells (Value.agg #[.float .f32 0, .float .f32 0, .float .f32 0, .float .f32 0]).cells (n * 4)).toList = (List.replicate (n * 4) 0).map (Value.float .f32) := by
    apply List.ext_getElem
    · simp [size_madeCells]
    · intro i h1 h2
      simp only [madeCells, Value.cells, Array.getElem_toList, List.getElem_map, List.getElem_replicate]
      have : i % 4 < 4 := Nat.mod_lt _ (by omega)
      match h : i % 4, this with
      | 0, _ => simp [h]
      | 1, _ => simp [h]
      | 2, _ => simp [h]
      | 3, _ => simp [h]
  rw [e] at h1
  refine wl_of_run hg ?_ (h w' _ ⟨by rw [List.length_replicate], h1⟩ ((Ext.refl w).grown h2 (fun k hk => by cases hk)))
  simp [execOp, ho, hl, hc, hr, Result.andThen]
end

theorem toLayer_any (p q r s : Nat) (w : World) : Calls Try.prog 159 #[.agg #[.float .f32 p, .float .f32 q, .float .f32 r, .float .f32 s]] w fun e w' => e = .returned (.agg #[.float .f32 p, .float .f32 q, .float .f32 r, .float .f32 s]) ∧ Ext w w' := by
  go_enter Try.func159, Try.ntmps159
  go_wp2_with fail
  refine bodyPost_ret (results_cell_row rfl _ _ _ _ _ (0, 0) _ rfl ((Cells.new1 _ _ _ _).alloc _) Try.underlying125 rfl infoIy) rfl ?_
  exact ⟨rfl, (by repeat (first | assumption | exact Ext.refl _ | apply Ext.drewN | apply Ext.alloc | (refine Ext.setCell ?_ (by first | assumption | exact Nat.le_refl _) _)))⟩
set_option maxHeartbeats 1000000 in
theorem toLayerS_any (ao : Option Addr) (cap n : Nat) (ls : List Nat) (w : World) (hc : LR w ao n ls) (hl : n ≤ 1048576) :
    Calls Try.prog 120 #[.slice ao n cap] w fun e w' => ∃ v, e = .returned v ∧ Ext w w' ∧ OwnL w' w.heap.size v n ls := by
  obtain ⟨i0, hi, hz, hs1, hb4⟩ := info_parts infoI3
  go_enter Try.func120, Try.ntmps120
  go_wp2_with (at_make; refine wl_makeL rfl Try.underlying77 hi hz hs1 hb4 rfl rfl rfl rfl rfl (by omega) ?_; intro w1 ys1 hown hext)
  go_loopw [4] (fun i wr => ∃ (k : Nat) (ys : List Nat), k ≤ n ∧ i = .int .i64 k ∧ Ext w wr ∧ OwnL wr w.heap.size (.slice (some ⟨w.heap.size, 0, none⟩) n n) n ys ∧ Hid (∀ i, i < k * 4 → el ys i = el ls i)) (fun i _ => n - (intOf i).toNat)
  case atStart => exact ⟨0, _, Nat.zero_le _, rfl, hext, hown, fun i hi => absurd hi (by omega)⟩
  case round =>
    obtain ⟨k, ys, hk, rfl, hE, hO, hys⟩ := hrel
    clear hown hext
    by_cases hlt : k < n
    · obtain ⟨b, off, rfl, _, q0, q1, q2, q3⟩ := (hc.ext hE).at hlt
      go_wp2_with (go_at_call 159; refine (toLayer_any _ _ _ _ _).mono ?_; rintro _ w2 ⟨rfl, hE2⟩; (have hO2 := hO.ext hE2); (obtain ⟨f0, z0, f1, z1, f2, z2, f3, z3⟩ := hO2.cells4 hlt))
      have hO3 := Lib.hid (hO2.stored4 (k * 4) (lay ls k 0) (lay ls k 1) (lay ls k 2) (lay ls k 3))
      have hE3 := Lib.hid (Chg.ext (hE.trans hE2) (chg_setCells4 w2 w.heap.size (k * 4) (.float .f32 (lay ls k 0)) (.float .f32 (lay ls k 1)) (.float .f32 (lay ls k 2)) (.float .f32 (lay ls k 3))) (fun q e => Nat.le_of_eq e.symm))
      clear f0 z0 f1 z1 f2 z2 f3 z3
      go_roundw
      case rel => exact ⟨k + 1, _, by omega, by go_num, hE3.out, hO3.out, set4_el hO.1 hlt hys.out⟩
      case measure => simp [intOf]; omega
    · go_wp2
      go_ret
      refine ⟨_, rfl, hE, ?_⟩
      obtain rfl : k = n := by omega
      have e : ys = ls := el_ext (by rw [hO.1, hc.1]) (fun i hi => hys.out i (by have := hO.1; omega))
      rw [← e]; exact hO
end Go.Proofs.Ytnjgcacnfobmiaa
