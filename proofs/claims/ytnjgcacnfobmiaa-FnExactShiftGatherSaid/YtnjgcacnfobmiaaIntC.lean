/- Slices of whole numbers: the law's copy; a slice of whole numbers that came in. -/
import Derived.Test.YtnjgcacnfobmiaaInt
namespace Go.Proofs.Ytnjgcacnfobmiaa
open Go.RowKit
set_option maxRecDepth 100000
set_option linter.unusedVariables false

theorem infoI64 : (Try.prog.info? 2).map (fun i => (i.zero, i.size, i.bytes)) = some (some (.int .i64 0), 1, 8) := info64
theorem ownI_made (w : World) (n : Nat) (hn : n ≤ 1048576) : OwnI (w.alloc (.cells (madeCells #[.int .i64 0] n) 2)) w.heap.size (.slice (some ⟨w.heap.size, 0, none⟩) n n) (List.replicate n 0) := by
  have hsz : (madeCells #[Value.int .i64 0] n).size = n := by simp [madeCells]
  refine ⟨by simp, .inr ⟨w.heap.size, n, _, by simp, Nat.le_refl _, heap_alloc_new w _, by simp, by unfold maxLen; omega, by omega, ?_⟩⟩
  rw [List.length_replicate, Nat.mul_one, List.take_of_length_le (by rw [Array.length_toList]; omega)]
  apply List.ext_getElem
  · simp [hsz]
  · intro i h1 h2
    simp [madeCells, Nat.mod_one]
set_option maxHeartbeats 1000000 in
theorem toInt64S_any (ao : Option Addr) (cap : Nat) (xs : List Int) (w : World) (hc : FRI w ao xs) (hl : xs.length ≤ 1048576) :
    Calls Try.prog 54 #[.slice ao xs.length cap] w fun e w' => ∃ v, e = .returned v ∧ Ext w w' ∧ OwnI w' w.heap.size v xs := by
  have hmk : ∀ w : World, (Instr.makeSlice 60 (.int .i64 (xs.length : Int)) (.int .i64 (xs.length : Int))).run Try.prog w = .ok (.slice (some ⟨w.heap.size, 0, none⟩) xs.length xs.length) (w.alloc (.cells (madeCells #[.int .i64 0] xs.length) 2)) := fun w => run_make_row' (P := Try.prog) 60 2 (.int .i64 0) 8 Try.underlying60 info64 rfl .i64 .i64 xs.length (by omega) (by omega) w
  have hown := ownI_made w xs.length hl
  have hext : Ext w (w.alloc (.cells (madeCells #[.int .i64 0] xs.length) 2)) := (Ext.refl w).alloc _
  go_enter Try.func54, Try.ntmps54
  go_wp2
  generalize w.alloc (.cells (madeCells #[.int .i64 0] xs.length) 2) = w1 at hown hext ⊢
  clear hmk
  go_loopw [4] (fun i wr => ∃ k : Nat, k ≤ xs.length ∧ i = .int .i64 k ∧ Ext w wr ∧ OwnI wr w.heap.size (.slice (some ⟨w.heap.size, 0, none⟩) xs.length xs.length) (xs.take k ++ List.replicate (xs.length - k) 0)) (fun i _ => xs.length - (intOf i).toNat)
  case atStart => exact ⟨0, Nat.zero_le _, rfl, hext, by simpa using hown⟩
  case round =>
    obtain ⟨k, hk, rfl, hE, hO⟩ := hrel
    clear hown hext
    by_cases hlt : k < xs.length
    · obtain ⟨b, off, rfl, hcell⟩ := hc.ext hE k hlt
      have hlen : (xs.take k ++ List.replicate (xs.length - k) 0).length = xs.length := by simp; omega
      obtain ⟨g, hge, _, _, hcur, hfz⟩ := hO.at (k := k) (by omega)
      simp only [Option.some.injEq, Addr.mk.injEq, and_true] at hge
      subst hge
      have hst := hO.stored k (elv xs k)
      have hO2 : Hid (OwnI (wr.setCell ⟨w.heap.size, k, none⟩ (.int .i64 (elv xs k))) w.heap.size (.slice (some ⟨w.heap.size, 0, none⟩) xs.length xs.length) (xs.take (k + 1) ++ List.replicate (xs.length - (k + 1)) 0)) := by
        have e : (xs.take k ++ List.replicate (xs.length - k) 0).set k (elv xs k) = xs.take (k + 1) ++ List.replicate (xs.length - (k + 1)) 0 := by
          rw [set_midV _ _ _ _ (by simp; omega) (by simp; omega), take_snocV xs k hlt, List.drop_replicate]
          rfl
        rw [← e]; exact hst.1
      have hE2 : Hid (Ext w (wr.setCell ⟨w.heap.size, k, none⟩ (.int .i64 (elv xs k)))) := hE.setCell (Nat.le_refl _) _
      clear hst
      go_wp2
      go_roundw
      case rel => exact ⟨k + 1, by omega, by go_num, hE2.out, hO2.out⟩
      case measure => simp [intOf]; omega
    · go_wp2
      go_ret
      refine ⟨_, rfl, hE, ?_⟩
      rw [List.take_of_length_le (by omega), show xs.length - k = 0 by omega] at hO
      simpa using hO
section
open Go.WideShapes Go.ChangeShapes
variable {H : Type} {enc : TypeId × Value → H} {P : Program} {w : World} {base b0 : Nat} {spare : Nat → Bool} {held : Bool} {t e : TypeId} {v : Value} {d : DataW H} {ps : List MemPlace} {r : Reach}
theorem trod_int {fuel : Nat} {k : IntKind} {cs : List Value} {x : DataW H × List MemPlace} (ht : P.underlying t = some (.int k)) (h : DataW.trod enc P w base spare held fuel t cs = some x) :
    ∃ n, cs = [.int k n] := by
  cases fuel with
  | zero => simp [DataW.trod] at h
  | succ n =>
    unfold DataW.trod at h
    rw [ht] at h
    split at h <;> simp_all
theorem open_ints (ht : P.underlying t = some (.slice e)) (he : P.underlying e = some (.int .i64)) (hc : P.cellsOf e = 1)
    (hval : Value.okWide P w r b0 t v) (hd : DataW.Trod enc P w base spare held t v d ps) :
    ∃ ao cap xs, v = .slice ao (List.length xs) cap ∧ FRI w ao xs := by
  obtain ⟨ao, len, cap, rfl⟩ := okWide_slice ht hval
  obtain ⟨fuel, hf⟩ := hd
  rcases Go.Deep.open_slice1 ht hc hf with ⟨h1, _⟩ | ⟨ad, len', cap', m, n, V, D, Pl, h1, _, h3, h4, h5, _, h6⟩
  · simp only [Value.cells, List.cons.injEq, Value.slice.injEq, and_true] at h1
    obtain ⟨rfl, rfl, rfl⟩ := h1
    exact ⟨none, 0, [], rfl, fun i hi => by simp at hi⟩
  · simp only [Value.cells, List.cons.injEq, Value.slice.injEq, and_true] at h1
    obtain ⟨rfl, rfl, rfl⟩ := h1
    have hlm : len ≤ m := by rw [h5]; split <;> omega
    have key : ∀ i, i < len → ∃ b, w.cell? (ad.add i) = some (.int .i64 b) := fun i hi => by
      obtain ⟨h7, h8⟩ := h6 i (by omega)
      obtain ⟨b, h9⟩ := trod_int he h8
      simp only [List.cons.injEq, and_true] at h9
      rw [h9] at h7
      exact ⟨b, h7⟩
    obtain ⟨X, hX⟩ := Go.Deep.choose_lt key
    have hel : ∀ i, i < len → elv ((List.range len).map X) i = X i := fun i hi => by simp [elv, List.getD, hi]
    refine ⟨some ad, cap, (List.range len).map X, by simp, fun i hi => ?_⟩
    have hi' : i < len := by simpa using hi
    obtain ⟨b, off, sub⟩ := ad
    have h0 := hX i hi'
    rw [hel i hi']
    have hsub : sub = none := by
      simpa [Addr.add] using World.cell?_spot (hX 0 (by omega))
    subst hsub
    exact ⟨b, off, rfl, by rw [← Addr.add_lit]; exact h0⟩
end
end Go.Proofs.Ytnjgcacnfobmiaa
