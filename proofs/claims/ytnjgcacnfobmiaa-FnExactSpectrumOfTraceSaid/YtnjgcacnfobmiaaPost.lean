/- What calls give that come back with numbers and may have grown the memory. -/
import Derived.Test.YtnjgcacnfobmiaaGat
namespace Go.Proofs.Ytnjgcacnfobmiaa
open Go.RowKit
set_option maxRecDepth 100000
set_option linter.unusedVariables false

def GivesE (v : Value) (w : World) (e : Ending) (w' : World) : Prop := e = .returned v ∧ Ext w w'
/-- A float that may have grown the memory. -/
def GivesFX (s : Nat) (w : World) (e : Ending) (w' : World) : Prop := ∃ r, e = .returned (.float .f32 r) ∧ Is .f32 r s ∧ Ext w w'
def GivesFE (o : Option Nat) (w : World) (e : Ending) (w' : World) : Prop := ∃ r, e = .returned (.tuple #[.float .f32 r, .bool o.isSome]) ∧ Is .f32 r (o.getD 0) ∧ Ext w w'
theorem is_zero : Is .f32 0 0 := canon_of_not (by decide +kernel)
theorem givesFE_none {o : Option Nat} (h : o = none) {w w' : World} (he : Ext w w') : GivesFE o w (.returned (.tuple #[.float .f32 0, .bool false])) w' := by
  subst h
  exact ⟨0, rfl, is_zero, he⟩
theorem givesFE_some {o : Option Nat} {S r : Nat} (h : o = some S) (hr : Is .f32 r S) {w w' : World} (he : Ext w w') : GivesFE o w (.returned (.tuple #[.float .f32 r, .bool true])) w' := by
  subst h
  exact ⟨r, rfl, hr, he⟩
theorem GivesFO.toFE {o : Option Nat} {w : World} {e : Ending} {w' : World} (h : GivesFO o w e w') : GivesFE o w e w' := by
  obtain ⟨r, n, h1, h2, rfl⟩ := h
  exact ⟨r, h1, h2, (Ext.refl w).drewN n⟩
def GivesIFE (o : Option (Int × Nat)) (w : World) (e : Ending) (w' : World) : Prop :=
  ∃ r, e = .returned (.tuple #[.int .i64 ((o.map (·.1)).getD 0), .float .f32 r, .bool o.isSome]) ∧ Is .f32 r ((o.map (·.2)).getD 0) ∧ Ext w w'
theorem givesIFE_none {o : Option (Int × Nat)} (h : o = none) {w w' : World} (he : Ext w w') : GivesIFE o w (.returned (.tuple #[.int .i64 0, .float .f32 0, .bool false])) w' := by
  subst h
  exact ⟨0, rfl, is_zero, he⟩
theorem givesIFE_some {o : Option (Int × Nat)} {i : Int} {S r : Nat} (h : o = some (i, S)) (hr : Is .f32 r S) {w w' : World} (he : Ext w w') : GivesIFE o w (.returned (.tuple #[.int .i64 i, .float .f32 r, .bool true])) w' := by
  subst h
  exact ⟨r, rfl, hr, he⟩
def GivesFFE (o : Option (Nat × Nat)) (w : World) (e : Ending) (w' : World) : Prop :=
  ∃ r q, e = .returned (.tuple #[.float .f32 r, .float .f32 q, .bool o.isSome]) ∧ Is .f32 r ((o.map (·.1)).getD 0) ∧ Is .f32 q ((o.map (·.2)).getD 0) ∧ Ext w w'
theorem givesFFE_none {o : Option (Nat × Nat)} (h : o = none) {w w' : World} (he : Ext w w') : GivesFFE o w (.returned (.tuple #[.float .f32 0, .float .f32 0, .bool false])) w' := by
  subst h
  exact ⟨0, 0, rfl, is_zero, is_zero, he⟩
theorem givesFFE_some {o : Option (Nat × Nat)} {S T r q : Nat} (h : o = some (S, T)) (hr : Is .f32 r S) (hq : Is .f32 q T) {w w' : World} (he : Ext w w') : GivesFFE o w (.returned (.tuple #[.float .f32 r, .float .f32 q, .bool true])) w' := by
  subst h
  exact ⟨r, q, rfl, hr, hq, he⟩
/-- What a block holds that was laid: in every later world. -/
theorem boxed {w w' : World} {cs : Array Value} {t : TypeId} (h : Ext (w.alloc (.cells cs t)) w') {i : Nat} {v : Value} (hi : cs[i]? = some v) : w'.cell? ⟨w.heap.size, i, none⟩ = some v :=
  h.cell (by rw [World.cell?_alloc_at _ _ _ _ rfl]; exact hi)
theorem ownF_two (w : World) (w0 : World) (h : Ext w0 w) (r q : Nat) : OwnF (w.alloc (.cells #[.float .f32 r, .float .f32 q] 34)) w0.heap.size (.slice (some ⟨w.heap.size, 0, none⟩) 2 2) [r, q] :=
  ⟨rfl, .inr ⟨w.heap.size, 2, _, rfl, h.size, heap_alloc_new w _, Nat.le_refl _, by unfold maxLen; omega, rfl, rfl⟩⟩
theorem ownF_three (w : World) (w0 : World) (h : Ext w0 w) (r q p : Nat) : OwnF (w.alloc (.cells #[.float .f32 r, .float .f32 q, .float .f32 p] 34)) w0.heap.size (.slice (some ⟨w.heap.size, 0, none⟩) 3 3) [r, q, p] :=
  ⟨rfl, .inr ⟨w.heap.size, 3, _, rfl, h.size, heap_alloc_new w _, Nat.le_refl _, by unfold maxLen; omega, rfl, rfl⟩⟩
end Go.Proofs.Ytnjgcacnfobmiaa
