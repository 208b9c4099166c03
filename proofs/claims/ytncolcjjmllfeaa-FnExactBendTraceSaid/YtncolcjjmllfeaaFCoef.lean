/- CoefficientsOf, HardnessOf: the reference's and the program's. -/
import Derived.Test.YtncolcjjmllfeaaAre
namespace Go.Proofs.Ytncolcjjmllfeaa
open Go.RowKit
set_option maxRecDepth 100000
set_option linter.unusedVariables false

def coefAt (l : List Nat) (k : Nat) : Nat := fop .quo .f32 (fop .sub .f32 (el l (k + 1)) (el l k)) (fop .add .f32 (el l k) (el l (k + 1)))
def coefL (l : List Nat) : List Nat := tabP (coefAt l) (l.length - 1)
def coefO (l : List Nat) : Option (List Nat) := if allP hardB l l.length && areB (coefL l) then some (coefL l) else none
theorem areB_len {l : List Nat} (h : areB l = true) : 1 ≤ l.length ∧ l.length ≤ 24 := by
  unfold areB at h
  simp only [Bool.and_eq_true] at h
  have := inB_yes h.1
  omega
theorem coefO_len (l : List Nat) : ((coefO l).getD []).length ≤ 1048576 :=
  gate_len (n := 24) (fun h => by simp only [Bool.and_eq_true] at h; exact (areB_len h.2).2) (by omega)
theorem coef_short {l : List Nat} (h : inB (l.length : Int) 2 25 = false) : areB (coefL l) = false := by
  cases ha : areB (coefL l) with
  | false => rfl
  | true =>
    have h1 := areB_len ha
    unfold coefL at h1
    rw [tabP_len] at h1
    rw [inB_mk (by omega) (by omega)] at h
    cases h

theorem FR.tail {w : World} {b off : Nat} {xs : List Nat} (h : FR w (some ⟨b, off, none⟩) xs) : FR w (some ⟨b, off + 1, none⟩) (xs.drop 1) := fun i hi => by
  simp at hi
  obtain ⟨b', o', e, hcell⟩ := h (1 + i) (by omega)
  simp only [Option.some.injEq, Addr.mk.injEq, and_true] at e
  obtain ⟨rfl, rfl⟩ := e
  refine ⟨b, off + 1, rfl, ?_⟩
  rw [show off + 1 + i = off + (1 + i) by omega, hcell]
  congr 2
  simp [el, List.getD, Nat.add_comm 1 i]
theorem el_tail (xs : List Nat) (i : Nat) : el (xs.drop 1) i = el xs (i + 1) := by
  cases xs <;> simp [el]
end Go.Proofs.Ytncolcjjmllfeaa
