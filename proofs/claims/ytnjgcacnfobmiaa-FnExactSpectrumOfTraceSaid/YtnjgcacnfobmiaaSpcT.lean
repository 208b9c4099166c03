/- The spectrum of a trace, number for number: the plain function; its turns are finite. -/
import Derived.Test.YtnjgcacnfobmiaaSpc
namespace Go.Proofs.Ytnjgcacnfobmiaa.tr
open Go.RowKit Go.Proofs.Ytnjgcacnfobmiaa
set_option maxRecDepth 100000
set_option linter.unusedVariables false

theorem turn_tab : ∀ n : Nat, n < 129 → ∀ k : Nat, k < n → finK .f32 (fop .quo .f32 (floatOfInt .f32 (k : Int)) (floatOfInt .f32 (n : Int))) = true := by decide +kernel
def turnK (n k : Nat) : Nat := fop .quo .f32 (floatOfInt .f32 (k : Int)) (floatOfInt .f32 (n : Int))
theorem turn_fin {n k : Nat} (hn : n ≤ 128) (hk : k < n) : finK .f32 (turnK n k) = true := turn_tab n (by omega) k hk
/-- The spectrum's first k numbers of n. -/
def spN (l : List Nat) (n k : Nat) : List (Nat × Nat) := (List.range k).map fun j => spK l (turnK n j) l.length
theorem spN_zero (l : List Nat) (n : Nat) : spN l n 0 = [] := rfl
theorem spN_len (l : List Nat) (n k : Nat) : (spN l n k).length = k := by simp [spN]
theorem spN_succ (l : List Nat) (n k : Nat) : spN l n (k + 1) = spN l n k ++ [spK l (turnK n k) l.length] := by simp [spN, List.range_succ]
def sptO (l : List Nat) (n : Int) : Option (List (Nat × Nat)) := if isTr l && inB n 1 128 then some (spN l n.toNat n.toNat) else none
theorem sptO_len (l : List Nat) (n : Int) : ((sptO l n).getD []).length ≤ 1048576 := by
  unfold sptO
  cases h : isTr l with
  | false => simp
  | true =>
    cases h2 : inB n 1 128 with
    | false => simp
    | true =>
      unfold inB at h2
      simp at h2
      simp [spN_len]
      omega
end Go.Proofs.Ytnjgcacnfobmiaa.tr
