/- The sizes of the gathers that KeepPlaces, SortGather and ShiftGather give. -/
import Derived.Test.YtnjgcacnfobmiaaFKeepS
namespace Go.Proofs.Ytnjgcacnfobmiaa
open Go.RowKit
set_option maxRecDepth 100000
set_option linter.unusedVariables false

theorem tot_mul (R : List (List Nat)) (m : Nat) (h : ∀ r ∈ R, r.length ≤ m) : tot R ≤ R.length * m := by
  induction R with
  | nil => simp [tot]
  | cons r R ih =>
    have h1 := h r (by simp)
    have h2 := ih (fun x hx => h x (by simp [hx]))
    show r.length + tot R ≤ _
    rw [List.length_cons, Nat.succ_mul]
    omega
theorem gOk_small {t : Int} {P : List Nat} {R : List (List Nat)} (h : gOk t P R = true) : P.length + (R.length + tot R) ≤ 1048576 := by
  unfold gOk plB at h
  simp only [Bool.and_eq_true, decide_eq_true_eq] at h
  obtain ⟨⟨⟨h1, h2, _⟩, h3⟩, h4⟩ := h
  have k1 := inB_yes h1
  have k2 := inB_yes h2
  have h5 := tot_mul R 64 (fun r hr => by
    obtain ⟨i, hi, rfl⟩ := List.getElem_of_mem hr
    have := lenB_at hi h4
    rw [row_eq hi] at this
    omega)
  have : R.length * 64 ≤ 16 * 64 := Nat.mul_le_mul_right _ (by omega)
  omega
theorem chosenO_len (t : Int) (P : List Nat) (R : List (List Nat)) (l : List Nat) : (((chosenO t P R l).map (·.2.1)).getD []).length + ((((chosenO t P R l).map (·.2.2)).getD []).length + tot (((chosenO t P R l).map (·.2.2)).getD [])) ≤ 1048576 := by
  unfold chosenO
  split
  · rename_i h
    exact gOk_small h
  · simp [tot]
theorem keepO_len (t : Int) (P : List Nat) (R : List (List Nat)) (s1 s2 : Nat) : (((keepO t P R s1 s2).map (·.2.1)).getD []).length + ((((keepO t P R s1 s2).map (·.2.2)).getD []).length + tot (((keepO t P R s1 s2).map (·.2.2)).getD [])) ≤ 1048576 := by
  unfold keepO
  split
  · exact chosenO_len _ _ _ _
  · simp [tot]
end Go.Proofs.Ytnjgcacnfobmiaa
