/- Sums of products, number by number; products commute. -/
import Derived.Test.YtnjgcacnfobmiaaTab
namespace Go.Proofs.Ytnjgcacnfobmiaa
open Go.RowKit
set_option maxRecDepth 100000

/-- The sum of G 0, G 1, .., n of them. -/
def sumP (G : Nat → Nat) (n : Nat) : Nat := (List.range n).foldl (fun acc i => fop .add .f32 acc (G i)) 0
theorem sumP_succ (G : Nat → Nat) (n : Nat) : sumP G (n + 1) = fop .add .f32 (sumP G n) (G n) := by
  unfold sumP; rw [List.range_succ, List.foldl_append]; rfl
theorem sumP_zero (G : Nat → Nat) : sumP G 0 = 0 := rfl
theorem sumP_congr {G H : Nat → Nat} {n : Nat} (h : ∀ k, k < n → G k = H k) : sumP G n = sumP H n := by
  induction n with
  | zero => rfl
  | succ n ih => rw [sumP_succ, sumP_succ, ih (fun k hk => h k (by omega)), h n (by omega)]
theorem product_comm (x y : Ieee.Datum) : x.product y = y.product x := by
  cases x <;> cases y <;> simp only [Ieee.Datum.product, Bool.xor_comm, Nat.mul_comm, Int.add_comm]
theorem mul_comm' (k : FloatKind) (s t : Nat) : fop .mul k s t = fop .mul k t s := by
  unfold fop floatBits
  simp only [Ieee.Format.mul]
  rw [product_comm]

/-! ### A row whose number k is a running sum -/
theorem inner_start {F : Nat → Nat} {k n : Nat} {ys : List Nat} (G : Nat → Nat) (h : cl ys = tabP F k ++ List.drop k (List.replicate n 0)) (hk : k < n) : Hid (cl ys = tabP F k ++ (sumP G 0 :: List.replicate (n - (k + 1)) 0)) := by
  unfold Hid
  rw [h, List.drop_replicate, show n - k = (n - (k + 1)) + 1 by omega, List.replicate_succ, sumP_zero]
theorem inner_read {F : Nat → Nat} {k S : Nat} {ys T : List Nat} (h : cl ys = tabP F k ++ (S :: T)) : Is .f32 (el ys k) S := by
  have hl : (cl ys).length = k + (T.length + 1) := by rw [h]; simp [tabP_len]
  rw [cl_length] at hl
  have h1 := is_el (xs := ys) (i := k) (by omega)
  rw [h] at h1
  have h2 : el (tabP F k ++ (S :: T)) k = S := by
    unfold el
    rw [List.getD_eq_getElem?_getD, List.getElem?_append_right (by rw [tabP_len]; exact Nat.le_refl _), tabP_len, Nat.sub_self]
    rfl
  rw [h2] at h1
  exact h1
theorem inner_step {F : Nat → Nat} {k S S' r : Nat} {ys T : List Nat} (h : cl ys = tabP F k ++ (S :: T)) (hr : Is .f32 r S') : Hid (cl (ys.set k r) = tabP F k ++ (S' :: T)) := by
  unfold Hid
  rw [cl_set, h, hr.out', set_mid _ _ _ _ (tabP_len _ _) (by simp), List.append_assoc]
  rfl
theorem inner_done {F : Nat → Nat} {k n S : Nat} {ys : List Nat} (h : cl ys = tabP F k ++ (S :: List.replicate (n - (k + 1)) 0)) (hS : S = F k) : Hid (cl ys = tabP F (k + 1) ++ List.drop (k + 1) (List.replicate n 0)) := by
  unfold Hid
  rw [h, hS, tabP_succ, List.drop_replicate, List.append_assoc]
  rfl
theorem inner_len {F : Nat → Nat} {k n S : Nat} {ys : List Nat} (h : cl ys = tabP F k ++ (S :: List.replicate (n - (k + 1)) 0)) (hk : k < n) : ys.length = n := by
  have hl : (cl ys).length = n := by rw [h]; simp [tabP_len]; omega
  rwa [cl_length] at hl
end Go.Proofs.Ytnjgcacnfobmiaa
