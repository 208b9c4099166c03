/- Lists that are filled number by number: appended, or stored in place. -/
import Derived.Test.YtnjgcacnfobmiaaClone
namespace Go.Proofs.Ytnjgcacnfobmiaa
open Go.RowKit
set_option maxRecDepth 100000

/-- The list of F 0, F 1, .., n of them. -/
def tabP (F : Nat → Nat) (n : Nat) : List Nat := (List.range n).map F
theorem tabP_zero (F : Nat → Nat) : tabP F 0 = [] := rfl
theorem tabP_succ (F : Nat → Nat) (n : Nat) : tabP F (n + 1) = tabP F n ++ [F n] := by simp [tabP, List.range_succ]
theorem tabP_len (F : Nat → Nat) (n : Nat) : (tabP F n).length = n := by simp [tabP]
theorem el_tabP (F : Nat → Nat) (n k : Nat) (h : k < n) : el (tabP F n) k = F k := by simp [el, tabP, List.getD, h]
theorem tabP_congr {F G : Nat → Nat} {n : Nat} (h : ∀ k, k < n → F k = G k) : tabP F n = tabP G n := by
  unfold tabP
  exact List.map_congr_left fun k hk => h k (List.mem_range.1 hk)
theorem tabP_el (l : List Nat) : tabP (el l) l.length = l := by
  refine el_ext (tabP_len _ _) fun i hi => ?_
  rw [tabP_len] at hi
  rw [el_tabP _ _ _ hi]
theorem app_step {F : Nat → Nat} {k r : Nat} {ys : List Nat} (h : cl ys = tabP F k) (hr : Is .f32 r (F k)) : Hid (cl (ys ++ [r]) = tabP F (k + 1)) := by
  unfold Hid
  rw [cl_append, h, tabP_succ]
  simp only [cl, List.map_cons, List.map_nil, hr.out']
theorem set_step {F : Nat → Nat} {k r : Nat} {ys L : List Nat} (h : cl ys = tabP F k ++ L.drop k) (hk : k < L.length) (hr : Is .f32 r (F k)) : Hid (cl (ys.set k r) = tabP F (k + 1) ++ L.drop (k + 1)) := by
  unfold Hid
  rw [cl_set, h, hr.out', set_mid _ _ _ _ (tabP_len _ _) (by rw [List.length_drop]; omega), tabP_succ, List.drop_drop]
theorem set_read {F : Nat → Nat} {k : Nat} {ys L : List Nat} (h : cl ys = tabP F k ++ L.drop k) (hk : k < L.length) : Is .f32 (el ys k) (el L k) := by
  have hl : (cl ys).length = L.length := by rw [h]; simp [tabP_len]; omega
  rw [cl_length] at hl
  have h1 := is_el (xs := ys) (i := k) (by omega)
  rw [h] at h1
  have h2 : el (tabP F k ++ L.drop k) k = el L k := by
    unfold el
    rw [List.getD_eq_getElem?_getD, List.getElem?_append_right (by rw [tabP_len]; exact Nat.le_refl _), tabP_len, Nat.sub_self, List.getElem?_drop]
    simp
  rw [h2] at h1
  exact h1
theorem set_done {F : Nat → Nat} {ys L : List Nat} {n : Nat} (h : cl ys = tabP F n ++ L.drop n) (hn : L.length ≤ n) : cl ys = tabP F n := by
  rw [h, List.drop_of_length_le hn, List.append_nil]
theorem set_start (F : Nat → Nat) (L : List Nat) {ys : List Nat} (h : cl ys = L) : Hid (cl ys = tabP F 0 ++ L.drop 0) := by
  unfold Hid; rw [h]; rfl
theorem cl_zeros (n : Nat) : cl (List.replicate n 0) = List.replicate n 0 := by
  unfold cl; rw [List.map_replicate]; congr 1
theorem FR.cellW {w : World} {b off : Nat} {xs : List Nat} (hc : FR w (some ⟨b, off, none⟩) xs) {k : Nat} (hk : k < xs.length) : ∀ w', Ext w w' → w'.cell? ⟨b, off + k, none⟩ = some (.float .f32 (el xs k)) := fun w' h => by
  obtain ⟨b', o', e, h2⟩ := hc.ext h k hk
  simp only [Option.some.injEq, Addr.mk.injEq, and_true] at e
  obtain ⟨rfl, rfl⟩ := e
  exact h2
/-- A slice of its own. -/
def GivesS (S : List Nat) (w : World) (e : Ending) (w' : World) : Prop := ∃ v ys, e = .returned v ∧ Ext w w' ∧ OwnF w' w.heap.size v ys ∧ cl ys = S
/-- What an option of a list is good for: its length. -/
theorem gate_len {b : Bool} {l : List Nat} {n : Nat} (h : b = true → l.length ≤ n) (hn : n ≤ 1048576) : (((if b then some l else none) : Option (List Nat)).getD []).length ≤ 1048576 := by
  cases b with
  | false => simp
  | true => simp only [if_true, Option.getD_some]; have := h rfl; omega
end Go.Proofs.Ytnjgcacnfobmiaa
