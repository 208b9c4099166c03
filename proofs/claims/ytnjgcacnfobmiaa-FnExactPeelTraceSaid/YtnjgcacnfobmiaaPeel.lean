/- What PeelTrace computes, in plain lists. -/
import Derived.Test.YtnjgcacnfobmiaaApp
import Derived.Test.YtnjgcacnfobmiaaAre
namespace Go.Proofs.Ytnjgcacnfobmiaa
open Go.RowKit
set_option maxRecDepth 100000
set_option linter.unusedVariables false

def peel0 (s : Nat) (a : List Nat) : Nat → Nat
  | 0 => canon .f32 1065353216
  | k + 1 => fneg .f32 (fop .mul .f32 s (el a k))
/-- What goes up and down, in whole lists: behind t rounds what goes up begins at number t. -/
def peelR (x : List Nat × List Nat) (t : Nat) : Nat := fop .quo .f32 (el x.1 t) (el x.2 0)
def peelU (x : List Nat × List Nat) (t j : Nat) : Nat :=
  if t ≤ j then fop .quo .f32 (fop .sub .f32 (el x.1 j) (fop .mul .f32 (peelR x t) (el x.2 (j - t)))) (fop .sub .f32 (canon .f32 1065353216) (peelR x t)) else el x.1 j
def peelD (x : List Nat × List Nat) (t i : Nat) : Nat :=
  fop .sub .f32 (fop .mul .f32 (fop .add .f32 (canon .f32 1065353216) (peelR x t)) (el x.2 i)) (fop .mul .f32 (peelR x t) (peelU x t (t + i)))
def peelN (x : List Nat × List Nat) (t : Nat) : List Nat × List Nat :=
  (tabP (peelU x t) x.1.length, tabP (fun i => if i < x.2.length - t then peelD x t i else el x.2 i) x.2.length)
def peelS (s : Nat) (a : List Nat) : Nat → List Nat × List Nat
  | 0 => (a, tabP (peel0 s a) a.length)
  | t + 1 => peelN (peelS s a t) t
def peelG (s : Nat) (a : List Nat) (t : Nat) : Nat := peelR (peelS s a t) t
def peelB (s : Nat) (a : List Nat) : Nat → Bool
  | 0 => true
  | t + 1 => peelB s a t && coefB (peelG s a t)
def peelO (a : List Nat) (s : Nat) (n : Int) : Option (List Nat) :=
  if isTr a && (surfB s && (inB n 1 24 && (inB n 1 (a.length : Int) && peelB s a n.toNat))) then some (tabP (peelG s a) n.toNat) else none
theorem peelO_len (a : List Nat) (s : Nat) (n : Int) : ((peelO a s n).getD []).length ≤ 1048576 :=
  gate_len (n := 128) (fun h => by simp only [Bool.and_eq_true] at h; have := inB_yes h.2.2.1; rw [tabP_len]; omega) (by omega)
theorem peel_len1 (s : Nat) (a : List Nat) (t : Nat) : (peelS s a t).1.length = a.length := by
  induction t with
  | zero => rfl
  | succ t ih => simp [peelS, peelN, tabP_len, ih]
theorem peel_len2 (s : Nat) (a : List Nat) (t : Nat) : (peelS s a t).2.length = a.length := by
  induction t with
  | zero => simp [peelS, tabP_len]
  | succ t ih => simp [peelS, peelN, tabP_len, ih]
theorem peelB_not {s : Nat} {a : List Nat} {t n : Nat} (ht : t < n) (h : coefB (peelG s a t) = false) : peelB s a n = false := by
  induction n with
  | zero => omega
  | succ n ih =>
    show (peelB s a n && coefB (peelG s a n)) = false
    by_cases h1 : t = n
    · subst h1; rw [h, Bool.and_false]
    · rw [ih (by omega), Bool.false_and]
theorem tab_set {F G : Nat → Nat} {n i r : Nat} {ys : List Nat} (h : cl ys = tabP F n) (hi : i < n) (hr : Is .f32 r (G i)) (hG : ∀ j, j < n → j ≠ i → G j = F j) : Hid (cl (ys.set i r) = tabP G n) := by
  unfold Hid
  rw [cl_set, h, hr.out']
  refine el_ext (by simp [tabP_len]) fun j hj => ?_
  simp only [List.length_set, tabP_len] at hj
  rw [el_set _ _ _ _ (by rw [tabP_len]; exact hi), el_tabP _ _ _ hj, el_tabP _ _ _ hj]
  by_cases h0 : i = j
  · subst h0; rw [if_pos rfl]
  · rw [if_neg h0, hG j hj (fun e => h0 e.symm)]
def upP (x : List Nat × List Nat) (t k j : Nat) : Nat := if j < t + k then peelU x t j else el x.1 j
def dnP (x : List Nat × List Nat) (t k i : Nat) : Nat := if i < k then peelD x t i else el x.2 i
theorem upP_start (x : List Nat × List Nat) (t n : Nat) (h : x.1.length = n) : Hid (x.1 = tabP (upP x t 0) n) := by
  subst h
  unfold Hid
  rw [← tabP_el x.1, tabP_len]
  refine tabP_congr fun j hj => ?_
  unfold upP peelU
  rw [Nat.add_zero]
  split
  · rw [if_neg (by omega)]
  · rfl
theorem dnP_start (x : List Nat × List Nat) (t n : Nat) (h : x.2.length = n) : Hid (x.2 = tabP (dnP x t 0) n) := by
  subst h
  unfold Hid
  rw [← tabP_el x.2, tabP_len]
  refine tabP_congr fun j hj => ?_
  unfold dnP
  rw [if_neg (by omega)]
theorem upP_end {s t q n : Nat} {a : List Nat} {us ds ul : List Nat} (hu : us = (peelS s a t).1) (hd : ds = (peelS s a t).2) (hn : a.length = n) (hq : t + q = n) (h : ul = tabP (upP (us, ds) t q) n) : Hid (ul = (peelS s a (t + 1)).1) := by
  subst hu hd hn h
  unfold Hid
  show _ = tabP (peelU (peelS s a t) t) (peelS s a t).1.length
  rw [peel_len1]
  refine tabP_congr fun j hj => ?_
  unfold upP
  rw [if_pos (by omega)]
theorem dnP_end {s t q n : Nat} {a : List Nat} {us ds dl : List Nat} (hu : us = (peelS s a t).1) (hd : ds = (peelS s a t).2) (hn : a.length = n) (hq : t + q = n) (h : dl = tabP (dnP (us, ds) t q) n) : Hid (dl = (peelS s a (t + 1)).2) := by
  subst hu hd hn h
  unfold Hid
  show _ = tabP (fun i => if i < (peelS s a t).2.length - t then peelD (peelS s a t) t i else el (peelS s a t).2 i) (peelS s a t).2.length
  rw [peel_len2]
  refine tabP_congr fun j hj => ?_
  unfold dnP
  rw [show a.length - t = q by omega]
end Go.Proofs.Ytnjgcacnfobmiaa
