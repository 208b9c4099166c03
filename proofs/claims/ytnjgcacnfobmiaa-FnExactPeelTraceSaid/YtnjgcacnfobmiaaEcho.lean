/- What the functions EchoesOf and PeelTrace compute, in plain lists. -/
import Derived.Test.YtnjgcacnfobmiaaApp
import Derived.Test.YtnjgcacnfobmiaaAre
namespace Go.Proofs.Ytnjgcacnfobmiaa
open Go.RowKit
set_option maxRecDepth 100000
set_option linter.unusedVariables false

/-- What goes up behind a step. -/
def upF (r d u : List Nat) (k : Nat) : Nat :=
  if k < r.length then fop .add .f32 (fop .mul .f32 (el r k) (el d k)) (fop .mul .f32 (fop .sub .f32 (canon .f32 1065353216) (el r k)) (el u (k + 1))) else 0
/-- What goes down behind a step, the first number aside. -/
def dn0 (r d u : List Nat) : Nat → Nat
  | 0 => 0
  | k + 1 => fop .sub .f32 (fop .mul .f32 (fop .add .f32 (canon .f32 1065353216) (el r k)) (el d k)) (fop .mul .f32 (el r k) (el u (k + 1)))
def dnF (r : List Nat) (s : Nat) (d u : List Nat) (k : Nat) : Nat := if k = 0 then fneg .f32 (fop .mul .f32 s (el u 0)) else dn0 r d u k
def echoS (r : List Nat) (s : Nat) : Nat → List Nat × List Nat
  | 0 => ((List.replicate (r.length + 1) 0).set 0 (canon .f32 1065353216), List.replicate (r.length + 1) 0)
  | t + 1 => (tabP (dnF r s (echoS r s t).1 (echoS r s t).2) (r.length + 1), tabP (upF r (echoS r s t).1 (echoS r s t).2) (r.length + 1))
def echoG (r : List Nat) (s : Nat) (i : Nat) : Nat := el (echoS r s (2 * i + 1)).2 0
def echoO (r : List Nat) (s : Nat) (n : Int) : Option (List Nat) := if areB r && (surfB s && inB n 1 128) then some (tabP (echoG r s) n.toNat) else none
theorem echoO_len (r : List Nat) (s : Nat) (n : Int) : ((echoO r s n).getD []).length ≤ 1048576 :=
  gate_len (n := 128) (fun h => by simp only [Bool.and_eq_true] at h; have := inB_yes h.2.2; rw [tabP_len]; omega) (by omega)
theorem echo_s1 (r : List Nat) (s t : Nat) : (echoS r s (t + 1)).1 = tabP (dnF r s (echoS r s t).1 (echoS r s t).2) (r.length + 1) := rfl
theorem echo_s2 (r : List Nat) (s t : Nat) : (echoS r s (t + 1)).2 = tabP (upF r (echoS r s t).1 (echoS r s t).2) (r.length + 1) := rfl
theorem echo_len1 (r : List Nat) (s t : Nat) : (echoS r s t).1.length = r.length + 1 := by
  cases t with
  | zero => simp [echoS]
  | succ t => simp [echoS, tabP_len]
theorem echo_len2 (r : List Nat) (s t : Nat) : (echoS r s t).2.length = r.length + 1 := by
  cases t with
  | zero => simp [echoS]
  | succ t => simp [echoS, tabP_len]
theorem dn_start (r d u : List Nat) (n : Nat) {ys : List Nat} (h : cl ys = List.replicate (n + 1) 0) : Hid (cl ys = tabP (dn0 r d u) (0 + 1) ++ List.drop (0 + 1) (List.replicate (n + 1) 0)) := by
  unfold Hid
  rw [h, tabP_succ]
  show _ = [0] ++ _
  rw [List.replicate_succ]
  rfl
theorem dn_done (r : List Nat) (s : Nat) (d u : List Nat) {ys : List Nat} {x : Nat} (h : cl ys = tabP (dn0 r d u) (r.length + 1)) (hx : Is .f32 x (fneg .f32 (fop .mul .f32 s (el u 0)))) :
    Hid (cl (ys.set 0 x) = tabP (dnF r s d u) (r.length + 1)) := by
  unfold Hid
  rw [cl_set, h, hx.out']
  refine el_ext (by simp [tabP_len]) fun i hi => ?_
  simp only [List.length_set, tabP_len] at hi
  rw [el_set _ _ _ _ (by rw [tabP_len]; omega), el_tabP _ _ _ hi, el_tabP _ _ _ hi]
  unfold dnF
  by_cases h0 : i = 0
  · subst h0; simp
  · rw [if_neg h0, if_neg (by omega)]
theorem up_done (r d u : List Nat) {ys : List Nat} (h : cl ys = tabP (upF r d u) r.length ++ List.drop r.length (List.replicate (r.length + 1) 0)) : cl ys = tabP (upF r d u) (r.length + 1) := by
  rw [h, tabP_succ]
  congr 1
  rw [List.drop_replicate, show r.length + 1 - r.length = 1 by omega]
  show [0] = [upF r d u r.length]
  unfold upF
  rw [if_neg (by omega)]
theorem echo_odd (r : List Nat) (s t : Nat) (h : t % 2 = 1) : t / 2 + 1 = (t + 1) / 2 ∧ echoG r s (t / 2) = el (echoS r s t).2 0 := by
  refine ⟨by omega, ?_⟩
  unfold echoG
  rw [show 2 * (t / 2) + 1 = t by omega]
theorem echo_app {r : List Nat} {s t b : Nat} {ys : List Nat} (h : cl ys = tabP (echoG r s) (t / 2)) (ht : t % 2 = 1) (hb : Is .f32 b (el (echoS r s t).2 0)) : Hid (cl (ys ++ [b]) = tabP (echoG r s) ((t + 1) / 2)) := by
  obtain ⟨h1, h2⟩ := echo_odd r s t ht
  rw [← h1]
  exact app_step h (by rw [h2]; exact hb)
theorem echo_even (t : Nat) (h : t % 2 = 0) : (t + 1) / 2 = t / 2 := by omega

end Go.Proofs.Ytnjgcacnfobmiaa
