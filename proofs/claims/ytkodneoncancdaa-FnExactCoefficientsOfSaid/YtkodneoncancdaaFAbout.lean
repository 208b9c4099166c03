/- FoldAbout: the reference's and the program's. -/
import Derived.Test.YtkodneoncancdaaFFold
namespace Go.Proofs.Ytkodneoncancdaa
open Go.RowKit
set_option linter.unusedVariables false

def aboutO (l m : List Nat) : Option (List Nat) := if isTr l && isTr m && decide (m.length % 2 = 1) && inB ((l.length : Int) + (m.length : Int) - 1) 1 128 then some (tabP (fun k => foldAt l m (m.length / 2 + k)) l.length) else none
theorem aboutO_len (l m : List Nat) : ((aboutO l m).getD []).length ≤ 1048576 :=
  gate_len (n := 128) (fun h => by
    simp only [Bool.and_eq_true] at h
    rw [tabP_len]; exact isTr_le h.1.1.1) (by omega)
theorem FR.sub {w : World} {ao : Option Addr} {xs : List Nat} (h : FR w ao xs) {b off : Nat} (ha : ao = some ⟨b, off, none⟩) (q n : Nat) (hq : q + n ≤ xs.length) : FR w (some ⟨b, off + q, none⟩) ((xs.drop q).take n) := fun i hi => by
  subst ha
  have hi' : i < n := by simp at hi; omega
  obtain ⟨b', o', e, hcell⟩ := h (q + i) (by omega)
  simp only [Option.some.injEq, Addr.mk.injEq, and_true] at e
  obtain ⟨rfl, rfl⟩ := e
  refine ⟨b, off + q, rfl, ?_⟩
  rw [show off + q + i = off + (q + i) by omega, hcell]
  congr 2
  simp [el, List.getD, hi']
theorem cl_sub (ys : List Nat) (F : Nat → Nat) (N q n : Nat) (h : cl ys = tabP F N) (hq : q + n ≤ N) : cl ((ys.drop q).take n) = tabP (fun k => F (q + k)) n := by
  have hl : ys.length = N := by rw [← cl_length, h, tabP_len]
  refine el_ext (by simp [cl_length, tabP_len]; omega) fun i hi => ?_
  have hi' : i < n := by simp [cl_length] at hi; omega
  rw [el_tabP _ _ _ hi', ← el_tabP F N (q + i) (by omega), ← h]
  unfold cl
  simp [el, List.getD, hi']
theorem clone_n (ao : Option Addr) (cap n : Nat) (xs : List Nat) (hn : xs.length = n) (w : World) (hc : FR w ao xs) (hl : n ≤ 1048576) :
    Calls Try.prog 76 #[.slice ao n cap] w (GivesX xs w) := by
  subst hn; exact clone_any _ _ _ _ hc hl
set_option maxHeartbeats 2000000 in
theorem foldA_any (ao : Option Addr) (cap : Nat) (xs : List Nat) (bo : Option Addr) (cb : Nat) (zs : List Nat) (w : World) (hc : FR w ao xs) (hl : xs.length ≤ 1048576) (hd : FR w bo zs) (hm : zs.length ≤ 1048576) :
    Calls Try.prog 51 #[.slice ao xs.length cap, .slice bo zs.length cb] w (GivesO (aboutO (cl xs) (cl zs)) w) := by
  by_cases hodd : zs.length % 2 = 1
  case neg =>
    have hn : Hid (aboutO (cl xs) (cl zs) = none) := by unfold Hid aboutO; rw [cl_length zs, decide_eq_false hodd]; simp
    have e0 : ((zs.length : Int) % 2 == 0) = true := by simp; omega
    clear hodd
    go_enter Try.func51, Try.ntmps51
    go_wp2_with (first | (go_at_call 63; refine (within_any _ _ _ _ (by first | assumption | rfl) _).mono ?_; rintro _ _ ⟨rfl, rfl⟩) | (go_at_call 69; refine (l00In_any _ _ _ _ (by first | assumption | rfl) _).mono ?_; rintro _ _ ⟨rfl, rfl⟩) | (go_at_call 71; refine (isCount_any _ _ (by first | assumption | rfl) _).mono ?_; rintro _ _ ⟨rfl, rfl⟩) | (go_at_call 79; refine (isFilter_any _ _ (by first | assumption | rfl) _).mono ?_; rintro _ _ ⟨rfl, rfl⟩) | (go_at_call 70; refine (isTrace_any _ _ _ _ (by first | assumption | rfl) _).mono ?_; rintro _ _ ⟨rfl, rfl⟩) | (go_at_call 68; refine (l03Is_any _ _ _ _ (by first | assumption | rfl) (by omega) _).mono ?_; rintro _ _ ⟨rfl, rfl⟩) | (go_at_call 64; refine (length32_any _ _ _ _).mono ?_; rintro _ _ ⟨rfl, rfl⟩) | (go_at_call 108; refine (isFinite64_any _ _ _ (by assumption) (by first | assumption | rfl) _).mono ?_; rintro _ _ ⟨rfl, n, rfl⟩) | (go_at_call 105; refine (isFinite_any _ _ _ (by first | assumption | exact is_ofInt _ _ | exact is_self) (by first | assumption | rfl) _).mono ?_; rintro _ _ ⟨rfl, n, rfl⟩) | (go_at_call 101; refine (l01Finite_any _ _ _ (by first | assumption | exact is_ofInt _ _ | exact is_self) (by first | assumption | rfl) _).mono ?_; rintro _ _ ⟨rfl, n, rfl⟩) | (refine wl_bin rfl rfl rfl rfl rfl (by first | assumption | exact is_ofInt _ _ | exact is_self) (by first | assumption | exact is_ofInt _ _ | exact is_self) ?_; intro r n hr) | (refine wl_cmp rfl rfl rfl rfl rfl (by first | assumption | exact is_ofInt _ _ | exact is_self) (by first | assumption | exact is_ofInt _ _ | exact is_self) (by first | assumption | rfl) ?_) | (refine wl_widen rfl rfl rfl (by first | exact rfl | kernel_rfl) (by kernel_rfl) (by first | assumption | exact is_ofInt _ _ | exact is_self) ?_; intro r n hr) | (refine wl_neg rfl rfl rfl (by first | assumption | exact is_ofInt _ _ | exact is_self) ?_; intro r hr))
    go_ret2
    exact givesO_none hn.out (Ext.refl _)
  have e0 : ((zs.length : Int) % 2 == 0) = false := by simp; omega
  cases hf : foldO (cl xs) (cl zs) with
  | none =>
    have hn : Hid (aboutO (cl xs) (cl zs) = none) := by
      unfold foldO at hf
      unfold Hid aboutO
      rw [cl_length zs, decide_eq_true hodd, Bool.and_true, ← cl_length zs]
      split at hf
      · cases hf
      · rename_i h; simp only [Bool.not_eq_true] at h; rw [h]; rfl
    clear hodd
    go_enter Try.func51, Try.ntmps51
    go_wp2_with (first | (go_at_call 43; refine (foldT_any _ _ _ _ _ _ _ hc hl hd hm).mono ?_; rw [hf]; rintro _ w1 ⟨v, ys, rfl, hE, hO, hcl⟩; (have HCL := Lib.hid hcl; clear hcl)) | (go_at_call 63; refine (within_any _ _ _ _ (by first | assumption | rfl) _).mono ?_; rintro _ _ ⟨rfl, rfl⟩) | (go_at_call 69; refine (l00In_any _ _ _ _ (by first | assumption | rfl) _).mono ?_; rintro _ _ ⟨rfl, rfl⟩) | (go_at_call 71; refine (isCount_any _ _ (by first | assumption | rfl) _).mono ?_; rintro _ _ ⟨rfl, rfl⟩) | (go_at_call 79; refine (isFilter_any _ _ (by first | assumption | rfl) _).mono ?_; rintro _ _ ⟨rfl, rfl⟩) | (go_at_call 70; refine (isTrace_any _ _ _ _ (by first | assumption | rfl) _).mono ?_; rintro _ _ ⟨rfl, rfl⟩) | (go_at_call 68; refine (l03Is_any _ _ _ _ (by first | assumption | rfl) (by omega) _).mono ?_; rintro _ _ ⟨rfl, rfl⟩) | (go_at_call 64; refine (length32_any _ _ _ _).mono ?_; rintro _ _ ⟨rfl, rfl⟩) | (go_at_call 108; refine (isFinite64_any _ _ _ (by assumption) (by first | assumption | rfl) _).mono ?_; rintro _ _ ⟨rfl, n, rfl⟩) | (go_at_call 105; refine (isFinite_any _ _ _ (by first | assumption | exact is_ofInt _ _ | exact is_self) (by first | assumption | rfl) _).mono ?_; rintro _ _ ⟨rfl, n, rfl⟩) | (go_at_call 101; refine (l01Finite_any _ _ _ (by first | assumption | exact is_ofInt _ _ | exact is_self) (by first | assumption | rfl) _).mono ?_; rintro _ _ ⟨rfl, n, rfl⟩))
    go_ret2
    exact givesO_none hn.out hE
  | some S =>
    have hf2 := hf
    unfold foldO at hf2
    split at hf2
    case isFalse => cases hf2
    rename_i hg
    injection hf2 with hS
    have hg2 := hg
    simp only [Bool.and_eq_true, isTr_cl, cl_length] at hg2
    have hI0 := inB_yes hg2.1.1
    have hI1 := inB_yes hg2.1.2
    have hI2 := inB_yes hg2.2
    have hs : Hid (aboutO (cl xs) (cl zs) = some (tabP (fun k => foldAt (cl xs) (cl zs) (zs.length / 2 + k)) xs.length)) := by
      unfold Hid aboutO
      rw [cl_length zs, decide_eq_true hodd, Bool.and_true, ← cl_length zs, hg, if_pos rfl, cl_length xs]
    have HS : Hid (S = tabP (foldAt (cl xs) (cl zs)) (xs.length + zs.length - 1)) := by unfold Hid; rw [← hS, cl_length, cl_length]
    have HF := Lib.hid hf
    obtain ⟨q, hq⟩ : ∃ q : Nat, q = zs.length / 2 := ⟨_, rfl⟩
    have e1 : (zs.length : Int) / 2 = (q : Int) := by omega
    have hq1 : q + xs.length ≤ xs.length + zs.length - 1 := by omega
    have HQ := Lib.hid hq
    clear hodd hg hg2 hS hf hq
    go_enter Try.func51, Try.ntmps51
    go_wp2_with (first | (go_at_call 43; refine (foldT_any _ _ _ _ _ _ _ hc hl hd hm).mono ?_; rw [HF.out]; rintro _ w1 ⟨v, ys, rfl, hE, hO, hcl⟩; (have hyl : ys.length = xs.length + zs.length - 1 := by (have h9 := congrArg List.length (show cl ys = S from hcl); rw [cl_length, HS.out, tabP_len] at h9; exact h9)); (have hyl1 := Nat.le_of_eq hyl); (have hyl2 := Nat.le_of_eq hyl.symm); clear hyl; (have HCL : Hid (cl ys = S) := hcl); clear hcl; obtain ⟨a1, c1, rfl, hfr⟩ := OwnF.fr hO; obtain ⟨g, rfl, hg1, hg2, _⟩ := OwnF.at hO (k := 0) (by omega); have hcap := OwnF.capLe hO; have hcq : ¬ c1 = q := (by omega); have hsub := FR.sub hfr rfl q xs.length (by omega); rw [Nat.zero_add] at hsub; have hsl : ((ys.drop q).take xs.length).length = xs.length := (by simp; omega); have HSL := Lib.hid hsl; clear hsl) | (go_at_call 76; refine (clone_n _ _ _ _ HSL.out _ hsub (by omega)).mono ?_; rintro _ w2 ⟨v, rfl, hE2, hO2⟩) | (go_at_call 63; refine (within_any _ _ _ _ (by first | assumption | rfl) _).mono ?_; rintro _ _ ⟨rfl, rfl⟩) | (go_at_call 69; refine (l00In_any _ _ _ _ (by first | assumption | rfl) _).mono ?_; rintro _ _ ⟨rfl, rfl⟩) | (go_at_call 71; refine (isCount_any _ _ (by first | assumption | rfl) _).mono ?_; rintro _ _ ⟨rfl, rfl⟩) | (go_at_call 79; refine (isFilter_any _ _ (by first | assumption | rfl) _).mono ?_; rintro _ _ ⟨rfl, rfl⟩) | (go_at_call 70; refine (isTrace_any _ _ _ _ (by first | assumption | rfl) _).mono ?_; rintro _ _ ⟨rfl, rfl⟩) | (go_at_call 68; refine (l03Is_any _ _ _ _ (by first | assumption | rfl) (by omega) _).mono ?_; rintro _ _ ⟨rfl, rfl⟩) | (go_at_call 64; refine (length32_any _ _ _ _).mono ?_; rintro _ _ ⟨rfl, rfl⟩) | (go_at_call 108; refine (isFinite64_any _ _ _ (by assumption) (by first | assumption | rfl) _).mono ?_; rintro _ _ ⟨rfl, n, rfl⟩) | (go_at_call 105; refine (isFinite_any _ _ _ (by first | assumption | exact is_ofInt _ _ | exact is_self) (by first | assumption | rfl) _).mono ?_; rintro _ _ ⟨rfl, n, rfl⟩) | (go_at_call 101; refine (l01Finite_any _ _ _ (by first | assumption | exact is_ofInt _ _ | exact is_self) (by first | assumption | rfl) _).mono ?_; rintro _ _ ⟨rfl, n, rfl⟩))
    go_ret2
    exact givesO_some hs.out (hE.trans hE2) (OwnF.mono hO2 hE.size) (by rw [cl_sub ys _ _ q xs.length (HCL.out.trans HS.out) (by omega), HQ.out])
section
variable {P : Program} {ops : Array Oper} {Q : Exit → Act → World → Prop} {a : Act} {w : World} {rest : List Oper} {o : Oper}
theorem wl_appendN (w0 : World) (hg : Region.wanted o (yielded ops a.tmps) = true) (hT : P.underlying 22 = some (.slice 34)) {i0 : TypeInfo} (hi : P.info? 34 = some i0) (hz : i0.zero = some (.float .f32 0)) (hs1 : i0.size = 1) (hb4 : i0.bytes = 4)
    {s x : Operand} (ho : o.op = .call { callee := .builtin .append, args := #[s, x], argTypes := #[22, 22] }) {v : Value} {ys : List Nat} (hs : a.eval s = v) {ao : Option Addr} {n c : Nat} {xs : List Nat} (hx : a.eval x = .slice ao n c) (hn : n = xs.length)
    (hown : OwnF w w0.heap.size v ys) (hext : Ext w0 w) (hc : FR w ao xs) (hl : ys.length + xs.length ≤ 1073741824)
    (h : ∀ v' w', OwnF w' w0.heap.size v' (ys ++ xs) → Ext w0 w' → wpList P ops Q rest (a.put o.dst v') w') : wpList P ops Q (o :: rest) a w := by
  subst hn
  exact wl_appendS w0 hg hT hi hz hs1 hb4 ho hs hx hown hext hc hl h
end
set_option maxHeartbeats 2000000 in
theorem specFoldA_any (ao : Option Addr) (cap : Nat) (xs : List Nat) (bo : Option Addr) (cb : Nat) (zs : List Nat) (w : World) (hc : FR w ao xs) (hl : xs.length ≤ 1048576) (hd : FR w bo zs) (hm : zs.length ≤ 1048576) :
    Calls Try.prog 50 #[.slice ao xs.length cap, .slice bo zs.length cb] w (GivesO (aboutO (cl xs) (cl zs)) w) := by
  obtain ⟨i0, hi0, hz0, hs0, hb0⟩ := info_parts info32
  cases ht0 : inB (xs.length : Int) 1 128 with
  | false =>
    have hn : Hid (aboutO (cl xs) (cl zs) = none) := by unfold Hid aboutO; rw [isTr_cl, ht0]; rfl
    go_enter Try.func50, Try.ntmps50
    go_wp2_with (first | (go_at_call 63; refine (within_any _ _ _ _ (by first | assumption | rfl) _).mono ?_; rintro _ _ ⟨rfl, rfl⟩) | (go_at_call 69; refine (l00In_any _ _ _ _ (by first | assumption | rfl) _).mono ?_; rintro _ _ ⟨rfl, rfl⟩) | (go_at_call 71; refine (isCount_any _ _ (by first | assumption | rfl) _).mono ?_; rintro _ _ ⟨rfl, rfl⟩) | (go_at_call 79; refine (isFilter_any _ _ (by first | assumption | rfl) _).mono ?_; rintro _ _ ⟨rfl, rfl⟩) | (go_at_call 70; refine (isTrace_any _ _ _ _ (by first | assumption | rfl) _).mono ?_; rintro _ _ ⟨rfl, rfl⟩) | (go_at_call 68; refine (l03Is_any _ _ _ _ (by first | assumption | rfl) (by omega) _).mono ?_; rintro _ _ ⟨rfl, rfl⟩) | (go_at_call 64; refine (length32_any _ _ _ _).mono ?_; rintro _ _ ⟨rfl, rfl⟩) | (go_at_call 108; refine (isFinite64_any _ _ _ (by assumption) (by first | assumption | rfl) _).mono ?_; rintro _ _ ⟨rfl, n, rfl⟩) | (go_at_call 105; refine (isFinite_any _ _ _ (by first | assumption | exact is_ofInt _ _ | exact is_self) (by first | assumption | rfl) _).mono ?_; rintro _ _ ⟨rfl, n, rfl⟩) | (go_at_call 101; refine (l01Finite_any _ _ _ (by first | assumption | exact is_ofInt _ _ | exact is_self) (by first | assumption | rfl) _).mono ?_; rintro _ _ ⟨rfl, n, rfl⟩) | (refine wl_bin rfl rfl rfl rfl rfl (by first | assumption | exact is_ofInt _ _ | exact is_self) (by first | assumption | exact is_ofInt _ _ | exact is_self) ?_; intro r n hr) | (refine wl_cmp rfl rfl rfl rfl rfl (by first | assumption | exact is_ofInt _ _ | exact is_self) (by first | assumption | exact is_ofInt _ _ | exact is_self) (by first | assumption | rfl) ?_) | (refine wl_widen rfl rfl rfl (by first | exact rfl | kernel_rfl) (by kernel_rfl) (by first | assumption | exact is_ofInt _ _ | exact is_self) ?_; intro r n hr) | (refine wl_neg rfl rfl rfl (by first | assumption | exact is_ofInt _ _ | exact is_self) ?_; intro r hr))
    go_ret2
    exact givesO_none hn.out (Ext.refl _)
  | true =>
  cases ht1 : inB (zs.length : Int) 1 128 with
  | false =>
    have hn : Hid (aboutO (cl xs) (cl zs) = none) := by unfold Hid aboutO; rw [isTr_cl, ht0, isTr_cl, ht1]; rfl
    go_enter Try.func50, Try.ntmps50
    go_wp2_with (first | (go_at_call 63; refine (within_any _ _ _ _ (by first | assumption | rfl) _).mono ?_; rintro _ _ ⟨rfl, rfl⟩) | (go_at_call 69; refine (l00In_any _ _ _ _ (by first | assumption | rfl) _).mono ?_; rintro _ _ ⟨rfl, rfl⟩) | (go_at_call 71; refine (isCount_any _ _ (by first | assumption | rfl) _).mono ?_; rintro _ _ ⟨rfl, rfl⟩) | (go_at_call 79; refine (isFilter_any _ _ (by first | assumption | rfl) _).mono ?_; rintro _ _ ⟨rfl, rfl⟩) | (go_at_call 70; refine (isTrace_any _ _ _ _ (by first | assumption | rfl) _).mono ?_; rintro _ _ ⟨rfl, rfl⟩) | (go_at_call 68; refine (l03Is_any _ _ _ _ (by first | assumption | rfl) (by omega) _).mono ?_; rintro _ _ ⟨rfl, rfl⟩) | (go_at_call 64; refine (length32_any _ _ _ _).mono ?_; rintro _ _ ⟨rfl, rfl⟩) | (go_at_call 108; refine (isFinite64_any _ _ _ (by assumption) (by first | assumption | rfl) _).mono ?_; rintro _ _ ⟨rfl, n, rfl⟩) | (go_at_call 105; refine (isFinite_any _ _ _ (by first | assumption | exact is_ofInt _ _ | exact is_self) (by first | assumption | rfl) _).mono ?_; rintro _ _ ⟨rfl, n, rfl⟩) | (go_at_call 101; refine (l01Finite_any _ _ _ (by first | assumption | exact is_ofInt _ _ | exact is_self) (by first | assumption | rfl) _).mono ?_; rintro _ _ ⟨rfl, n, rfl⟩) | (refine wl_bin rfl rfl rfl rfl rfl (by first | assumption | exact is_ofInt _ _ | exact is_self) (by first | assumption | exact is_ofInt _ _ | exact is_self) ?_; intro r n hr) | (refine wl_cmp rfl rfl rfl rfl rfl (by first | assumption | exact is_ofInt _ _ | exact is_self) (by first | assumption | exact is_ofInt _ _ | exact is_self) (by first | assumption | rfl) ?_) | (refine wl_widen rfl rfl rfl (by first | exact rfl | kernel_rfl) (by kernel_rfl) (by first | assumption | exact is_ofInt _ _ | exact is_self) ?_; intro r n hr) | (refine wl_neg rfl rfl rfl (by first | assumption | exact is_ofInt _ _ | exact is_self) ?_; intro r hr))
    go_ret2
    exact givesO_none hn.out (Ext.refl _)
  | true =>
  have hI0 := inB_yes ht0
  have hI1 := inB_yes ht1
  by_cases hodd : zs.length % 2 = 1
  case neg =>
    have hn : Hid (aboutO (cl xs) (cl zs) = none) := by unfold Hid aboutO; rw [cl_length zs, decide_eq_false hodd]; simp
    have e0 : ((zs.length : Int) % 2 == 0) = true := by simp; omega
    clear hodd
    go_enter Try.func50, Try.ntmps50
    go_wp2_with (first | (go_at_call 63; refine (within_any _ _ _ _ (by first | assumption | rfl) _).mono ?_; rintro _ _ ⟨rfl, rfl⟩) | (go_at_call 69; refine (l00In_any _ _ _ _ (by first | assumption | rfl) _).mono ?_; rintro _ _ ⟨rfl, rfl⟩) | (go_at_call 71; refine (isCount_any _ _ (by first | assumption | rfl) _).mono ?_; rintro _ _ ⟨rfl, rfl⟩) | (go_at_call 79; refine (isFilter_any _ _ (by first | assumption | rfl) _).mono ?_; rintro _ _ ⟨rfl, rfl⟩) | (go_at_call 70; refine (isTrace_any _ _ _ _ (by first | assumption | rfl) _).mono ?_; rintro _ _ ⟨rfl, rfl⟩) | (go_at_call 68; refine (l03Is_any _ _ _ _ (by first | assumption | rfl) (by omega) _).mono ?_; rintro _ _ ⟨rfl, rfl⟩) | (go_at_call 64; refine (length32_any _ _ _ _).mono ?_; rintro _ _ ⟨rfl, rfl⟩) | (go_at_call 108; refine (isFinite64_any _ _ _ (by assumption) (by first | assumption | rfl) _).mono ?_; rintro _ _ ⟨rfl, n, rfl⟩) | (go_at_call 105; refine (isFinite_any _ _ _ (by first | assumption | exact is_ofInt _ _ | exact is_self) (by first | assumption | rfl) _).mono ?_; rintro _ _ ⟨rfl, n, rfl⟩) | (go_at_call 101; refine (l01Finite_any _ _ _ (by first | assumption | exact is_ofInt _ _ | exact is_self) (by first | assumption | rfl) _).mono ?_; rintro _ _ ⟨rfl, n, rfl⟩) | (refine wl_bin rfl rfl rfl rfl rfl (by first | assumption | exact is_ofInt _ _ | exact is_self) (by first | assumption | exact is_ofInt _ _ | exact is_self) ?_; intro r n hr) | (refine wl_cmp rfl rfl rfl rfl rfl (by first | assumption | exact is_ofInt _ _ | exact is_self) (by first | assumption | exact is_ofInt _ _ | exact is_self) (by first | assumption | rfl) ?_) | (refine wl_widen rfl rfl rfl (by first | exact rfl | kernel_rfl) (by kernel_rfl) (by first | assumption | exact is_ofInt _ _ | exact is_self) ?_; intro r n hr) | (refine wl_neg rfl rfl rfl (by first | assumption | exact is_ofInt _ _ | exact is_self) ?_; intro r hr))
    go_ret2
    exact givesO_none hn.out (Ext.refl _)
  have e0 : ((zs.length : Int) % 2 == 0) = false := by simp; omega
  cases ht2 : inB ((xs.length : Int) + (zs.length : Int) - 1) 1 128 with
  | false =>
    have hI2 := inB_no ht2
    have e1 : (128 : Int) < (xs.length : Int) + (zs.length : Int) - 1 := by omega
    have hn : Hid (aboutO (cl xs) (cl zs) = none) := by unfold Hid aboutO; rw [cl_length, cl_length, ht2]; simp
    clear hodd
    go_enter Try.func50, Try.ntmps50
    go_wp2_with (first | (go_at_call 63; refine (within_any _ _ _ _ (by first | assumption | rfl) _).mono ?_; rintro _ _ ⟨rfl, rfl⟩) | (go_at_call 69; refine (l00In_any _ _ _ _ (by first | assumption | rfl) _).mono ?_; rintro _ _ ⟨rfl, rfl⟩) | (go_at_call 71; refine (isCount_any _ _ (by first | assumption | rfl) _).mono ?_; rintro _ _ ⟨rfl, rfl⟩) | (go_at_call 79; refine (isFilter_any _ _ (by first | assumption | rfl) _).mono ?_; rintro _ _ ⟨rfl, rfl⟩) | (go_at_call 70; refine (isTrace_any _ _ _ _ (by first | assumption | rfl) _).mono ?_; rintro _ _ ⟨rfl, rfl⟩) | (go_at_call 68; refine (l03Is_any _ _ _ _ (by first | assumption | rfl) (by omega) _).mono ?_; rintro _ _ ⟨rfl, rfl⟩) | (go_at_call 64; refine (length32_any _ _ _ _).mono ?_; rintro _ _ ⟨rfl, rfl⟩) | (go_at_call 108; refine (isFinite64_any _ _ _ (by assumption) (by first | assumption | rfl) _).mono ?_; rintro _ _ ⟨rfl, n, rfl⟩) | (go_at_call 105; refine (isFinite_any _ _ _ (by first | assumption | exact is_ofInt _ _ | exact is_self) (by first | assumption | rfl) _).mono ?_; rintro _ _ ⟨rfl, n, rfl⟩) | (go_at_call 101; refine (l01Finite_any _ _ _ (by first | assumption | exact is_ofInt _ _ | exact is_self) (by first | assumption | rfl) _).mono ?_; rintro _ _ ⟨rfl, n, rfl⟩) | (refine wl_bin rfl rfl rfl rfl rfl (by first | assumption | exact is_ofInt _ _ | exact is_self) (by first | assumption | exact is_ofInt _ _ | exact is_self) ?_; intro r n hr) | (refine wl_cmp rfl rfl rfl rfl rfl (by first | assumption | exact is_ofInt _ _ | exact is_self) (by first | assumption | exact is_ofInt _ _ | exact is_self) (by first | assumption | rfl) ?_) | (refine wl_widen rfl rfl rfl (by first | exact rfl | kernel_rfl) (by kernel_rfl) (by first | assumption | exact is_ofInt _ _ | exact is_self) ?_; intro r n hr) | (refine wl_neg rfl rfl rfl (by first | assumption | exact is_ofInt _ _ | exact is_self) ?_; intro r hr))
    go_ret2
    exact givesO_none hn.out (Ext.refl _)
  | true =>
    have hI2 := inB_yes ht2
    have e3 : ¬ (128 : Int) < (xs.length : Int) + (zs.length : Int) - 1 := by omega
    have hs : Hid (aboutO (cl xs) (cl zs) = some (tabP (fun k => foldAt (cl xs) (cl zs) (zs.length / 2 + k)) xs.length)) := by
      unfold Hid aboutO
      rw [isTr_cl, ht0, isTr_cl, ht1, cl_length xs, cl_length zs, decide_eq_true hodd, ht2]; rfl
    obtain ⟨q, hq⟩ : ∃ q : Nat, q = zs.length / 2 := ⟨_, rfl⟩
    have e1 : (zs.length : Int) / 2 = (q : Int) := by omega
    have hq1 : q + xs.length ≤ xs.length + zs.length - 1 := by omega
    have HQ := Lib.hid hq
    clear hodd hq
    go_enter Try.func50, Try.ntmps50
    go_wp2_with (first | (go_at_call 86; refine (l03Fold_any _ _ _ _ _ _ _ (hc.ext ((Ext.refl _).alloc _)) (by omega) (by omega) (hd.ext ((Ext.refl _).alloc _)) (by omega) (by omega)).mono ?_; rintro _ w1 ⟨v, ys, rfl, hE, hO, hcl⟩; (have hyl : ys.length = xs.length + zs.length - 1 := by (have h9 := congrArg List.length hcl; rw [cl_length, tabP_len] at h9; exact h9)); (have hyl1 := Nat.le_of_eq hyl); (have hyl2 := Nat.le_of_eq hyl.symm); clear hyl; have HCL := Lib.hid hcl; clear hcl; obtain ⟨a1, c1, rfl, hfr⟩ := OwnF.fr hO; obtain ⟨g, rfl, hg1, hg2, _⟩ := OwnF.at hO (k := 0) (by omega); have hcap := OwnF.capLe hO; have hcq : ¬ c1 = q := (by omega); have hsub := FR.sub hfr rfl q xs.length (by omega); rw [Nat.zero_add] at hsub; have hsl : ((ys.drop q).take xs.length).length = xs.length := (by simp; omega); have HSL := Lib.hid hsl; clear hsl) | (at_builtin; refine wl_appendN w rfl Try.underlying22 hi0 hz0 hs0 hb0 rfl rfl rfl (by rw [HSL.out]; omega) ((ownF_empty _ _ (Ext.refl _)).ext hE) (((Ext.refl _).alloc _).trans hE) hsub (by rw [HSL.out]; simp; omega) ?_; intro v2 w2 hO2 hE2) | (go_at_call 63; refine (within_any _ _ _ _ (by first | assumption | rfl) _).mono ?_; rintro _ _ ⟨rfl, rfl⟩) | (go_at_call 69; refine (l00In_any _ _ _ _ (by first | assumption | rfl) _).mono ?_; rintro _ _ ⟨rfl, rfl⟩) | (go_at_call 71; refine (isCount_any _ _ (by first | assumption | rfl) _).mono ?_; rintro _ _ ⟨rfl, rfl⟩) | (go_at_call 79; refine (isFilter_any _ _ (by first | assumption | rfl) _).mono ?_; rintro _ _ ⟨rfl, rfl⟩) | (go_at_call 70; refine (isTrace_any _ _ _ _ (by first | assumption | rfl) _).mono ?_; rintro _ _ ⟨rfl, rfl⟩) | (go_at_call 68; refine (l03Is_any _ _ _ _ (by first | assumption | rfl) (by omega) _).mono ?_; rintro _ _ ⟨rfl, rfl⟩) | (go_at_call 64; refine (length32_any _ _ _ _).mono ?_; rintro _ _ ⟨rfl, rfl⟩) | (go_at_call 108; refine (isFinite64_any _ _ _ (by assumption) (by first | assumption | rfl) _).mono ?_; rintro _ _ ⟨rfl, n, rfl⟩) | (go_at_call 105; refine (isFinite_any _ _ _ (by first | assumption | exact is_ofInt _ _ | exact is_self) (by first | assumption | rfl) _).mono ?_; rintro _ _ ⟨rfl, n, rfl⟩) | (go_at_call 101; refine (l01Finite_any _ _ _ (by first | assumption | exact is_ofInt _ _ | exact is_self) (by first | assumption | rfl) _).mono ?_; rintro _ _ ⟨rfl, n, rfl⟩))
    go_ret2
    exact givesO_some hs.out hE2 hO2 (by rw [List.nil_append, cl_sub ys _ _ q xs.length HCL.out (by omega), HQ.out])
end Go.Proofs.Ytkodneoncancdaa
