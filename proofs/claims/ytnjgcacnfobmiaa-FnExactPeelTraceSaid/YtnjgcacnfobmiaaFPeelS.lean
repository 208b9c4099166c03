/- PeelTrace: the reference's. -/
import Derived.Test.YtnjgcacnfobmiaaPeel
import Derived.Test.YtnjgcacnfobmiaaFEchoS
namespace Go.Proofs.Ytnjgcacnfobmiaa
open Go.RowKit
set_option maxRecDepth 100000
set_option linter.unusedVariables false

theorem upP_step {x : List Nat × List Nat} {t k n r : Nat} {ys : List Nat} (h : cl ys = tabP (upP x t k) n) (hi : t + k < n) (hr : Is .f32 r (peelU x t (t + k))) : Hid (cl (ys.set (t + k) r) = tabP (upP x t (k + 1)) n) :=
  tab_set h hi (by unfold upP; rw [if_pos (by omega)]; exact hr) fun j hj hne => by
    unfold upP
    by_cases h1 : j < t + k
    · rw [if_pos h1, if_pos (by omega)]
    · rw [if_neg h1, if_neg (by omega)]
theorem dnP_step {x : List Nat × List Nat} {t k n r : Nat} {ys : List Nat} (h : cl ys = tabP (dnP x t k) n) (hi : k < n) (hr : Is .f32 r (peelD x t k)) : Hid (cl (ys.set k r) = tabP (dnP x t (k + 1)) n) :=
  tab_set h hi (by unfold dnP; rw [if_pos (by omega)]; exact hr) fun j hj hne => by
    unfold dnP
    by_cases h1 : j < k
    · rw [if_pos h1, if_pos (by omega)]
    · rw [if_neg h1, if_neg (by omega)]
theorem peelU_at {x : List Nat × List Nat} {t k : Nat} : peelU x t (t + k) = fop .quo .f32 (fop .sub .f32 (el x.1 (t + k)) (fop .mul .f32 (peelR x t) (el x.2 k))) (fop .sub .f32 (canon .f32 1065353216) (peelR x t)) := by
  unfold peelU; rw [if_pos (by omega), Nat.add_sub_cancel_left]
theorem peelO_no {a : List Nat} {s m t : Nat} (h : coefB (peelG s a t) = false) (ht : t < m) : peelO a s (m : Int) = none := by
  unfold peelO
  rw [show ((m : Int)).toNat = m from rfl, peelB_not ht h]
  simp
theorem peelO_yes {a : List Nat} {s m : Nat} (h0 : isTr a = true) (h1 : surfB s = true) (h2 : inB (m : Int) 1 24 = true) (h3 : inB (m : Int) 1 (a.length : Int) = true) (h : peelB s a m = true) : peelO a s (m : Int) = some (tabP (peelG s a) m) := by
  unfold peelO
  rw [h0, h1, h2, h3, show ((m : Int)).toNat = m from rfl, h]
  rfl
set_option maxHeartbeats 1000000 in
theorem specPeel_no0 (ao : Option Addr) (cap : Nat) (xs : List Nat) (b s : Nat) (n : Int) (w : World) (hc : FR w ao xs) (hl : xs.length ≤ 1048576) (hb : Is .f32 b s) (_ : -9223372036854775808 ≤ n) (_ : n ≤ 9223372036854775807) (ht0 : inB (xs.length : Int) 1 128 = false) :
    Calls Try.prog 31 #[.slice ao xs.length cap, .float .f32 b, .int .i64 n] w (GivesO (peelO (cl xs) s n) w) := by
  have hn : Hid (peelO (cl xs) s n = none) := by unfold Hid peelO; rw [isTr_cl, ht0]; rfl
  go_enter Try.func31, Try.ntmps31
  go_wp2_with (first | (go_at_call 89; refine (l03Surface_any _ _ _ hb (by assumption) _).mono ?_; rintro _ _ ⟨rfl, rfl⟩) | (go_at_call 77; refine (within_any _ _ _ _ (by first | assumption | rfl) _).mono ?_; rintro _ _ ⟨rfl, rfl⟩) | (go_at_call 90; refine (l00In_any _ _ _ _ (by first | assumption | rfl) _).mono ?_; rintro _ _ ⟨rfl, rfl⟩) | (go_at_call 96; refine (isCount_any _ _ (by first | assumption | rfl) _).mono ?_; rintro _ _ ⟨rfl, rfl⟩) | (go_at_call 88; refine (isTrace_any _ _ _ _ (by first | assumption | rfl) _).mono ?_; rintro _ _ ⟨rfl, rfl⟩) | (go_at_call 85; refine (l03Is_any _ _ _ _ (by first | assumption | rfl) (by omega) _).mono ?_; rintro _ _ ⟨rfl, rfl⟩) | (go_at_call 78; refine (length32_any _ _ _ _).mono ?_; rintro _ _ ⟨rfl, rfl⟩) | (go_at_call 148; refine (isFinite64_any _ _ _ (by assumption) (by first | assumption | rfl) _).mono ?_; rintro _ _ ⟨rfl, n, rfl⟩) | (go_at_call 99; refine (isFinite_any _ _ _ (by first | assumption | exact is_ofInt _ _ | exact is_self) (by first | assumption | rfl) _).mono ?_; rintro _ _ ⟨rfl, n, rfl⟩) | (go_at_call 97; refine (l01Finite_any _ _ _ (by first | assumption | exact is_ofInt _ _ | exact is_self) (by first | assumption | rfl) _).mono ?_; rintro _ _ ⟨rfl, n, rfl⟩))
  go_ret2
  exact givesO_none hn.out (by repeat (first | assumption | exact Ext.refl _ | apply Ext.drewN | apply Ext.alloc | (refine Ext.setCell ?_ (by first | assumption | exact Nat.le_refl _) _)))
set_option maxHeartbeats 1000000 in
theorem specPeel_no1 (ao : Option Addr) (cap : Nat) (xs : List Nat) (b s : Nat) (n : Int) (w : World) (hc : FR w ao xs) (hl : xs.length ≤ 1048576) (hb : Is .f32 b s) (_ : -9223372036854775808 ≤ n) (_ : n ≤ 9223372036854775807) (ht0 : inB (xs.length : Int) 1 128 = true) (ht1 : surfB s = false) :
    Calls Try.prog 31 #[.slice ao xs.length cap, .float .f32 b, .int .i64 n] w (GivesO (peelO (cl xs) s n) w) := by
  have hn : Hid (peelO (cl xs) s n = none) := by unfold Hid peelO; rw [isTr_cl, ht0, ht1]; rfl
  go_enter Try.func31, Try.ntmps31
  go_wp2_with (first | (go_at_call 89; refine (l03Surface_any _ _ _ hb (by assumption) _).mono ?_; rintro _ _ ⟨rfl, rfl⟩) | (go_at_call 77; refine (within_any _ _ _ _ (by first | assumption | rfl) _).mono ?_; rintro _ _ ⟨rfl, rfl⟩) | (go_at_call 90; refine (l00In_any _ _ _ _ (by first | assumption | rfl) _).mono ?_; rintro _ _ ⟨rfl, rfl⟩) | (go_at_call 96; refine (isCount_any _ _ (by first | assumption | rfl) _).mono ?_; rintro _ _ ⟨rfl, rfl⟩) | (go_at_call 88; refine (isTrace_any _ _ _ _ (by first | assumption | rfl) _).mono ?_; rintro _ _ ⟨rfl, rfl⟩) | (go_at_call 85; refine (l03Is_any _ _ _ _ (by first | assumption | rfl) (by omega) _).mono ?_; rintro _ _ ⟨rfl, rfl⟩) | (go_at_call 78; refine (length32_any _ _ _ _).mono ?_; rintro _ _ ⟨rfl, rfl⟩) | (go_at_call 148; refine (isFinite64_any _ _ _ (by assumption) (by first | assumption | rfl) _).mono ?_; rintro _ _ ⟨rfl, n, rfl⟩) | (go_at_call 99; refine (isFinite_any _ _ _ (by first | assumption | exact is_ofInt _ _ | exact is_self) (by first | assumption | rfl) _).mono ?_; rintro _ _ ⟨rfl, n, rfl⟩) | (go_at_call 97; refine (l01Finite_any _ _ _ (by first | assumption | exact is_ofInt _ _ | exact is_self) (by first | assumption | rfl) _).mono ?_; rintro _ _ ⟨rfl, n, rfl⟩))
  go_ret2
  exact givesO_none hn.out (by repeat (first | assumption | exact Ext.refl _ | apply Ext.drewN | apply Ext.alloc | (refine Ext.setCell ?_ (by first | assumption | exact Nat.le_refl _) _)))
set_option maxHeartbeats 1000000 in
theorem specPeel_no2 (ao : Option Addr) (cap : Nat) (xs : List Nat) (b s : Nat) (n : Int) (w : World) (hc : FR w ao xs) (hl : xs.length ≤ 1048576) (hb : Is .f32 b s) (_ : -9223372036854775808 ≤ n) (_ : n ≤ 9223372036854775807) (ht0 : inB (xs.length : Int) 1 128 = true) (ht1 : surfB s = true) (ht2 : inB n 1 24 = false) :
    Calls Try.prog 31 #[.slice ao xs.length cap, .float .f32 b, .int .i64 n] w (GivesO (peelO (cl xs) s n) w) := by
  have hn : Hid (peelO (cl xs) s n = none) := by unfold Hid peelO; rw [isTr_cl, ht0, ht1, ht2]; rfl
  go_enter Try.func31, Try.ntmps31
  go_wp2_with (first | (go_at_call 89; refine (l03Surface_any _ _ _ hb (by assumption) _).mono ?_; rintro _ _ ⟨rfl, rfl⟩) | (go_at_call 77; refine (within_any _ _ _ _ (by first | assumption | rfl) _).mono ?_; rintro _ _ ⟨rfl, rfl⟩) | (go_at_call 90; refine (l00In_any _ _ _ _ (by first | assumption | rfl) _).mono ?_; rintro _ _ ⟨rfl, rfl⟩) | (go_at_call 96; refine (isCount_any _ _ (by first | assumption | rfl) _).mono ?_; rintro _ _ ⟨rfl, rfl⟩) | (go_at_call 88; refine (isTrace_any _ _ _ _ (by first | assumption | rfl) _).mono ?_; rintro _ _ ⟨rfl, rfl⟩) | (go_at_call 85; refine (l03Is_any _ _ _ _ (by first | assumption | rfl) (by omega) _).mono ?_; rintro _ _ ⟨rfl, rfl⟩) | (go_at_call 78; refine (length32_any _ _ _ _).mono ?_; rintro _ _ ⟨rfl, rfl⟩) | (go_at_call 148; refine (isFinite64_any _ _ _ (by assumption) (by first | assumption | rfl) _).mono ?_; rintro _ _ ⟨rfl, n, rfl⟩) | (go_at_call 99; refine (isFinite_any _ _ _ (by first | assumption | exact is_ofInt _ _ | exact is_self) (by first | assumption | rfl) _).mono ?_; rintro _ _ ⟨rfl, n, rfl⟩) | (go_at_call 97; refine (l01Finite_any _ _ _ (by first | assumption | exact is_ofInt _ _ | exact is_self) (by first | assumption | rfl) _).mono ?_; rintro _ _ ⟨rfl, n, rfl⟩))
  go_ret2
  exact givesO_none hn.out (by repeat (first | assumption | exact Ext.refl _ | apply Ext.drewN | apply Ext.alloc | (refine Ext.setCell ?_ (by first | assumption | exact Nat.le_refl _) _)))
set_option maxHeartbeats 1000000 in
theorem specPeel_no3 (ao : Option Addr) (cap : Nat) (xs : List Nat) (b s : Nat) (n : Int) (w : World) (hc : FR w ao xs) (hl : xs.length ≤ 1048576) (hb : Is .f32 b s) (_ : -9223372036854775808 ≤ n) (_ : n ≤ 9223372036854775807) (ht0 : inB (xs.length : Int) 1 128 = true) (ht1 : surfB s = true) (ht2 : inB n 1 24 = true) (ht3 : inB n 1 (xs.length : Int) = false) :
    Calls Try.prog 31 #[.slice ao xs.length cap, .float .f32 b, .int .i64 n] w (GivesO (peelO (cl xs) s n) w) := by
  have hn : Hid (peelO (cl xs) s n = none) := by unfold Hid peelO; rw [isTr_cl, ht0, ht1, ht2, cl_length, ht3]; rfl
  have hI2 := inB_yes ht2
  have hI3 := inB_no ht3
  have hgt : (xs.length : Int) < n := by omega
  go_enter Try.func31, Try.ntmps31
  go_wp2_with (first | (go_at_call 89; refine (l03Surface_any _ _ _ hb (by assumption) _).mono ?_; rintro _ _ ⟨rfl, rfl⟩) | (go_at_call 77; refine (within_any _ _ _ _ (by first | assumption | rfl) _).mono ?_; rintro _ _ ⟨rfl, rfl⟩) | (go_at_call 90; refine (l00In_any _ _ _ _ (by first | assumption | rfl) _).mono ?_; rintro _ _ ⟨rfl, rfl⟩) | (go_at_call 96; refine (isCount_any _ _ (by first | assumption | rfl) _).mono ?_; rintro _ _ ⟨rfl, rfl⟩) | (go_at_call 88; refine (isTrace_any _ _ _ _ (by first | assumption | rfl) _).mono ?_; rintro _ _ ⟨rfl, rfl⟩) | (go_at_call 85; refine (l03Is_any _ _ _ _ (by first | assumption | rfl) (by omega) _).mono ?_; rintro _ _ ⟨rfl, rfl⟩) | (go_at_call 78; refine (length32_any _ _ _ _).mono ?_; rintro _ _ ⟨rfl, rfl⟩) | (go_at_call 148; refine (isFinite64_any _ _ _ (by assumption) (by first | assumption | rfl) _).mono ?_; rintro _ _ ⟨rfl, n, rfl⟩) | (go_at_call 99; refine (isFinite_any _ _ _ (by first | assumption | exact is_ofInt _ _ | exact is_self) (by first | assumption | rfl) _).mono ?_; rintro _ _ ⟨rfl, n, rfl⟩) | (go_at_call 97; refine (l01Finite_any _ _ _ (by first | assumption | exact is_ofInt _ _ | exact is_self) (by first | assumption | rfl) _).mono ?_; rintro _ _ ⟨rfl, n, rfl⟩))
  go_ret2
  exact givesO_none hn.out (by repeat (first | assumption | exact Ext.refl _ | apply Ext.drewN | apply Ext.alloc | (refine Ext.setCell ?_ (by first | assumption | exact Nat.le_refl _) _)))
set_option maxHeartbeats 8000000 in
theorem specPeel_yes (ao : Option Addr) (cap : Nat) (xs : List Nat) (b s : Nat) (m : Nat) (w : World) (hc : FR w ao xs) (hl : xs.length ≤ 1048576) (hb : Is .f32 b s) (ht0 : inB (xs.length : Int) 1 128 = true) (ht1 : surfB s = true) (ht2 : inB (m : Int) 1 24 = true) (ht3 : inB (m : Int) 1 (xs.length : Int) = true) :
    Calls Try.prog 31 #[.slice ao xs.length cap, .float .f32 b, .int .i64 (m : Int)] w (GivesO (peelO (cl xs) s (m : Int)) w) := by
  obtain ⟨i0, hi0, hz0, hs0, hb0⟩ := info_parts info32
  have hI0 := inB_yes ht0
  have hI2 := inB_yes ht2
  have hI3 := inB_yes ht3
  have hngt : ¬ (xs.length : Int) < (m : Int) := by omega
  have HY := Lib.hid (fun h => peelO_yes (a := cl xs) (s := s) (m := m) (by rw [isTr_cl]; exact ht0) ht1 ht2 (by rw [cl_length]; exact ht3) h)
  obtain ⟨bb, off, rfl, _⟩ := hc 0 (by omega)
  go_enter Try.func31, Try.ntmps31
  go_wp2_with (first | (at_builtin; refine wl_appendS (ys := []) (xs := xs) w rfl Try.underlying22 hi0 hz0 hs0 hb0 rfl rfl rfl (ownF_empty _ _ (Ext.refl _)) ((Ext.refl _).alloc _) (hc.ext ((Ext.refl _).alloc _)) (show ([] : List Nat).length + xs.length ≤ 1073741824 from by rw [List.length_nil]; omega) ?_; intro v1 w1 hO1 hE1; (rw [List.nil_append] at hO1); (obtain ⟨a1, cu, rfl, hf1⟩ := OwnF.fr hO1)) | (go_at_call 89; refine (l03Surface_any _ _ _ hb (by assumption) _).mono ?_; rintro _ _ ⟨rfl, rfl⟩) | (go_at_call 77; refine (within_any _ _ _ _ (by first | assumption | rfl) _).mono ?_; rintro _ _ ⟨rfl, rfl⟩) | (go_at_call 90; refine (l00In_any _ _ _ _ (by first | assumption | rfl) _).mono ?_; rintro _ _ ⟨rfl, rfl⟩) | (go_at_call 96; refine (isCount_any _ _ (by first | assumption | rfl) _).mono ?_; rintro _ _ ⟨rfl, rfl⟩) | (go_at_call 88; refine (isTrace_any _ _ _ _ (by first | assumption | rfl) _).mono ?_; rintro _ _ ⟨rfl, rfl⟩) | (go_at_call 85; refine (l03Is_any _ _ _ _ (by first | assumption | rfl) (by omega) _).mono ?_; rintro _ _ ⟨rfl, rfl⟩) | (go_at_call 78; refine (length32_any _ _ _ _).mono ?_; rintro _ _ ⟨rfl, rfl⟩) | (go_at_call 148; refine (isFinite64_any _ _ _ (by assumption) (by first | assumption | rfl) _).mono ?_; rintro _ _ ⟨rfl, n, rfl⟩) | (go_at_call 99; refine (isFinite_any _ _ _ (by first | assumption | exact is_ofInt _ _ | exact is_self) (by first | assumption | rfl) _).mono ?_; rintro _ _ ⟨rfl, n, rfl⟩) | (go_at_call 97; refine (l01Finite_any _ _ _ (by first | assumption | exact is_ofInt _ _ | exact is_self) (by first | assumption | rfl) _).mono ?_; rintro _ _ ⟨rfl, n, rfl⟩))
  clear ht0 ht1 ht2 ht3
  obtain ⟨gu, rfl, hgu1, hgu2, _⟩ := OwnF.at hO1 (k := 0) (by omega)
  have hcapu := OwnF.capN hO1
  go_loopw [9, 10] (fun v i wr => ∃ (k : Nat) (ds : List Nat), k + 1 ≤ xs.length ∧ i = .int .i64 k ∧ OwnF wr w.heap.size v ds ∧ Hid (cl ds = tabP (peel0 s (cl xs)) (k + 1)) ∧ OwnF wr w.heap.size (.slice (some ⟨gu, 0, none⟩) xs.length cu) xs ∧ v.ownBlock ≠ some gu ∧ gu < wr.heap.size ∧ Ext w wr) (fun _ i _ => xs.length - (intOf i).toNat)
  case atStart =>
    refine ⟨0, [1065353216], by omega, rfl, ownF_one _ _ hE1 _, ?_, hO1.alloc _, fun e => by have h1 := ownB e; omega, by rw [size_alloc]; omega, hE1.alloc _⟩
    unfold Hid
    show [canon .f32 1065353216] = [canon .f32 1065353216]
    rfl
  case round =>
    clear hO1 hE1
    obtain ⟨k, ds, hk, rfl, hD, hdc, hU, hne, hgs, hE⟩ := hrel
    have hdl : ds.length = k + 1 := by rw [← cl_length ds, hdc.out, tabP_len]
    have hdl2 := Nat.le_of_eq hdl
    have HDL := Lib.hid hdl
    clear hdl
    by_cases hlt : k + 1 < xs.length
    · have e1 : (k : Int) < (xs.length : Int) - 1 := by omega
      have e2 : (k : Int) < (xs.length : Int) := by omega
      have hlt' : k < xs.length := by omega
      have hcx := FR.cellW hc hlt' wr hE
      have hA := is_el hlt'
      go_wp2_with (first | (refine wl_bin rfl rfl rfl rfl rfl hb hA ?_; intro r n1 hr) | (refine wl_neg rfl rfl rfl hr ?_; intro r2 hr2) | (at_builtin; refine wl_append1K w rfl Try.underlying22 hi0 hz0 hs0 hb0 rfl rfl rfl (by exact (hD.drewN _).alloc _) (by exact (hE.drewN _).alloc _) (by omega) (by first | exact cell_new _ _ _ | exact cell_newD _ _ _ _) ?_; intro v2 w2 hO2 hE2 hC2 hb2))
      go_roundw
      case rel => exact ⟨k + 1, _, by omega, by go_num, hO2, app_step hdc.out hr2, (by exact ((hU.drewN _).alloc _).chg hC2 (fun q hq e => by have h1 := ownB hq; subst h1; exact hne e)), (fun e => by
        rcases hb2 with h | h
        · rw [h] at e; exact hne e
        · rw [h] at e; have h1 := Option.some.inj e; rw [size_alloc] at h1; have h2 : (wr.drewN n1).heap.size = wr.heap.size := rfl; omega), Nat.lt_of_lt_of_le hgs (Nat.le_trans (by rw [size_alloc]; exact Nat.le_succ _) hC2.size), hE2⟩
      case measure => simp [intOf]; omega
    · have hkN : k + 1 = xs.length := by omega
      obtain ⟨ad, cd, rfl, _⟩ := hD.fr
      obtain ⟨gd, rfl, hgd1, hgd2, _⟩ := OwnF.at hD (k := 0) (by rw [HDL.out]; omega)
      have hD' := hD
      rw [HDL.out, hkN] at hD'
      clear hD
      have hcapd := OwnF.capN hD'
      have hgne : gd ≠ gu := fun e => hne (by rw [e]; rfl)
      have hdsl : ds.length = xs.length := by rw [HDL.out, hkN]
      rw [hdsl]
      have HD0 : Hid (cl ds = (peelS s (cl xs) 0).2) := by unfold Hid; rw [hdc.out, hkN]; show _ = tabP (peel0 s (cl xs)) (cl xs).length; rw [cl_length]
      have e1 : ¬ (k : Int) < (xs.length : Int) - 1 := by omega
      clear hdsl HDL hdl2 hdc
      go_wp2_with fail
      go_loopw [2, 8, 9, 11] (fun qv uv dv ov wr => ∃ (t q cq : Nat) (us dl ys : List Nat) (oq : Value), t ≤ m ∧ qv = .int .i64 ((m : Int) - t) ∧ t + q = xs.length ∧ t + cq = cu ∧ oq = ov ∧ (t < m → uv = .slice (some ⟨gu, t, none⟩) q cq) ∧ (t < m → dv = .slice (some ⟨gd, 0, none⟩) q cd) ∧ OwnF wr w.heap.size (.slice (some ⟨gu, 0, none⟩) xs.length cu) us ∧ OwnF wr w.heap.size (.slice (some ⟨gd, 0, none⟩) xs.length cd) dl ∧ OwnF wr w.heap.size oq ys ∧ Hid (cl us = (peelS s (cl xs) t).1) ∧ Hid (cl dl = (peelS s (cl xs) t).2) ∧ Hid (cl ys = tabP (peelG s (cl xs)) t) ∧ Hid (peelB s (cl xs) t = true) ∧ oq.ownBlock ≠ some gu ∧ oq.ownBlock ≠ some gd ∧ Ext w wr) (fun qv _ _ _ _ => (intOf qv).toNat)
      case atStart =>
        refine ⟨0, xs.length, cu, xs, ds, [], _, Nat.zero_le _, by simp, by omega, by omega, rfl, fun _ => rfl, fun _ => rfl, hU.alloc _, hD'.alloc _, ownF_empty _ _ hE, rfl, HD0, rfl, rfl, fun e => by have h1 := ownB e; omega, fun e => by have h1 := ownB e; omega, hE.alloc _⟩
      case round =>
        clear hU hD' HD0 hne hgs hE e1
        obtain ⟨t, q, cq, us, dl, ys, ov, ht, rfl, htq, htc, rfl, huv, hdv, hU, hD, hO, huu, hdd, hyy, hpb, hou, hod, hE⟩ := hrel
        have husl : Hid (us.length = xs.length) := by unfold Hid; rw [← cl_length us, huu.out, peel_len1, cl_length]
        have hdsl : Hid (dl.length = xs.length) := by unfold Hid; rw [← cl_length dl, hdd.out, peel_len2, cl_length]
        have hyl : ys.length ≤ 24 := by rw [← cl_length, hyy.out, tabP_len]; omega
        by_cases hlt : t < m
        · obtain rfl := huv hlt
          obtain rfl := hdv hlt
          clear huv hdv
          have hq1 : 1 ≤ q := by omega
          obtain ⟨hcu, _⟩ := OwnF.at' hU (k := t) (by rw [husl.out]; omega)
          obtain ⟨hcd, _⟩ := OwnF.at' hD (k := 0) (by rw [hdsl.out]; omega)
          have iU : Is .f32 (el us t) (el (cl us) t) := is_el (by rw [husl.out]; omega)
          have iD : Is .f32 (el dl 0) (el (cl dl) 0) := is_el (by rw [hdsl.out]; omega)
          have e1 : (0 : Int) < (m : Int) - (t : Int) := by omega
          have e2 : 0 < q := by omega
          have e3 : (0 : Int) < (q : Int) := by omega
          go_wp2_with fail
          refine wp_region_mix (fun _ => Drawn wr) (fun _ => false) (fun _ _ => True) (by kernel_rfl) (by kernel_rfl) (by kernel_rfl) (fun _ => drawn_more _) (fun _ => drawn_self _) (fun n0 => ?_)
          repeat (first
          | (refine lx_nil ?_; intro nq)
          | (refine lx_skip rfl ?_; go_simp)
          | (refine lx_move rfl rfl rfl rfl ?_; go_simp)
          | (refine lx_assign rfl rfl rfl rfl ?_; go_simp)
          | (refine lx_bin rfl rfl rfl rfl rfl rfl (by first | assumption | exact is_ofInt _ _ | exact is_self) (by first | assumption | exact is_ofInt _ _ | exact is_self) ?_; intro r hr; go_simp)
          | (refine lx_cmp rfl rfl rfl rfl rfl rfl (by first | assumption | exact is_ofInt _ _ | exact is_self) (by first | assumption | exact is_ofInt _ _ | exact is_self) (by first | assumption | rfl) ?_; go_simp)
          | (refine lx_widen rfl rfl rfl rfl (by first | exact rfl | kernel_rfl) (by kernel_rfl) (by first | assumption | exact is_ofInt _ _ | exact is_self) ?_; intro r hr; go_simp)
          | (refine lx_valD rfl rfl (fun nn => by go_simp; rfl) ?_; go_simp))
          have hR : Is .f32 r (peelG s (cl xs) t) := by unfold peelG peelR; rw [← huu.out, ← hdd.out]; exact hr
          have hR2 : Is .f32 r (peelR (cl us, cl dl) t) := hr
          clear hr e2 e3 hcu hcd iU iD
          cases hcf : coefB (peelG s (cl xs) t) with
          | false =>
            have hn : Hid (peelO (cl xs) s (m : Int) = none) := by unfold Hid; exact peelO_no hcf hlt
            go_wp2_with (go_at_call 91; refine (l03Coef_any _ _ _ hR hcf _).mono ?_; rintro _ _ ⟨rfl, rfl⟩)
            go_ret2
            exact givesO_none hn.out (by repeat (first | assumption | exact Ext.refl _ | apply Ext.drewN | apply Ext.alloc | (refine Ext.setCell ?_ (by first | assumption | exact Nat.le_refl _) _)))
          | true =>
            have HPB : Hid (peelB s (cl xs) (t + 1) = true) := by unfold Hid; show (peelB s (cl xs) t && coefB (peelG s (cl xs) t)) = true; rw [hpb.out, hcf]; rfl
            go_wp2_with (first | (go_at_call 91; refine (l03Coef_any _ _ _ hR hcf _).mono ?_; rintro _ _ ⟨rfl, rfl⟩) | (at_builtin; refine wl_append1K w rfl Try.underlying22 hi0 hz0 hs0 hb0 rfl rfl rfl (by exact (hO.drewN _).alloc _) (by exact (hE.drewN _).alloc _) (by omega) (by first | exact cell_new _ _ _ | exact cell_newD _ _ _ _) ?_; intro v5 w5 hO5 hE5 hC5 hb5))
            have hy5 := app_step hyy.out hR
            have hU5 := Lib.hid (show OwnF w5 w.heap.size (.slice (some ⟨gu, 0, none⟩) xs.length cu) us from OwnF.chg (OwnF.alloc (OwnF.drewN hU _) _) hC5 (fun q hq e => by have h1 := ownB hq; subst h1; exact hou e))
            have hD5 := Lib.hid (show OwnF w5 w.heap.size (.slice (some ⟨gd, 0, none⟩) xs.length cd) dl from OwnF.chg (OwnF.alloc (OwnF.drewN hD _) _) hC5 (fun q hq e => by have h1 := ownB hq; subst h1; exact hod e))
            have hUb := (hU5.out.lt gu rfl)
            have hDb := (hD5.out.lt gd rfl)
            have hgu0 := (hU.lt gu rfl).2
            have hgd0 := (hD.lt gd rfl).2
            have hn5 : ∀ g, g < wr.heap.size → ov.ownBlock ≠ some g → v5.ownBlock ≠ some g := fun g hg hne e => by
              rcases hb5 with h | h
              · rw [h] at e; exact hne e
              · rw [h] at e; have h1 := Option.some.inj e; rw [size_alloc] at h1; have h2 : wr.heap.size ≤ g := (by rw [← h1]; exact Nat.le_succ_of_le (Nat.le_of_eq rfl)); omega
            have hvu := hn5 gu hgu0 hou
            have hvd := hn5 gd hgd0 hod
            have HU0 := Lib.hid (upP_start (cl us, cl dl) t xs.length (by show (cl us).length = _; rw [cl_length, husl.out])).out
            have HD0 := Lib.hid (dnP_start (cl us, cl dl) t xs.length (by show (cl dl).length = _; rw [cl_length, hdsl.out])).out
            clear hU hD hO hE hC5 hb5 hn5 hcf hpb hyy
            go_loopw [75] (fun i wr => ∃ (k : Nat) (ul dk : List Nat), k ≤ q ∧ i = .int .i64 k ∧ OwnF wr w.heap.size (.slice (some ⟨gu, 0, none⟩) xs.length cu) ul ∧ Hid (ul.length = xs.length) ∧ Hid (cl ul = tabP (upP (cl us, cl dl) t k) xs.length) ∧ OwnF wr w.heap.size (.slice (some ⟨gd, 0, none⟩) xs.length cd) dk ∧ Hid (dk.length = xs.length) ∧ Hid (cl dk = tabP (dnP (cl us, cl dl) t k) xs.length) ∧ Chg (fun q => q = gu ∨ q = gd) w5 wr) (fun i _ => q - (intOf i).toNat)
            case atStart => exact ⟨0, us, dl, Nat.zero_le _, rfl, hU5.out, husl, HU0.out, hD5.out, hdsl, HD0.out, Chg.refl _ _⟩
            case round =>
              obtain ⟨k, ul, dk, hk, rfl, hUk, hull, hulc, hDk, hdkl, hdkc, hC⟩ := hrel
              by_cases hlk : k < q
              · obtain ⟨hcu, hfu⟩ := OwnF.at' hUk (k := t + k) (by rw [hull.out]; omega)
                obtain ⟨hcd, _⟩ := OwnF.at' hDk (k := k) (by rw [hdkl.out]; omega)
                have iU : Is .f32 (el ul (t + k)) (el (cl us) (t + k)) := by
                  have h1 := is_el (xs := ul) (i := t + k) (by rw [hull.out]; omega)
                  rw [hulc.out, el_tabP _ _ _ (by omega)] at h1
                  unfold upP at h1
                  rw [if_neg (by omega)] at h1
                  exact h1
                have iD : Is .f32 (el dk k) (el (cl dl) k) := by
                  have h1 := is_el (xs := dk) (i := k) (by rw [hdkl.out]; omega)
                  rw [hdkc.out, el_tabP _ _ _ (by omega)] at h1
                  unfold dnP at h1
                  rw [if_neg (by omega)] at h1
                  exact h1
                go_wp2
                have e5 : (k : Int) < (q : Int) := by omega
                refine wp_region_mix (ownU [5, 10] (Drawn wr) (fun _ => True)) (fun i => i == 17) (fun _ _ => True) (by kernel_rfl) (by kernel_rfl) (by kernel_rfl) (ownU_drew (drawn_more _) (fun _ _ _ => trivial)) (ownU_all (drawn_self _) trivial) (fun n0 => ?_)
                repeat (first
          | (refine lx_nil ?_; intro nq)
          | (refine lx_skip rfl ?_; go_simp)
          | (refine lx_move rfl rfl rfl rfl ?_; go_simp)
          | (refine lx_assign rfl rfl rfl rfl ?_; go_simp)
          | (refine lx_bin rfl rfl rfl rfl rfl rfl (by first | assumption | exact is_ofInt _ _ | exact is_self) (by first | assumption | exact is_ofInt _ _ | exact is_self) ?_; intro r hr; go_simp)
          | (refine lx_val rfl rfl (fun w' _ => by go_simp; rfl) ?_; go_simp)
          | (refine lx_val rfl rfl (fun w' hw' => by (obtain ⟨mm, rfl⟩ : Drawn wr w' := hw'); go_simp; rfl) ?_; go_simp))
                refine lx_effS rfl rfl (fun n => by go_simp; rfl) (fun n => ownU_aft (by kernel_rfl) trivial) (fun n1 => ?_)
                have HR1 : Hid (Is .f32 r (peelU (cl us, cl dl) t (t + k))) := by unfold Hid; rw [peelU_at]; exact hr
                clear hr
                go_simp
                refine lx_nilG (fun w' => OwnF w' w.heap.size (.slice (some ⟨gu, 0, none⟩) xs.length cu) (ul.set (t + k) r) ∧ Chg (fun q => q = gu) wr w') (fun n => ⟨(hUk.stored (t + k) r).1, chg_setCellD wr gu (t + k) _ _ n⟩) ?_
                rintro w6 ⟨hU6, hC6⟩
                have hD6 := hDk.chg hC6 (fun q hq e => by have h1 := ownB hq; have h2 : q = gu := e; omega)
                obtain ⟨hcd6, hfd6⟩ := OwnF.at' hD6 (k := k) (by rw [hdkl.out]; omega)
                obtain ⟨hcu6, _⟩ := OwnF.at' hU6 (k := t + k) (by rw [List.length_set, hull.out]; omega)
                rw [el_set _ _ _ _ (by rw [hull.out]; omega), if_pos rfl] at hcu6
                have iU6 := HR1.out
                clear hcu hfu hcd iU
                go_wp2
                refine wp_region_mix (ownU [7, 13] (Drawn w6) (fun _ => True)) (fun i => i == 17) (fun _ _ => True) (by kernel_rfl) (by kernel_rfl) (by kernel_rfl) (ownU_drew (drawn_more _) (fun _ _ _ => trivial)) (ownU_all (drawn_self _) trivial) (fun n0 => ?_)
                repeat (first
          | (refine lx_nil ?_; intro nq)
          | (refine lx_skip rfl ?_; go_simp)
          | (refine lx_move rfl rfl rfl rfl ?_; go_simp)
          | (refine lx_assign rfl rfl rfl rfl ?_; go_simp)
          | (refine lx_bin rfl rfl rfl rfl rfl rfl (by first | assumption | exact is_ofInt _ _ | exact is_self) (by first | assumption | exact is_ofInt _ _ | exact is_self) ?_; intro r hr; go_simp)
          | (refine lx_val rfl rfl (fun w' _ => by go_simp; rfl) ?_; go_simp)
          | (refine lx_val rfl rfl (fun w' hw' => by (obtain ⟨mm, rfl⟩ : Drawn w6 w' := hw'); go_simp; rfl) ?_; go_simp))
                refine lx_effS rfl rfl (fun n => by go_simp; rfl) (fun n => ownU_aft (by kernel_rfl) trivial) (fun n1 => ?_)
                have HR2 : Hid (Is .f32 r (peelD (cl us, cl dl) t k)) := by unfold Hid; exact hr
                clear hr
                go_simp
                refine lx_nilG (fun w' => OwnF w' w.heap.size (.slice (some ⟨gd, 0, none⟩) xs.length cd) (dk.set k r) ∧ Chg (fun q => q = gd) w6 w') (fun n => ⟨(hD6.stored k r).1, chg_setCellD w6 gd k _ _ n⟩) ?_
                rintro w7 ⟨hD7, hC7⟩
                have hU7 := hU6.chg hC7 (fun q hq e => by have h1 := ownB hq; have h2 : q = gd := e; omega)
                have hC' : Chg (fun q => q = gu ∨ q = gd) w5 w7 := (hC.trans (hC6.mono fun q => .inl)).trans (hC7.mono fun q => .inr)
                clear e5
                go_wp2
                go_roundw
                case rel => exact ⟨k + 1, _, _, by omega, by go_num, hU7, by unfold Hid; rw [List.length_set]; exact hull.out, upP_step hulc.out (by omega) HR1.out, hD7, by unfold Hid; rw [List.length_set]; exact hdkl.out, dnP_step hdkc.out (by omega) HR2.out, hC'⟩
                case measure => simp [intOf]; omega
              · obtain rfl : k = q := by omega
                have HU1 := upP_end huu.out hdd.out (by rw [cl_length]) htq hulc.out
                have HD1 := dnP_end huu.out hdd.out (by rw [cl_length]) htq hdkc.out
                have hE7 := Chg.ext hE5 hC (fun q hq => by rcases hq with rfl | rfl <;> omega)
                have hO7 := hO5.chg hC (fun q hq e => by rcases e with rfl | rfl <;> first | exact hvu hq | exact hvd hq)
                have e6 : ¬ (k : Int) < (k : Int) := by omega
                go_wp2
                go_roundw
                case rel => exact ⟨t + 1, k - 1, cq - 1, _, _, _, _, by omega, by go_num, by omega, by omega, rfl, (fun h => by rw [if_neg (by omega)]), (fun h => rfl), hUk, hDk, hO7, HU1, HD1, hy5, HPB, hvu, hvd, hE7⟩
                case measure => simp [intOf]; omega
        · obtain rfl : t = m := by omega
          have e1 : ¬ (0 : Int) < (t : Int) - (t : Int) := by omega
          go_wp2
          go_ret2
          exact givesO_some (HY.out hpb.out) hE hO hyy.out
theorem specPeel_any (ao : Option Addr) (cap : Nat) (xs : List Nat) (b s : Nat) (n : Int) (w : World) (hc : FR w ao xs) (hl : xs.length ≤ 1048576) (hb : Is .f32 b s) (h1 : -9223372036854775808 ≤ n) (h2 : n ≤ 9223372036854775807) :
    Calls Try.prog 31 #[.slice ao xs.length cap, .float .f32 b, .int .i64 n] w (GivesO (peelO (cl xs) s n) w) := by
  cases ht0 : inB (xs.length : Int) 1 128 with
  | false => exact specPeel_no0 _ _ _ _ _ _ _ hc hl hb h1 h2 ht0
  | true =>
  cases ht1 : surfB s with
  | false => exact specPeel_no1 _ _ _ _ _ _ _ hc hl hb h1 h2 ht0 ht1
  | true =>
  cases ht2 : inB n 1 24 with
  | false => exact specPeel_no2 _ _ _ _ _ _ _ hc hl hb h1 h2 ht0 ht1 ht2
  | true =>
  cases ht3 : inB n 1 (xs.length : Int) with
  | false => exact specPeel_no3 _ _ _ _ _ _ _ hc hl hb h1 h2 ht0 ht1 ht2 ht3
  | true =>
    obtain ⟨m, rfl⟩ := Int.eq_ofNat_of_zero_le (show 0 ≤ n by have := inB_yes ht2; omega)
    exact specPeel_yes _ _ _ _ _ _ _ hc hl hb ht0 ht1 ht2 ht3
end Go.Proofs.Ytnjgcacnfobmiaa
