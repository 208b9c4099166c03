/- PeelTrace: the program's. -/
import Derived.Test.YtnjgcacnfobmiaaFPeelS
import Derived.Test.YtnjgcacnfobmiaaFEcho
import Derived.Deep.Cut
import Derived.Deep.CutRange
import Derived.Deep.RegionHeld3
namespace Go.Proofs.Ytnjgcacnfobmiaa
open Go.RowKit
set_option maxRecDepth 100000
set_option linter.unusedVariables false

theorem inB_min {n a b : Int} : inB n 1 (min a b) = (inB n 1 a && inB n 1 b) := by
  unfold inB
  by_cases h1 : (1 : Int) ≤ n <;> by_cases h2 : n ≤ a <;> by_cases h3 : n ≤ b <;> simp [h1, h2, h3] <;> omega
theorem peelO_no2 {a : List Nat} {s : Nat} {n : Int} (h : inB n 1 (min 24 (a.length : Int)) = false) : peelO a s n = none := by
  rw [inB_min] at h
  unfold peelO
  cases h1 : inB n 1 24 with
  | false => cases isTr a <;> cases surfB s <;> rfl
  | true =>
    rw [h1] at h
    replace h : inB n 1 (a.length : Int) = false := h
    rw [h]
    cases isTr a <;> cases surfB s <;> rfl
set_option maxHeartbeats 1000000 in
theorem implPeel_no0 (ao : Option Addr) (cap : Nat) (xs : List Nat) (b s : Nat) (n : Int) (w : World) (hc : FR w ao xs) (hl : xs.length ≤ 1048576) (hb : Is .f32 b s) (hcap : xs.length ≤ cap) (_ : -9223372036854775808 ≤ n) (_ : n ≤ 9223372036854775807) (ht0 : inB (xs.length : Int) 1 128 = false) :
    Calls Try.prog 32 #[.slice ao xs.length cap, .float .f32 b, .int .i64 n] w (GivesO (peelO (cl xs) s n) w) := by
  have hn : Hid (peelO (cl xs) s n = none) := by unfold Hid peelO; rw [isTr_cl, ht0]; rfl
  go_enter Try.func32, Try.ntmps32
  go_wp2_with (first | (go_at_call 92; refine (isSurface_any _ _ _ hb (by assumption) _).mono ?_; rintro _ _ ⟨rfl, rfl⟩) | (go_at_call 77; refine (within_any _ _ _ _ (by first | assumption | rfl) _).mono ?_; rintro _ _ ⟨rfl, rfl⟩) | (go_at_call 90; refine (l00In_any _ _ _ _ (by first | assumption | rfl) _).mono ?_; rintro _ _ ⟨rfl, rfl⟩) | (go_at_call 96; refine (isCount_any _ _ (by first | assumption | rfl) _).mono ?_; rintro _ _ ⟨rfl, rfl⟩) | (go_at_call 88; refine (isTrace_any _ _ _ _ (by first | assumption | rfl) _).mono ?_; rintro _ _ ⟨rfl, rfl⟩) | (go_at_call 85; refine (l03Is_any _ _ _ _ (by first | assumption | rfl) (by omega) _).mono ?_; rintro _ _ ⟨rfl, rfl⟩) | (go_at_call 78; refine (length32_any _ _ _ _).mono ?_; rintro _ _ ⟨rfl, rfl⟩) | (go_at_call 148; refine (isFinite64_any _ _ _ (by assumption) (by first | assumption | rfl) _).mono ?_; rintro _ _ ⟨rfl, n, rfl⟩) | (go_at_call 99; refine (isFinite_any _ _ _ (by first | assumption | exact is_ofInt _ _ | exact is_self) (by first | assumption | rfl) _).mono ?_; rintro _ _ ⟨rfl, n, rfl⟩) | (go_at_call 97; refine (l01Finite_any _ _ _ (by first | assumption | exact is_ofInt _ _ | exact is_self) (by first | assumption | rfl) _).mono ?_; rintro _ _ ⟨rfl, n, rfl⟩))
  go_ret2
  exact givesO_none hn.out (by repeat (first | assumption | exact Ext.refl _ | apply Ext.drewN | apply Ext.alloc | (refine Ext.setCell ?_ (by first | assumption | exact Nat.le_refl _) _)))
set_option maxHeartbeats 1000000 in
theorem implPeel_no1 (ao : Option Addr) (cap : Nat) (xs : List Nat) (b s : Nat) (n : Int) (w : World) (hc : FR w ao xs) (hl : xs.length ≤ 1048576) (hb : Is .f32 b s) (hcap : xs.length ≤ cap) (_ : -9223372036854775808 ≤ n) (_ : n ≤ 9223372036854775807) (ht0 : inB (xs.length : Int) 1 128 = true) (ht1 : surfB s = false) :
    Calls Try.prog 32 #[.slice ao xs.length cap, .float .f32 b, .int .i64 n] w (GivesO (peelO (cl xs) s n) w) := by
  have hn : Hid (peelO (cl xs) s n = none) := by unfold Hid peelO; rw [isTr_cl, ht0, ht1]; rfl
  go_enter Try.func32, Try.ntmps32
  go_wp2_with (first | (go_at_call 92; refine (isSurface_any _ _ _ hb (by assumption) _).mono ?_; rintro _ _ ⟨rfl, rfl⟩) | (go_at_call 77; refine (within_any _ _ _ _ (by first | assumption | rfl) _).mono ?_; rintro _ _ ⟨rfl, rfl⟩) | (go_at_call 90; refine (l00In_any _ _ _ _ (by first | assumption | rfl) _).mono ?_; rintro _ _ ⟨rfl, rfl⟩) | (go_at_call 96; refine (isCount_any _ _ (by first | assumption | rfl) _).mono ?_; rintro _ _ ⟨rfl, rfl⟩) | (go_at_call 88; refine (isTrace_any _ _ _ _ (by first | assumption | rfl) _).mono ?_; rintro _ _ ⟨rfl, rfl⟩) | (go_at_call 85; refine (l03Is_any _ _ _ _ (by first | assumption | rfl) (by omega) _).mono ?_; rintro _ _ ⟨rfl, rfl⟩) | (go_at_call 78; refine (length32_any _ _ _ _).mono ?_; rintro _ _ ⟨rfl, rfl⟩) | (go_at_call 148; refine (isFinite64_any _ _ _ (by assumption) (by first | assumption | rfl) _).mono ?_; rintro _ _ ⟨rfl, n, rfl⟩) | (go_at_call 99; refine (isFinite_any _ _ _ (by first | assumption | exact is_ofInt _ _ | exact is_self) (by first | assumption | rfl) _).mono ?_; rintro _ _ ⟨rfl, n, rfl⟩) | (go_at_call 97; refine (l01Finite_any _ _ _ (by first | assumption | exact is_ofInt _ _ | exact is_self) (by first | assumption | rfl) _).mono ?_; rintro _ _ ⟨rfl, n, rfl⟩))
  go_ret2
  exact givesO_none hn.out (by repeat (first | assumption | exact Ext.refl _ | apply Ext.drewN | apply Ext.alloc | (refine Ext.setCell ?_ (by first | assumption | exact Nat.le_refl _) _)))
set_option maxHeartbeats 1000000 in
theorem implPeel_no2 (ao : Option Addr) (cap : Nat) (xs : List Nat) (b s : Nat) (n : Int) (w : World) (hc : FR w ao xs) (hl : xs.length ≤ 1048576) (hb : Is .f32 b s) (hcap : xs.length ≤ cap) (_ : -9223372036854775808 ≤ n) (_ : n ≤ 9223372036854775807) (ht0 : inB (xs.length : Int) 1 128 = true) (ht1 : surfB s = true) (ht2 : inB n 1 (min 24 (xs.length : Int)) = false) :
    Calls Try.prog 32 #[.slice ao xs.length cap, .float .f32 b, .int .i64 n] w (GivesO (peelO (cl xs) s n) w) := by
  have hn : Hid (peelO (cl xs) s n = none) := by unfold Hid; exact peelO_no2 (by rw [cl_length]; exact ht2)
  by_cases h24 : (xs.length : Int) < 24
  · rw [show min (24 : Int) (xs.length : Int) = (xs.length : Int) by omega] at ht2
    go_enter Try.func32, Try.ntmps32
    go_wp2_with (first | (go_at_call 92; refine (isSurface_any _ _ _ hb (by assumption) _).mono ?_; rintro _ _ ⟨rfl, rfl⟩) | (go_at_call 77; refine (within_any _ _ _ _ (by first | assumption | rfl) _).mono ?_; rintro _ _ ⟨rfl, rfl⟩) | (go_at_call 90; refine (l00In_any _ _ _ _ (by first | assumption | rfl) _).mono ?_; rintro _ _ ⟨rfl, rfl⟩) | (go_at_call 96; refine (isCount_any _ _ (by first | assumption | rfl) _).mono ?_; rintro _ _ ⟨rfl, rfl⟩) | (go_at_call 88; refine (isTrace_any _ _ _ _ (by first | assumption | rfl) _).mono ?_; rintro _ _ ⟨rfl, rfl⟩) | (go_at_call 85; refine (l03Is_any _ _ _ _ (by first | assumption | rfl) (by omega) _).mono ?_; rintro _ _ ⟨rfl, rfl⟩) | (go_at_call 78; refine (length32_any _ _ _ _).mono ?_; rintro _ _ ⟨rfl, rfl⟩) | (go_at_call 148; refine (isFinite64_any _ _ _ (by assumption) (by first | assumption | rfl) _).mono ?_; rintro _ _ ⟨rfl, n, rfl⟩) | (go_at_call 99; refine (isFinite_any _ _ _ (by first | assumption | exact is_ofInt _ _ | exact is_self) (by first | assumption | rfl) _).mono ?_; rintro _ _ ⟨rfl, n, rfl⟩) | (go_at_call 97; refine (l01Finite_any _ _ _ (by first | assumption | exact is_ofInt _ _ | exact is_self) (by first | assumption | rfl) _).mono ?_; rintro _ _ ⟨rfl, n, rfl⟩))
    go_ret2
    exact givesO_none hn.out (by repeat (first | assumption | exact Ext.refl _ | apply Ext.drewN | apply Ext.alloc | (refine Ext.setCell ?_ (by first | assumption | exact Nat.le_refl _) _)))
  · rw [show min (24 : Int) (xs.length : Int) = 24 by omega] at ht2
    go_enter Try.func32, Try.ntmps32
    go_wp2_with (first | (go_at_call 92; refine (isSurface_any _ _ _ hb (by assumption) _).mono ?_; rintro _ _ ⟨rfl, rfl⟩) | (go_at_call 77; refine (within_any _ _ _ _ (by first | assumption | rfl) _).mono ?_; rintro _ _ ⟨rfl, rfl⟩) | (go_at_call 90; refine (l00In_any _ _ _ _ (by first | assumption | rfl) _).mono ?_; rintro _ _ ⟨rfl, rfl⟩) | (go_at_call 96; refine (isCount_any _ _ (by first | assumption | rfl) _).mono ?_; rintro _ _ ⟨rfl, rfl⟩) | (go_at_call 88; refine (isTrace_any _ _ _ _ (by first | assumption | rfl) _).mono ?_; rintro _ _ ⟨rfl, rfl⟩) | (go_at_call 85; refine (l03Is_any _ _ _ _ (by first | assumption | rfl) (by omega) _).mono ?_; rintro _ _ ⟨rfl, rfl⟩) | (go_at_call 78; refine (length32_any _ _ _ _).mono ?_; rintro _ _ ⟨rfl, rfl⟩) | (go_at_call 148; refine (isFinite64_any _ _ _ (by assumption) (by first | assumption | rfl) _).mono ?_; rintro _ _ ⟨rfl, n, rfl⟩) | (go_at_call 99; refine (isFinite_any _ _ _ (by first | assumption | exact is_ofInt _ _ | exact is_self) (by first | assumption | rfl) _).mono ?_; rintro _ _ ⟨rfl, n, rfl⟩) | (go_at_call 97; refine (l01Finite_any _ _ _ (by first | assumption | exact is_ofInt _ _ | exact is_self) (by first | assumption | rfl) _).mono ?_; rintro _ _ ⟨rfl, n, rfl⟩))
    go_ret2
    exact givesO_none hn.out (by repeat (first | assumption | exact Ext.refl _ | apply Ext.drewN | apply Ext.alloc | (refine Ext.setCell ?_ (by first | assumption | exact Nat.le_refl _) _)))
theorem two_a {w w1 : World} {v : Value} {xs : List Nat} (h1 : 1 ≤ xs.length) (hN : xs.length ≤ 1000000) (hE1 : Ext w w1) (hO1 : OwnF w1 w.heap.size v xs) :
    ∃ gu cu gd, v = .slice (some ⟨gu, 0, none⟩) xs.length cu ∧ w1.heap.size = gd ∧ OwnF (w1.alloc (.cells (madeCells #[.float .f32 0] xs.length) 34)) w.heap.size (.slice (some ⟨gu, 0, none⟩) xs.length cu) xs ∧ OwnF (w1.alloc (.cells (madeCells #[.float .f32 0] xs.length) 34)) w.heap.size (.slice (some ⟨gd, 0, none⟩) xs.length xs.length) (List.replicate xs.length 0) ∧ gu ≠ gd ∧ Ext w (w1.alloc (.cells (madeCells #[.float .f32 0] xs.length) 34)) := by
  obtain ⟨a1, cu, rfl, hf1⟩ := OwnF.fr hO1
  obtain ⟨gu, rfl, h2, h3, _⟩ := OwnF.at hO1 (k := 0) (by omega)
  exact ⟨gu, cu, _, rfl, rfl, hO1.alloc _, ownF_made w1 w.heap.size xs.length hE1.size hN, by omega, hE1.alloc _⟩
theorem two_b {w w1 : World} {v : Value} {xs : List Nat} (h1 : 1 ≤ xs.length) (hN : xs.length ≤ 1000000) (hE1 : Ext (w.alloc (.cells (madeCells #[.float .f32 0] xs.length) 34)) w1) (hO1 : OwnF w1 (w.alloc (.cells (madeCells #[.float .f32 0] xs.length) 34)).heap.size v xs) :
    ∃ gu cu gd, v = .slice (some ⟨gu, 0, none⟩) xs.length cu ∧ w.heap.size = gd ∧ OwnF w1 w.heap.size (.slice (some ⟨gu, 0, none⟩) xs.length cu) xs ∧ OwnF w1 w.heap.size (.slice (some ⟨gd, 0, none⟩) xs.length xs.length) (List.replicate xs.length 0) ∧ gu ≠ gd ∧ Ext w w1 := by
  obtain ⟨a1, cu, rfl, hf1⟩ := OwnF.fr hO1
  obtain ⟨gu, rfl, h2, h3, _⟩ := OwnF.at hO1 (k := 0) (by omega)
  rw [size_alloc] at h2
  exact ⟨gu, cu, _, rfl, rfl, hO1.mono (by rw [size_alloc]; omega), (ownF_made w w.heap.size xs.length (Nat.le_refl _) hN).ext hE1, by omega, ((Ext.refl w).alloc _).trans hE1⟩
theorem peel_start (s : Nat) (a : List Nat) (n : Nat) (h : 1 ≤ n) : Hid (cl ((List.replicate n 0).set 0 1065353216) = tabP (peel0 s a) (0 + 1) ++ List.drop (0 + 1) (List.replicate n 0)) :=
  set_step (k := 0) (set_start (peel0 s a) (List.replicate n 0) (cl_zeros n)).out (by simp; omega) is_self
set_option maxHeartbeats 8000000 in
theorem implPeel_yesA (ao : Option Addr) (cap : Nat) (xs : List Nat) (b s : Nat) (m : Nat) (w : World) (hc : FR w ao xs) (hl : xs.length ≤ 1048576) (hb : Is .f32 b s) (hcap : xs.length ≤ cap) (ht0 : inB (xs.length : Int) 1 128 = true) (ht1 : surfB s = true) (ht2 : inB (m : Int) 1 (min 24 (xs.length : Int)) = true) (h24 : (xs.length : Int) < 24) :
    Calls Try.prog 32 #[.slice ao xs.length cap, .float .f32 b, .int .i64 (m : Int)] w (GivesO (peelO (cl xs) s (m : Int)) w) := by
  obtain ⟨i0, hi0, hz0, hs0, hb0⟩ := info_parts info32
  have hI0 := inB_yes ht0
  have ht3 := ht2
  rw [inB_min] at ht3
  simp only [Bool.and_eq_true] at ht3
  have hI2 := inB_yes ht3.1
  have hI3 := inB_yes ht3.2
  have HY := Lib.hid (fun h => peelO_yes (a := cl xs) (s := s) (m := m) (by rw [isTr_cl]; exact ht0) ht1 ht3.1 (by rw [cl_length]; exact ht3.2) h)
  have ht4 := ht3.1
  have ht5 := ht3.2
  clear ht2 ht3
  obtain ⟨bb, off, rfl, _⟩ := hc 0 (by omega)
  have hmk : ∀ w : World, (Instr.makeSlice 22 (.int .i64 (xs.length : Int)) (.int .i64 (xs.length : Int))).run Try.prog w = .ok (.slice (some ⟨w.heap.size, 0, none⟩) xs.length xs.length) (w.alloc (.cells (madeCells #[.float .f32 0] xs.length) 34)) := fun w => run_make_row' (P := Try.prog) 22 34 (.float .f32 0) 4 Try.underlying22 info32 rfl .i64 .i64 xs.length (by omega) (by omega) w
  go_enter Try.func32, Try.ntmps32
  go_upto_region 3 with (first | (go_at_call 92; refine (isSurface_any _ _ _ hb (by assumption) _).mono ?_; rintro _ _ ⟨rfl, rfl⟩) | (go_at_call 77; refine (within_any _ _ _ _ (by first | assumption | rfl) _).mono ?_; rintro _ _ ⟨rfl, rfl⟩) | (go_at_call 90; refine (l00In_any _ _ _ _ (by first | assumption | rfl) _).mono ?_; rintro _ _ ⟨rfl, rfl⟩) | (go_at_call 96; refine (isCount_any _ _ (by first | assumption | rfl) _).mono ?_; rintro _ _ ⟨rfl, rfl⟩) | (go_at_call 88; refine (isTrace_any _ _ _ _ (by first | assumption | rfl) _).mono ?_; rintro _ _ ⟨rfl, rfl⟩) | (go_at_call 85; refine (l03Is_any _ _ _ _ (by first | assumption | rfl) (by omega) _).mono ?_; rintro _ _ ⟨rfl, rfl⟩) | (go_at_call 78; refine (length32_any _ _ _ _).mono ?_; rintro _ _ ⟨rfl, rfl⟩) | (go_at_call 148; refine (isFinite64_any _ _ _ (by assumption) (by first | assumption | rfl) _).mono ?_; rintro _ _ ⟨rfl, n, rfl⟩) | (go_at_call 99; refine (isFinite_any _ _ _ (by first | assumption | exact is_ofInt _ _ | exact is_self) (by first | assumption | rfl) _).mono ?_; rintro _ _ ⟨rfl, n, rfl⟩) | (go_at_call 97; refine (l01Finite_any _ _ _ (by first | assumption | exact is_ofInt _ _ | exact is_self) (by first | assumption | rfl) _).mono ?_; rintro _ _ ⟨rfl, n, rfl⟩))
  go_cut [8, 9] from 31 to 35 (fun uv dv wx => ∃ gu cu gd, uv = .slice (some ⟨gu, 0, none⟩) xs.length cu ∧ dv = .slice (some ⟨gd, 0, none⟩) xs.length xs.length ∧ OwnF wx w.heap.size (.slice (some ⟨gu, 0, none⟩) xs.length cu) xs ∧ OwnF wx w.heap.size (.slice (some ⟨gd, 0, none⟩) xs.length xs.length) (List.replicate xs.length 0) ∧ gu ≠ gd ∧ Ext w wx)
  case first =>
    clear HY hI2 hI3
    go_region_with (go_at_call 80; refine (clone_any _ _ _ _ (hc.ext (by repeat (first | assumption | exact Ext.refl _ | apply Ext.drewN | apply Ext.alloc | apply Ext.drew))) hl).mono ?_; rintro _ w1 ⟨v, rfl, hE1, hO1⟩)
    · obtain ⟨gu, cu, gd, rfl, hgd, r1, r2, r3, r4⟩ := two_a (w := w) (by omega) (by omega) (Ext.trans (show Ext w w.drew from (Ext.refl w).drewN 1) hE1) (show OwnF w1 w.heap.size v xs from hO1)
      subst hgd
      go_wp2_with fail
      go_meet
      case rel => exact ⟨gu, cu, _, rfl, rfl, r1, r2, r3, r4⟩
    · obtain ⟨gu, cu, gd, rfl, hgd, r1, r2, r3, r4⟩ := two_b (w := w) (by omega) (by omega) (Ext.trans (show Ext (w.alloc _) (w.alloc _).drew from (Ext.refl _).drewN 1) hE1) (show OwnF w1 (w.alloc _).heap.size v xs from hO1)
      subst hgd
      go_wp2_with fail
      go_meet
      case rel => exact ⟨gu, cu, _, rfl, rfl, r1, r2, r3, r4⟩
  case rest =>
    obtain ⟨gu, cu, gd, rfl, rfl, hU0, hD0, hgud, hE0⟩ := hcut
    clear hmk ht0 ht1 ht4 ht5
    obtain ⟨hcd, hfd⟩ := OwnF.at' hD0 (k := 0) (by simp; omega)
    have hcapu := OwnF.capN hU0
    have hgu0 := hU0.lt gu rfl
    have hgd0 := hD0.lt gd rfl
    go_wp2_with fail
    clear hcd hfd
    go_loopw [44] (fun i wr => ∃ (k : Nat) (ds : List Nat), k + 1 ≤ xs.length ∧ i = .int .i64 k ∧ OwnF wr w.heap.size (.slice (some ⟨gd, 0, none⟩) xs.length xs.length) ds ∧ Hid (ds.length = xs.length) ∧ Hid (cl ds = tabP (peel0 s (cl xs)) (k + 1) ++ List.drop (k + 1) (List.replicate xs.length 0)) ∧ OwnF wr w.heap.size (.slice (some ⟨gu, 0, none⟩) xs.length cu) xs ∧ Ext w wr) (fun i _ => xs.length - (intOf i).toNat)
    case atStart =>
      refine ⟨0, _, by omega, rfl, (hD0.stored 0 1065353216).1, by unfold Hid; simp, peel_start _ _ _ (by omega), hU0.chg (chg_setCell wc gd 0 _) (fun q hq e => by have h1 := ownB hq; have h2 : q = gd := e; omega), Chg.ext hE0 (chg_setCell wc gd 0 _) (fun q e => by have h2 : q = gd := e; omega)⟩
    case round =>
      clear hU0 hD0 hE0
      obtain ⟨k, ds, hk, rfl, hD, hdl, hdc, hU, hE⟩ := hrel
      by_cases hlt : k + 1 < xs.length
      · have e1 : (k : Int) < (xs.length : Int) - 1 := by omega
        have hlt' : k < xs.length := by omega
        have hcx := FR.cellW hc hlt' wr hE
        have hA := is_el hlt'
        obtain ⟨hcd, hfd⟩ := OwnF.at' hD (k := k + 1) (by rw [hdl.out]; omega)
        go_wp2_with (first | (refine wl_bin rfl rfl rfl rfl rfl hb hA ?_; intro r n1 hr) | (refine wl_neg rfl rfl rfl hr ?_; intro r2 hr2; (have HS := Lib.hid (fun n' : Nat => (hD.stored (k + 1) r2).1.drewN n')); (have HC := Lib.hid (fun n' : Nat => chg_setCellE wr gd (k + 1) (.float .f32 r2) n')); (have HR := Lib.hid hr2); clear hr2))
        go_roundw
        case rel => exact ⟨k + 1, _, by omega, by go_num, HS.out _, by unfold Hid; rw [List.length_set]; exact hdl.out, set_step hdc.out (by simp; omega) HR.out, hU.chg (HC.out _) (fun q hq e => by have h1 := ownB hq; have h2 : q = gd := e; omega), Chg.ext hE (HC.out _) (fun q e => by have h2 : q = gd := e; omega)⟩
        case measure => simp [intOf]; omega
      · have hkN : k + 1 = xs.length := by omega
        have hD' : Hid (cl ds = (peelS s (cl xs) 0).2) := by
          unfold Hid
          rw [hdc.out, hkN, List.drop_of_length_le (by simp), List.append_nil]
          show _ = tabP (peel0 s (cl xs)) (cl xs).length
          rw [cl_length]
        have e1 : ¬ (k : Int) < (xs.length : Int) - 1 := by omega
        clear hdc
        go_wp2_with fail
        clear e1
        have hgu1 := (hU.lt gu rfl).1
        have hgd1 := (hD.lt gd rfl).1
        go_loopw [8, 9, 12, 59] (fun uv dv ov iv wr => ∃ (t q cq : Nat) (us dl ys : List Nat) (oq : Value), t ≤ m ∧ iv = .int .i64 (t : Int) ∧ t + q = xs.length ∧ t + cq = cu ∧ oq = ov ∧ (t < m → uv = .slice (some ⟨gu, t, none⟩) q cq) ∧ (t < m → dv = .slice (some ⟨gd, 0, none⟩) q xs.length) ∧ OwnF wr w.heap.size (.slice (some ⟨gu, 0, none⟩) xs.length cu) us ∧ OwnF wr w.heap.size (.slice (some ⟨gd, 0, none⟩) xs.length xs.length) dl ∧ OwnF wr w.heap.size oq ys ∧ Hid (cl us = (peelS s (cl xs) t).1) ∧ Hid (cl dl = (peelS s (cl xs) t).2) ∧ Hid (cl ys = tabP (peelG s (cl xs)) t) ∧ Hid (peelB s (cl xs) t = true) ∧ oq.ownBlock ≠ some gu ∧ oq.ownBlock ≠ some gd ∧ Ext w wr) (fun _ _ _ iv _ => m - (intOf iv).toNat)
        case atStart =>
          exact ⟨0, xs.length, cu, xs, ds, [], _, Nat.zero_le _, rfl, by omega, by omega, rfl, fun _ => rfl, fun _ => rfl, hU, hD, OwnF.nil _ _, rfl, hD', rfl, rfl, (fun e => by cases e), (fun e => by cases e), hE⟩
        case round =>
          clear hU hD hD' hE hdl
          obtain ⟨t, q, cq, us, dl, ys, ov, ht, rfl, htq, htc, rfl, huv, hdv, hU, hD, hO, huu, hdd, hyy, hpb, hou, hod, hE⟩ := hrel
          have husl : Hid (us.length = xs.length) := by unfold Hid; rw [← cl_length us, huu.out, peel_len1, cl_length]
          have hdsl : Hid (dl.length = xs.length) := by unfold Hid; rw [← cl_length dl, hdd.out, peel_len2, cl_length]
          have hyl : ys.length ≤ 24 := by rw [← cl_length, hyy.out, tabP_len]; omega
          by_cases hlt : t < m
          · obtain rfl := huv hlt
            obtain rfl := hdv hlt
            clear huv hdv
            have hq1 : 1 ≤ q := by omega
            obtain ⟨hcu, _⟩ := OwnF.at' hU (k := t) (by rw [husl.out]; omega)
            obtain ⟨hcd, _⟩ := OwnF.at' hD (k := 0) (by rw [hdsl.out]; omega)
            have iU : Is .f32 (el us t) (el (cl us) t) := is_el (by rw [husl.out]; omega)
            have iD : Is .f32 (el dl 0) (el (cl dl) 0) := is_el (by rw [hdsl.out]; omega)
            have e1 : (t : Int) < (m : Int) := by omega
            have e2 : 0 < q := by omega
            have e3 : (0 : Int) < (q : Int) := by omega
            go_wp2_with fail
            refine wp_region_mix (fun _ => Drawn wr) (fun _ => false) (fun _ _ => True) (by kernel_rfl) (by kernel_rfl) (by kernel_rfl) (fun _ => drawn_more _) (fun _ => drawn_self _) (fun n0 => ?_)
            repeat (first
          | (refine lx_nil ?_; intro nq)
          | (refine lx_skip rfl ?_; go_simp)
          | (refine lx_move rfl rfl rfl rfl ?_; go_simp)
          | (refine lx_assign rfl rfl rfl rfl ?_; go_simp)
          | (refine lx_bin rfl rfl rfl rfl rfl rfl (by first | assumption | exact is_ofInt _ _ | exact is_self) (by first | assumption | exact is_ofInt _ _ | exact is_self) ?_; intro r hr; go_simp)
          | (refine lx_cmp rfl rfl rfl rfl rfl rfl (by first | assumption | exact is_ofInt _ _ | exact is_self) (by first | assumption | exact is_ofInt _ _ | exact is_self) (by first | assumption | rfl) ?_; go_simp)
          | (refine lx_widen rfl rfl rfl rfl (by first | exact rfl | kernel_rfl) (by kernel_rfl) (by first | assumption | exact is_ofInt _ _ | exact is_self) ?_; intro r hr; go_simp)
          | (refine lx_valD rfl rfl (fun nn => by go_simp; rfl) ?_; go_simp))
            have hR : Is .f32 r (peelG s (cl xs) t) := by unfold peelG peelR; rw [← huu.out, ← hdd.out]; exact hr
            have hR2 : Is .f32 r (peelR (cl us, cl dl) t) := hr
            clear hr e2 e3 hcu hcd iU iD
            cases hcf : coefB (peelG s (cl xs) t) with
            | false =>
              have hn : Hid (peelO (cl xs) s (m : Int) = none) := by unfold Hid; exact peelO_no hcf hlt
              go_wp2_with (go_at_call 93; refine (isCoef_any _ _ _ hR hcf _).mono ?_; rintro _ _ ⟨rfl, n1, rfl⟩)
              go_ret2
              exact givesO_none hn.out (by repeat (first | assumption | exact Ext.refl _ | apply Ext.drewN | apply Ext.alloc | (refine Ext.setCell ?_ (by first | assumption | exact Nat.le_refl _) _)))
            | true =>
              have HPB : Hid (peelB s (cl xs) (t + 1) = true) := by unfold Hid; show (peelB s (cl xs) t && coefB (peelG s (cl xs) t)) = true; rw [hpb.out, hcf]; rfl
              go_wp2_with (go_at_call 93; refine (isCoef_any _ _ _ hR hcf _).mono ?_; rintro _ _ ⟨rfl, n1, rfl⟩)
              have HU0 := Lib.hid (upP_start (cl us, cl dl) t xs.length (by show (cl us).length = _; rw [cl_length, husl.out])).out
              have HD0 := Lib.hid (dnP_start (cl us, cl dl) t xs.length (by show (cl dl).length = _; rw [cl_length, hdsl.out])).out
              have hgub := (hU.lt gu rfl).2
              have hgdb := (hD.lt gd rfl).2
              have hyR := app_step hyy.out hR
              clear hcf hpb hyy
              rename World => wo
              go_loopw [73] (fun i wv => ∃ (k : Nat) (ul dk : List Nat), k ≤ q ∧ i = .int .i64 k ∧ OwnF wv w.heap.size (.slice (some ⟨gu, 0, none⟩) xs.length cu) ul ∧ Hid (ul.length = xs.length) ∧ Hid (cl ul = tabP (upP (cl us, cl dl) t k) xs.length) ∧ OwnF wv w.heap.size (.slice (some ⟨gd, 0, none⟩) xs.length xs.length) dk ∧ Hid (dk.length = xs.length) ∧ Hid (cl dk = tabP (dnP (cl us, cl dl) t k) xs.length) ∧ Chg (fun q => q = gu ∨ q = gd) wo wv) (fun i _ => q - (intOf i).toNat)
              case atStart => exact ⟨0, us, dl, Nat.zero_le _, rfl, hU.drewN _, husl, HU0.out, hD.drewN _, hdsl, HD0.out, (by exact ⟨rfl, rfl, rfl, Nat.le_refl _, fun _ _ _ => rfl⟩)⟩
              case round =>
                obtain ⟨k, ul, dk, hk, rfl, hUk, hull, hulc, hDk, hdkl, hdkc, hC⟩ := hrel
                by_cases hlk : k < q
                · obtain ⟨hcu, hfu⟩ := OwnF.at' hUk (k := t + k) (by rw [hull.out]; omega)
                  obtain ⟨hcd, _⟩ := OwnF.at' hDk (k := k) (by rw [hdkl.out]; omega)
                  have iU : Is .f32 (el ul (t + k)) (el (cl us) (t + k)) := by
                    have h1 := is_el (xs := ul) (i := t + k) (by rw [hull.out]; omega)
                    rw [hulc.out, el_tabP _ _ _ (by omega)] at h1
                    unfold upP at h1
                    rw [if_neg (by omega)] at h1
                    exact h1
                  have iD : Is .f32 (el dk k) (el (cl dl) k) := by
                    have h1 := is_el (xs := dk) (i := k) (by rw [hdkl.out]; omega)
                    rw [hdkc.out, el_tabP _ _ _ (by omega)] at h1
                    unfold dnP at h1
                    rw [if_neg (by omega)] at h1
                    exact h1
                  have e5 : (k : Int) < (q : Int) := by omega
                  go_wp2
                  refine wp_region_mix (ownU [5, 10] (Drawn wr) (fun _ => True)) (fun i => i == 17) (fun _ _ => True) (by kernel_rfl) (by kernel_rfl) (by kernel_rfl) (ownU_drew (drawn_more _) (fun _ _ _ => trivial)) (ownU_all (drawn_self _) trivial) (fun n0 => ?_)
                  repeat (first
          | (refine lx_nil ?_; intro nq)
          | (refine lx_skip rfl ?_; go_simp)
          | (refine lx_move rfl rfl rfl rfl ?_; go_simp)
          | (refine lx_assign rfl rfl rfl rfl ?_; go_simp)
          | (refine lx_bin rfl rfl rfl rfl rfl rfl (by first | assumption | exact is_ofInt _ _ | exact is_self) (by first | assumption | exact is_ofInt _ _ | exact is_self) ?_; intro r hr; go_simp)
          | (refine lx_val rfl rfl (fun w' _ => by go_simp; rfl) ?_; go_simp)
          | (refine lx_val rfl rfl (fun w' hw' => by (obtain ⟨mm, rfl⟩ : Drawn wr w' := hw'); go_simp; rfl) ?_; go_simp))
                  refine lx_effS rfl rfl (fun n => by go_simp; rfl) (fun n => ownU_aft (by kernel_rfl) trivial) (fun n1 => ?_)
                  have HR1 : Hid (Is .f32 r (peelU (cl us, cl dl) t (t + k))) := by unfold Hid; rw [peelU_at]; exact hr
                  clear hr
                  go_simp
                  refine lx_nilG (fun w' => OwnF w' w.heap.size (.slice (some ⟨gu, 0, none⟩) xs.length cu) (ul.set (t + k) r) ∧ Chg (fun q => q = gu) wr w') (fun n => ⟨(hUk.stored (t + k) r).1, chg_setCellD wr gu (t + k) _ _ n⟩) ?_
                  rintro w6 ⟨hU6, hC6⟩
                  have hD6 := hDk.chg hC6 (fun q hq e => by have h1 := ownB hq; have h2 : q = gu := e; omega)
                  obtain ⟨hcd6, hfd6⟩ := OwnF.at' hD6 (k := k) (by rw [hdkl.out]; omega)
                  obtain ⟨hcu6, _⟩ := OwnF.at' hU6 (k := t + k) (by rw [List.length_set, hull.out]; omega)
                  rw [el_set _ _ _ _ (by rw [hull.out]; omega), if_pos rfl] at hcu6
                  have iU6 := HR1.out
                  clear hcu hfu hcd iU
                  go_wp2
                  refine wp_region_mix (ownU [7, 13] (Drawn w6) (fun _ => True)) (fun i => i == 17) (fun _ _ => True) (by kernel_rfl) (by kernel_rfl) (by kernel_rfl) (ownU_drew (drawn_more _) (fun _ _ _ => trivial)) (ownU_all (drawn_self _) trivial) (fun n0 => ?_)
                  repeat (first
          | (refine lx_nil ?_; intro nq)
          | (refine lx_skip rfl ?_; go_simp)
          | (refine lx_move rfl rfl rfl rfl ?_; go_simp)
          | (refine lx_assign rfl rfl rfl rfl ?_; go_simp)
          | (refine lx_bin rfl rfl rfl rfl rfl rfl (by first | assumption | exact is_ofInt _ _ | exact is_self) (by first | assumption | exact is_ofInt _ _ | exact is_self) ?_; intro r hr; go_simp)
          | (refine lx_val rfl rfl (fun w' _ => by go_simp; rfl) ?_; go_simp)
          | (refine lx_val rfl rfl (fun w' hw' => by (obtain ⟨mm, rfl⟩ : Drawn w6 w' := hw'); go_simp; rfl) ?_; go_simp))
                  refine lx_effS rfl rfl (fun n => by go_simp; rfl) (fun n => ownU_aft (by kernel_rfl) trivial) (fun n1 => ?_)
                  have HR2 : Hid (Is .f32 r (peelD (cl us, cl dl) t k)) := by unfold Hid; exact hr
                  clear hr
                  go_simp
                  refine lx_nilG (fun w' => OwnF w' w.heap.size (.slice (some ⟨gd, 0, none⟩) xs.length xs.length) (dk.set k r) ∧ Chg (fun q => q = gd) w6 w') (fun n => ⟨(hD6.stored k r).1, chg_setCellD w6 gd k _ _ n⟩) ?_
                  rintro w7 ⟨hD7, hC7⟩
                  have hU7 := hU6.chg hC7 (fun q hq e => by have h1 := ownB hq; have h2 : q = gd := e; omega)
                  have hC' : Chg (fun q => q = gu ∨ q = gd) wo w7 := (hC.trans (hC6.mono fun q => .inl)).trans (hC7.mono fun q => .inr)
                  clear e5
                  go_wp2
                  go_roundw
                  case rel => exact ⟨k + 1, _, _, by omega, by go_num, hU7, by unfold Hid; rw [List.length_set]; exact hull.out, upP_step hulc.out (by omega) HR1.out, hD7, by unfold Hid; rw [List.length_set]; exact hdkl.out, dnP_step hdkc.out (by omega) HR2.out, hC'⟩
                  case measure => simp [intOf]; omega
                · obtain rfl : k = q := by omega
                  have HU1 := upP_end huu.out hdd.out (by rw [cl_length]) htq hulc.out
                  have HD1 := dnP_end huu.out hdd.out (by rw [cl_length]) htq hdkc.out
                  have hE7 := Chg.ext hE hC (fun q hq => by rcases hq with rfl | rfl <;> omega)
                  have hO7 := hO.chg hC (fun q hq e => by rcases e with rfl | rfl <;> first | exact hou hq | exact hod hq)
                  have hgub' := (hUk.lt gu rfl).2
                  have hgdb' := (hDk.lt gd rfl).2
                  have e6 : ¬ (k : Int) < (k : Int) := by omega
                  have e7 : IntKind.i64.wrap ((k : Int) - 1) = (k : Int) - 1 := IntWalk.i64_in _ (by omega)
                  have e8 : ((k : Int) - 1).toNat = k - 1 := by omega
                  have e9 : (0 : Int) ≤ (k : Int) - 1 := by omega
                  go_wp2
                  go_region
                  clear e6 e7 e8 e9
                  go_wp2_with (at_builtin; refine wl_append1K w rfl Try.underlying22 hi0 hz0 hs0 hb0 rfl rfl rfl (by first | exact (hO7.drewN _).alloc _ | exact hO7.alloc _) (by first | exact (hE7.drewN _).alloc _ | exact hE7.alloc _) (by omega) (by first | exact cell_new _ _ _ | exact cell_newD _ _ _ _) ?_; intro v5 w5 hO5 hE5 hC5 hb5)
                  have hvn : ∀ g, (g = gu ∨ g = gd) → v5.ownBlock ≠ some g := fun g hg e => by
                    rcases hb5 with h | h
                    · rw [h] at e
                      rcases hg with rfl | rfl
                      · exact hou e
                      · exact hod e
                    · rw [h] at e
                      have h1 := Option.some.inj e
                      have h2 : (wr.alloc (.cells #[.float .f32 r] 34)).heap.size = g := h1
                      rw [size_alloc] at h2
                      rcases hg with rfl | rfl <;> omega
                  have hU5a : OwnF (wr.alloc (.cells #[.float .f32 r] 34)).drew w.heap.size (.slice (some ⟨gu, 0, none⟩) xs.length cu) ul := (by exact (hUk.alloc _).drewN 1)
                  have hU5 := Lib.hid (OwnF.chg hU5a hC5 (fun q hq e => by have h1 := ownB hq; subst h1; exact hou e))
                  clear hU5a
                  have hD5a : OwnF (wr.alloc (.cells #[.float .f32 r] 34)).drew w.heap.size (.slice (some ⟨gd, 0, none⟩) xs.length xs.length) dk := (by exact (hDk.alloc _).drewN 1)
                  have hD5 := Lib.hid (OwnF.chg hD5a hC5 (fun q hq e => by have h1 := ownB hq; subst h1; exact hod e))
                  clear hD5a
                  clear hUk hDk hO7 hE7 hC5 hb5 hO hU hD
                  go_roundw
                  case rel => exact ⟨t + 1, k - 1, cq - 1, _, _, _, _, by omega, by go_num, by omega, by omega, rfl, (fun h => by rw [if_neg (by omega)]), (fun h => rfl), hU5.out, hD5.out, hO5, HU1, HD1, hyR, HPB, hvn gu (.inl rfl), hvn gd (.inr rfl), hE5⟩
                  case measure => simp [intOf]; omega
          · obtain rfl : t = m := by omega
            have e1 : ¬ (t : Int) < (t : Int) := by omega
            go_wp2
            go_ret2
            exact givesO_some (HY.out hpb.out) hE hO hyy.out
set_option maxHeartbeats 8000000 in
theorem implPeel_yesB (ao : Option Addr) (cap : Nat) (xs : List Nat) (b s : Nat) (m : Nat) (w : World) (hc : FR w ao xs) (hl : xs.length ≤ 1048576) (hb : Is .f32 b s) (hcap : xs.length ≤ cap) (ht0 : inB (xs.length : Int) 1 128 = true) (ht1 : surfB s = true) (ht2 : inB (m : Int) 1 (min 24 (xs.length : Int)) = true) (h24 : ¬ (xs.length : Int) < 24) :
    Calls Try.prog 32 #[.slice ao xs.length cap, .float .f32 b, .int .i64 (m : Int)] w (GivesO (peelO (cl xs) s (m : Int)) w) := by
  obtain ⟨i0, hi0, hz0, hs0, hb0⟩ := info_parts info32
  have hI0 := inB_yes ht0
  have ht3 := ht2
  rw [inB_min] at ht3
  simp only [Bool.and_eq_true] at ht3
  have hI2 := inB_yes ht3.1
  have hI3 := inB_yes ht3.2
  have HY := Lib.hid (fun h => peelO_yes (a := cl xs) (s := s) (m := m) (by rw [isTr_cl]; exact ht0) ht1 ht3.1 (by rw [cl_length]; exact ht3.2) h)
  have ht4 := ht3.1
  have ht5 := ht3.2
  clear ht2 ht3
  obtain ⟨bb, off, rfl, _⟩ := hc 0 (by omega)
  have hmk : ∀ w : World, (Instr.makeSlice 22 (.int .i64 (xs.length : Int)) (.int .i64 (xs.length : Int))).run Try.prog w = .ok (.slice (some ⟨w.heap.size, 0, none⟩) xs.length xs.length) (w.alloc (.cells (madeCells #[.float .f32 0] xs.length) 34)) := fun w => run_make_row' (P := Try.prog) 22 34 (.float .f32 0) 4 Try.underlying22 info32 rfl .i64 .i64 xs.length (by omega) (by omega) w
  go_enter Try.func32, Try.ntmps32
  go_upto_region 3 with (first | (go_at_call 92; refine (isSurface_any _ _ _ hb (by assumption) _).mono ?_; rintro _ _ ⟨rfl, rfl⟩) | (go_at_call 77; refine (within_any _ _ _ _ (by first | assumption | rfl) _).mono ?_; rintro _ _ ⟨rfl, rfl⟩) | (go_at_call 90; refine (l00In_any _ _ _ _ (by first | assumption | rfl) _).mono ?_; rintro _ _ ⟨rfl, rfl⟩) | (go_at_call 96; refine (isCount_any _ _ (by first | assumption | rfl) _).mono ?_; rintro _ _ ⟨rfl, rfl⟩) | (go_at_call 88; refine (isTrace_any _ _ _ _ (by first | assumption | rfl) _).mono ?_; rintro _ _ ⟨rfl, rfl⟩) | (go_at_call 85; refine (l03Is_any _ _ _ _ (by first | assumption | rfl) (by omega) _).mono ?_; rintro _ _ ⟨rfl, rfl⟩) | (go_at_call 78; refine (length32_any _ _ _ _).mono ?_; rintro _ _ ⟨rfl, rfl⟩) | (go_at_call 148; refine (isFinite64_any _ _ _ (by assumption) (by first | assumption | rfl) _).mono ?_; rintro _ _ ⟨rfl, n, rfl⟩) | (go_at_call 99; refine (isFinite_any _ _ _ (by first | assumption | exact is_ofInt _ _ | exact is_self) (by first | assumption | rfl) _).mono ?_; rintro _ _ ⟨rfl, n, rfl⟩) | (go_at_call 97; refine (l01Finite_any _ _ _ (by first | assumption | exact is_ofInt _ _ | exact is_self) (by first | assumption | rfl) _).mono ?_; rintro _ _ ⟨rfl, n, rfl⟩))
  go_cut [8, 9] from 31 to 35 (fun uv dv wx => ∃ gu cu gd, uv = .slice (some ⟨gu, 0, none⟩) xs.length cu ∧ dv = .slice (some ⟨gd, 0, none⟩) xs.length xs.length ∧ OwnF wx w.heap.size (.slice (some ⟨gu, 0, none⟩) xs.length cu) xs ∧ OwnF wx w.heap.size (.slice (some ⟨gd, 0, none⟩) xs.length xs.length) (List.replicate xs.length 0) ∧ gu ≠ gd ∧ Ext w wx)
  case first =>
    clear HY hI2 hI3
    go_region_with (go_at_call 80; refine (clone_any _ _ _ _ (hc.ext (by repeat (first | assumption | exact Ext.refl _ | apply Ext.drewN | apply Ext.alloc | apply Ext.drew))) hl).mono ?_; rintro _ w1 ⟨v, rfl, hE1, hO1⟩)
    · obtain ⟨gu, cu, gd, rfl, hgd, r1, r2, r3, r4⟩ := two_a (w := w) (by omega) (by omega) (Ext.trans (show Ext w w.drew from (Ext.refl w).drewN 1) hE1) (show OwnF w1 w.heap.size v xs from hO1)
      subst hgd
      go_wp2_with fail
      go_meet
      case rel => exact ⟨gu, cu, _, rfl, rfl, r1, r2, r3, r4⟩
    · obtain ⟨gu, cu, gd, rfl, hgd, r1, r2, r3, r4⟩ := two_b (w := w) (by omega) (by omega) (Ext.trans (show Ext (w.alloc _) (w.alloc _).drew from (Ext.refl _).drewN 1) hE1) (show OwnF w1 (w.alloc _).heap.size v xs from hO1)
      subst hgd
      go_wp2_with fail
      go_meet
      case rel => exact ⟨gu, cu, _, rfl, rfl, r1, r2, r3, r4⟩
  case rest =>
    obtain ⟨gu, cu, gd, rfl, rfl, hU0, hD0, hgud, hE0⟩ := hcut
    clear hmk ht0 ht1 ht4 ht5
    obtain ⟨hcd, hfd⟩ := OwnF.at' hD0 (k := 0) (by simp; omega)
    have hcapu := OwnF.capN hU0
    have hgu0 := hU0.lt gu rfl
    have hgd0 := hD0.lt gd rfl
    go_wp2_with fail
    clear hcd hfd
    go_loopw [44] (fun i wr => ∃ (k : Nat) (ds : List Nat), k + 1 ≤ xs.length ∧ i = .int .i64 k ∧ OwnF wr w.heap.size (.slice (some ⟨gd, 0, none⟩) xs.length xs.length) ds ∧ Hid (ds.length = xs.length) ∧ Hid (cl ds = tabP (peel0 s (cl xs)) (k + 1) ++ List.drop (k + 1) (List.replicate xs.length 0)) ∧ OwnF wr w.heap.size (.slice (some ⟨gu, 0, none⟩) xs.length cu) xs ∧ Ext w wr) (fun i _ => xs.length - (intOf i).toNat)
    case atStart =>
      refine ⟨0, _, by omega, rfl, (hD0.stored 0 1065353216).1, by unfold Hid; simp, peel_start _ _ _ (by omega), hU0.chg (chg_setCell wc gd 0 _) (fun q hq e => by have h1 := ownB hq; have h2 : q = gd := e; omega), Chg.ext hE0 (chg_setCell wc gd 0 _) (fun q e => by have h2 : q = gd := e; omega)⟩
    case round =>
      clear hU0 hD0 hE0
      obtain ⟨k, ds, hk, rfl, hD, hdl, hdc, hU, hE⟩ := hrel
      by_cases hlt : k + 1 < xs.length
      · have e1 : (k : Int) < (xs.length : Int) - 1 := by omega
        have hlt' : k < xs.length := by omega
        have hcx := FR.cellW hc hlt' wr hE
        have hA := is_el hlt'
        obtain ⟨hcd, hfd⟩ := OwnF.at' hD (k := k + 1) (by rw [hdl.out]; omega)
        go_wp2_with (first | (refine wl_bin rfl rfl rfl rfl rfl hb hA ?_; intro r n1 hr) | (refine wl_neg rfl rfl rfl hr ?_; intro r2 hr2; (have HS := Lib.hid (fun n' : Nat => (hD.stored (k + 1) r2).1.drewN n')); (have HC := Lib.hid (fun n' : Nat => chg_setCellE wr gd (k + 1) (.float .f32 r2) n')); (have HR := Lib.hid hr2); clear hr2))
        go_roundw
        case rel => exact ⟨k + 1, _, by omega, by go_num, HS.out _, by unfold Hid; rw [List.length_set]; exact hdl.out, set_step hdc.out (by simp; omega) HR.out, hU.chg (HC.out _) (fun q hq e => by have h1 := ownB hq; have h2 : q = gd := e; omega), Chg.ext hE (HC.out _) (fun q e => by have h2 : q = gd := e; omega)⟩
        case measure => simp [intOf]; omega
      · have hkN : k + 1 = xs.length := by omega
        have hD' : Hid (cl ds = (peelS s (cl xs) 0).2) := by
          unfold Hid
          rw [hdc.out, hkN, List.drop_of_length_le (by simp), List.append_nil]
          show _ = tabP (peel0 s (cl xs)) (cl xs).length
          rw [cl_length]
        have e1 : ¬ (k : Int) < (xs.length : Int) - 1 := by omega
        clear hdc
        go_wp2_with fail
        clear e1
        have hgu1 := (hU.lt gu rfl).1
        have hgd1 := (hD.lt gd rfl).1
        go_loopw [8, 9, 12, 59] (fun uv dv ov iv wr => ∃ (t q cq : Nat) (us dl ys : List Nat) (oq : Value), t ≤ m ∧ iv = .int .i64 (t : Int) ∧ t + q = xs.length ∧ t + cq = cu ∧ oq = ov ∧ (t < m → uv = .slice (some ⟨gu, t, none⟩) q cq) ∧ (t < m → dv = .slice (some ⟨gd, 0, none⟩) q xs.length) ∧ OwnF wr w.heap.size (.slice (some ⟨gu, 0, none⟩) xs.length cu) us ∧ OwnF wr w.heap.size (.slice (some ⟨gd, 0, none⟩) xs.length xs.length) dl ∧ OwnF wr w.heap.size oq ys ∧ Hid (cl us = (peelS s (cl xs) t).1) ∧ Hid (cl dl = (peelS s (cl xs) t).2) ∧ Hid (cl ys = tabP (peelG s (cl xs)) t) ∧ Hid (peelB s (cl xs) t = true) ∧ oq.ownBlock ≠ some gu ∧ oq.ownBlock ≠ some gd ∧ Ext w wr) (fun _ _ _ iv _ => m - (intOf iv).toNat)
        case atStart =>
          exact ⟨0, xs.length, cu, xs, ds, [], _, Nat.zero_le _, rfl, by omega, by omega, rfl, fun _ => rfl, fun _ => rfl, hU, hD, OwnF.nil _ _, rfl, hD', rfl, rfl, (fun e => by cases e), (fun e => by cases e), hE⟩
        case round =>
          clear hU hD hD' hE hdl
          obtain ⟨t, q, cq, us, dl, ys, ov, ht, rfl, htq, htc, rfl, huv, hdv, hU, hD, hO, huu, hdd, hyy, hpb, hou, hod, hE⟩ := hrel
          have husl : Hid (us.length = xs.length) := by unfold Hid; rw [← cl_length us, huu.out, peel_len1, cl_length]
          have hdsl : Hid (dl.length = xs.length) := by unfold Hid; rw [← cl_length dl, hdd.out, peel_len2, cl_length]
          have hyl : ys.length ≤ 24 := by rw [← cl_length, hyy.out, tabP_len]; omega
          by_cases hlt : t < m
          · obtain rfl := huv hlt
            obtain rfl := hdv hlt
            clear huv hdv
            have hq1 : 1 ≤ q := by omega
            obtain ⟨hcu, _⟩ := OwnF.at' hU (k := t) (by rw [husl.out]; omega)
            obtain ⟨hcd, _⟩ := OwnF.at' hD (k := 0) (by rw [hdsl.out]; omega)
            have iU : Is .f32 (el us t) (el (cl us) t) := is_el (by rw [husl.out]; omega)
            have iD : Is .f32 (el dl 0) (el (cl dl) 0) := is_el (by rw [hdsl.out]; omega)
            have e1 : (t : Int) < (m : Int) := by omega
            have e2 : 0 < q := by omega
            have e3 : (0 : Int) < (q : Int) := by omega
            go_wp2_with fail
            refine wp_region_mix (fun _ => Drawn wr) (fun _ => false) (fun _ _ => True) (by kernel_rfl) (by kernel_rfl) (by kernel_rfl) (fun _ => drawn_more _) (fun _ => drawn_self _) (fun n0 => ?_)
            repeat (first
          | (refine lx_nil ?_; intro nq)
          | (refine lx_skip rfl ?_; go_simp)
          | (refine lx_move rfl rfl rfl rfl ?_; go_simp)
          | (refine lx_assign rfl rfl rfl rfl ?_; go_simp)
          | (refine lx_bin rfl rfl rfl rfl rfl rfl (by first | assumption | exact is_ofInt _ _ | exact is_self) (by first | assumption | exact is_ofInt _ _ | exact is_self) ?_; intro r hr; go_simp)
          | (refine lx_cmp rfl rfl rfl rfl rfl rfl (by first | assumption | exact is_ofInt _ _ | exact is_self) (by first | assumption | exact is_ofInt _ _ | exact is_self) (by first | assumption | rfl) ?_; go_simp)
          | (refine lx_widen rfl rfl rfl rfl (by first | exact rfl | kernel_rfl) (by kernel_rfl) (by first | assumption | exact is_ofInt _ _ | exact is_self) ?_; intro r hr; go_simp)
          | (refine lx_valD rfl rfl (fun nn => by go_simp; rfl) ?_; go_simp))
            have hR : Is .f32 r (peelG s (cl xs) t) := by unfold peelG peelR; rw [← huu.out, ← hdd.out]; exact hr
            have hR2 : Is .f32 r (peelR (cl us, cl dl) t) := hr
            clear hr e2 e3 hcu hcd iU iD
            cases hcf : coefB (peelG s (cl xs) t) with
            | false =>
              have hn : Hid (peelO (cl xs) s (m : Int) = none) := by unfold Hid; exact peelO_no hcf hlt
              go_wp2_with (go_at_call 93; refine (isCoef_any _ _ _ hR hcf _).mono ?_; rintro _ _ ⟨rfl, n1, rfl⟩)
              go_ret2
              exact givesO_none hn.out (by repeat (first | assumption | exact Ext.refl _ | apply Ext.drewN | apply Ext.alloc | (refine Ext.setCell ?_ (by first | assumption | exact Nat.le_refl _) _)))
            | true =>
              have HPB : Hid (peelB s (cl xs) (t + 1) = true) := by unfold Hid; show (peelB s (cl xs) t && coefB (peelG s (cl xs) t)) = true; rw [hpb.out, hcf]; rfl
              go_wp2_with (go_at_call 93; refine (isCoef_any _ _ _ hR hcf _).mono ?_; rintro _ _ ⟨rfl, n1, rfl⟩)
              have HU0 := Lib.hid (upP_start (cl us, cl dl) t xs.length (by show (cl us).length = _; rw [cl_length, husl.out])).out
              have HD0 := Lib.hid (dnP_start (cl us, cl dl) t xs.length (by show (cl dl).length = _; rw [cl_length, hdsl.out])).out
              have hgub := (hU.lt gu rfl).2
              have hgdb := (hD.lt gd rfl).2
              have hyR := app_step hyy.out hR
              clear hcf hpb hyy
              rename World => wo
              go_loopw [73] (fun i wv => ∃ (k : Nat) (ul dk : List Nat), k ≤ q ∧ i = .int .i64 k ∧ OwnF wv w.heap.size (.slice (some ⟨gu, 0, none⟩) xs.length cu) ul ∧ Hid (ul.length = xs.length) ∧ Hid (cl ul = tabP (upP (cl us, cl dl) t k) xs.length) ∧ OwnF wv w.heap.size (.slice (some ⟨gd, 0, none⟩) xs.length xs.length) dk ∧ Hid (dk.length = xs.length) ∧ Hid (cl dk = tabP (dnP (cl us, cl dl) t k) xs.length) ∧ Chg (fun q => q = gu ∨ q = gd) wo wv) (fun i _ => q - (intOf i).toNat)
              case atStart => exact ⟨0, us, dl, Nat.zero_le _, rfl, hU.drewN _, husl, HU0.out, hD.drewN _, hdsl, HD0.out, (by exact ⟨rfl, rfl, rfl, Nat.le_refl _, fun _ _ _ => rfl⟩)⟩
              case round =>
                obtain ⟨k, ul, dk, hk, rfl, hUk, hull, hulc, hDk, hdkl, hdkc, hC⟩ := hrel
                by_cases hlk : k < q
                · obtain ⟨hcu, hfu⟩ := OwnF.at' hUk (k := t + k) (by rw [hull.out]; omega)
                  obtain ⟨hcd, _⟩ := OwnF.at' hDk (k := k) (by rw [hdkl.out]; omega)
                  have iU : Is .f32 (el ul (t + k)) (el (cl us) (t + k)) := by
                    have h1 := is_el (xs := ul) (i := t + k) (by rw [hull.out]; omega)
                    rw [hulc.out, el_tabP _ _ _ (by omega)] at h1
                    unfold upP at h1
                    rw [if_neg (by omega)] at h1
                    exact h1
                  have iD : Is .f32 (el dk k) (el (cl dl) k) := by
                    have h1 := is_el (xs := dk) (i := k) (by rw [hdkl.out]; omega)
                    rw [hdkc.out, el_tabP _ _ _ (by omega)] at h1
                    unfold dnP at h1
                    rw [if_neg (by omega)] at h1
                    exact h1
                  have e5 : (k : Int) < (q : Int) := by omega
                  go_wp2
                  refine wp_region_mix (ownU [5, 10] (Drawn wr) (fun _ => True)) (fun i => i == 17) (fun _ _ => True) (by kernel_rfl) (by kernel_rfl) (by kernel_rfl) (ownU_drew (drawn_more _) (fun _ _ _ => trivial)) (ownU_all (drawn_self _) trivial) (fun n0 => ?_)
                  repeat (first
          | (refine lx_nil ?_; intro nq)
          | (refine lx_skip rfl ?_; go_simp)
          | (refine lx_move rfl rfl rfl rfl ?_; go_simp)
          | (refine lx_assign rfl rfl rfl rfl ?_; go_simp)
          | (refine lx_bin rfl rfl rfl rfl rfl rfl (by first | assumption | exact is_ofInt _ _ | exact is_self) (by first | assumption | exact is_ofInt _ _ | exact is_self) ?_; intro r hr; go_simp)
          | (refine lx_val rfl rfl (fun w' _ => by go_simp; rfl) ?_; go_simp)
          | (refine lx_val rfl rfl (fun w' hw' => by (obtain ⟨mm, rfl⟩ : Drawn wr w' := hw'); go_simp; rfl) ?_; go_simp))
                  refine lx_effS rfl rfl (fun n => by go_simp; rfl) (fun n => ownU_aft (by kernel_rfl) trivial) (fun n1 => ?_)
                  have HR1 : Hid (Is .f32 r (peelU (cl us, cl dl) t (t + k))) := by unfold Hid; rw [peelU_at]; exact hr
                  clear hr
                  go_simp
                  refine lx_nilG (fun w' => OwnF w' w.heap.size (.slice (some ⟨gu, 0, none⟩) xs.length cu) (ul.set (t + k) r) ∧ Chg (fun q => q = gu) wr w') (fun n => ⟨(hUk.stored (t + k) r).1, chg_setCellD wr gu (t + k) _ _ n⟩) ?_
                  rintro w6 ⟨hU6, hC6⟩
                  have hD6 := hDk.chg hC6 (fun q hq e => by have h1 := ownB hq; have h2 : q = gu := e; omega)
                  obtain ⟨hcd6, hfd6⟩ := OwnF.at' hD6 (k := k) (by rw [hdkl.out]; omega)
                  obtain ⟨hcu6, _⟩ := OwnF.at' hU6 (k := t + k) (by rw [List.length_set, hull.out]; omega)
                  rw [el_set _ _ _ _ (by rw [hull.out]; omega), if_pos rfl] at hcu6
                  have iU6 := HR1.out
                  clear hcu hfu hcd iU
                  go_wp2
                  refine wp_region_mix (ownU [7, 13] (Drawn w6) (fun _ => True)) (fun i => i == 17) (fun _ _ => True) (by kernel_rfl) (by kernel_rfl) (by kernel_rfl) (ownU_drew (drawn_more _) (fun _ _ _ => trivial)) (ownU_all (drawn_self _) trivial) (fun n0 => ?_)
                  repeat (first
          | (refine lx_nil ?_; intro nq)
          | (refine lx_skip rfl ?_; go_simp)
          | (refine lx_move rfl rfl rfl rfl ?_; go_simp)
          | (refine lx_assign rfl rfl rfl rfl ?_; go_simp)
          | (refine lx_bin rfl rfl rfl rfl rfl rfl (by first | assumption | exact is_ofInt _ _ | exact is_self) (by first | assumption | exact is_ofInt _ _ | exact is_self) ?_; intro r hr; go_simp)
          | (refine lx_val rfl rfl (fun w' _ => by go_simp; rfl) ?_; go_simp)
          | (refine lx_val rfl rfl (fun w' hw' => by (obtain ⟨mm, rfl⟩ : Drawn w6 w' := hw'); go_simp; rfl) ?_; go_simp))
                  refine lx_effS rfl rfl (fun n => by go_simp; rfl) (fun n => ownU_aft (by kernel_rfl) trivial) (fun n1 => ?_)
                  have HR2 : Hid (Is .f32 r (peelD (cl us, cl dl) t k)) := by unfold Hid; exact hr
                  clear hr
                  go_simp
                  refine lx_nilG (fun w' => OwnF w' w.heap.size (.slice (some ⟨gd, 0, none⟩) xs.length xs.length) (dk.set k r) ∧ Chg (fun q => q = gd) w6 w') (fun n => ⟨(hD6.stored k r).1, chg_setCellD w6 gd k _ _ n⟩) ?_
                  rintro w7 ⟨hD7, hC7⟩
                  have hU7 := hU6.chg hC7 (fun q hq e => by have h1 := ownB hq; have h2 : q = gd := e; omega)
                  have hC' : Chg (fun q => q = gu ∨ q = gd) wo w7 := (hC.trans (hC6.mono fun q => .inl)).trans (hC7.mono fun q => .inr)
                  clear e5
                  go_wp2
                  go_roundw
                  case rel => exact ⟨k + 1, _, _, by omega, by go_num, hU7, by unfold Hid; rw [List.length_set]; exact hull.out, upP_step hulc.out (by omega) HR1.out, hD7, by unfold Hid; rw [List.length_set]; exact hdkl.out, dnP_step hdkc.out (by omega) HR2.out, hC'⟩
                  case measure => simp [intOf]; omega
                · obtain rfl : k = q := by omega
                  have HU1 := upP_end huu.out hdd.out (by rw [cl_length]) htq hulc.out
                  have HD1 := dnP_end huu.out hdd.out (by rw [cl_length]) htq hdkc.out
                  have hE7 := Chg.ext hE hC (fun q hq => by rcases hq with rfl | rfl <;> omega)
                  have hO7 := hO.chg hC (fun q hq e => by rcases e with rfl | rfl <;> first | exact hou hq | exact hod hq)
                  have hgub' := (hUk.lt gu rfl).2
                  have hgdb' := (hDk.lt gd rfl).2
                  have e6 : ¬ (k : Int) < (k : Int) := by omega
                  have e7 : IntKind.i64.wrap ((k : Int) - 1) = (k : Int) - 1 := IntWalk.i64_in _ (by omega)
                  have e8 : ((k : Int) - 1).toNat = k - 1 := by omega
                  have e9 : (0 : Int) ≤ (k : Int) - 1 := by omega
                  go_wp2
                  go_region
                  clear e6 e7 e8 e9
                  go_wp2_with (at_builtin; refine wl_append1K w rfl Try.underlying22 hi0 hz0 hs0 hb0 rfl rfl rfl (by first | exact (hO7.drewN _).alloc _ | exact hO7.alloc _) (by first | exact (hE7.drewN _).alloc _ | exact hE7.alloc _) (by omega) (by first | exact cell_new _ _ _ | exact cell_newD _ _ _ _) ?_; intro v5 w5 hO5 hE5 hC5 hb5)
                  have hvn : ∀ g, (g = gu ∨ g = gd) → v5.ownBlock ≠ some g := fun g hg e => by
                    rcases hb5 with h | h
                    · rw [h] at e
                      rcases hg with rfl | rfl
                      · exact hou e
                      · exact hod e
                    · rw [h] at e
                      have h1 := Option.some.inj e
                      have h2 : (wr.alloc (.cells #[.float .f32 r] 34)).heap.size = g := h1
                      rw [size_alloc] at h2
                      rcases hg with rfl | rfl <;> omega
                  have hU5a : OwnF (wr.alloc (.cells #[.float .f32 r] 34)).drew w.heap.size (.slice (some ⟨gu, 0, none⟩) xs.length cu) ul := (by exact (hUk.alloc _).drewN 1)
                  have hU5 := Lib.hid (OwnF.chg hU5a hC5 (fun q hq e => by have h1 := ownB hq; subst h1; exact hou e))
                  clear hU5a
                  have hD5a : OwnF (wr.alloc (.cells #[.float .f32 r] 34)).drew w.heap.size (.slice (some ⟨gd, 0, none⟩) xs.length xs.length) dk := (by exact (hDk.alloc _).drewN 1)
                  have hD5 := Lib.hid (OwnF.chg hD5a hC5 (fun q hq e => by have h1 := ownB hq; subst h1; exact hod e))
                  clear hD5a
                  clear hUk hDk hO7 hE7 hC5 hb5 hO hU hD
                  go_roundw
                  case rel => exact ⟨t + 1, k - 1, cq - 1, _, _, _, _, by omega, by go_num, by omega, by omega, rfl, (fun h => by rw [if_neg (by omega)]), (fun h => rfl), hU5.out, hD5.out, hO5, HU1, HD1, hyR, HPB, hvn gu (.inl rfl), hvn gd (.inr rfl), hE5⟩
                  case measure => simp [intOf]; omega
          · obtain rfl : t = m := by omega
            have e1 : ¬ (t : Int) < (t : Int) := by omega
            go_wp2
            go_ret2
            exact givesO_some (HY.out hpb.out) hE hO hyy.out
theorem implPeel_any (ao : Option Addr) (cap : Nat) (xs : List Nat) (b s : Nat) (n : Int) (w : World) (hc : FR w ao xs) (hl : xs.length ≤ 1048576) (hcap : xs.length ≤ cap) (hb : Is .f32 b s) (h1 : -9223372036854775808 ≤ n) (h2 : n ≤ 9223372036854775807) :
    Calls Try.prog 32 #[.slice ao xs.length cap, .float .f32 b, .int .i64 n] w (GivesO (peelO (cl xs) s n) w) := by
  cases ht0 : inB (xs.length : Int) 1 128 with
  | false => exact implPeel_no0 _ _ _ _ _ _ _ hc hl hb hcap h1 h2 ht0
  | true =>
  cases ht1 : surfB s with
  | false => exact implPeel_no1 _ _ _ _ _ _ _ hc hl hb hcap h1 h2 ht0 ht1
  | true =>
  cases ht2 : inB n 1 (min 24 (xs.length : Int)) with
  | false => exact implPeel_no2 _ _ _ _ _ _ _ hc hl hb hcap h1 h2 ht0 ht1 ht2
  | true =>
    have ht3 := ht2
    rw [inB_min] at ht3
    simp only [Bool.and_eq_true] at ht3
    obtain ⟨m, rfl⟩ := Int.eq_ofNat_of_zero_le (show 0 ≤ n by have := inB_yes ht3.1; omega)
    by_cases h24 : (xs.length : Int) < 24
    · exact implPeel_yesA _ _ _ _ _ _ _ hc hl hb hcap ht0 ht1 ht2 h24
    · exact implPeel_yesB _ _ _ _ _ _ _ hc hl hb hcap ht0 ht1 ht2 h24
end Go.Proofs.Ytnjgcacnfobmiaa
