/- EchoesOf: the program's. -/
import Derived.Test.YtnjgcacnfobmiaaFEchoS
import Derived.Deep.OwnRows
namespace Go.Proofs.Ytnjgcacnfobmiaa
open Go.RowKit
set_option maxRecDepth 100000
set_option linter.unusedVariables false

set_option maxHeartbeats 2000000 in
theorem implEcho_no0 (ao : Option Addr) (cap : Nat) (xs : List Nat) (b s : Nat) (n : Int) (w : World) (hc : FR w ao xs) (hl : xs.length ≤ 1048576) (hb : Is .f32 b s) (_ : -9223372036854775808 ≤ n) (_ : n ≤ 9223372036854775807) (ht0 : areB (cl xs) = false) :
    Calls Try.prog 35 #[.slice ao xs.length cap, .float .f32 b, .int .i64 n] w (GivesO (echoO (cl xs) s n) w) := by
  have hn : Hid (echoO (cl xs) s n = none) := by unfold Hid echoO; rw [ht0]; rfl
  go_enter Try.func35, Try.ntmps35
  go_wp2_with (first | (go_at_call 95; refine (are_any _ _ _ _ _ hc hl (by assumption)).mono ?_; rintro _ _ ⟨rfl, n1, rfl⟩) | (go_at_call 92; refine (isSurface_any _ _ _ hb (by assumption) _).mono ?_; rintro _ _ ⟨rfl, rfl⟩) | (go_at_call 77; refine (within_any _ _ _ _ (by first | assumption | rfl) _).mono ?_; rintro _ _ ⟨rfl, rfl⟩) | (go_at_call 90; refine (l00In_any _ _ _ _ (by first | assumption | rfl) _).mono ?_; rintro _ _ ⟨rfl, rfl⟩) | (go_at_call 96; refine (isCount_any _ _ (by first | assumption | rfl) _).mono ?_; rintro _ _ ⟨rfl, rfl⟩) | (go_at_call 88; refine (isTrace_any _ _ _ _ (by first | assumption | rfl) _).mono ?_; rintro _ _ ⟨rfl, rfl⟩) | (go_at_call 85; refine (l03Is_any _ _ _ _ (by first | assumption | rfl) (by omega) _).mono ?_; rintro _ _ ⟨rfl, rfl⟩) | (go_at_call 78; refine (length32_any _ _ _ _).mono ?_; rintro _ _ ⟨rfl, rfl⟩) | (go_at_call 148; refine (isFinite64_any _ _ _ (by assumption) (by first | assumption | rfl) _).mono ?_; rintro _ _ ⟨rfl, n, rfl⟩) | (go_at_call 99; refine (isFinite_any _ _ _ (by first | assumption | exact is_ofInt _ _ | exact is_self) (by first | assumption | rfl) _).mono ?_; rintro _ _ ⟨rfl, n, rfl⟩) | (go_at_call 97; refine (l01Finite_any _ _ _ (by first | assumption | exact is_ofInt _ _ | exact is_self) (by first | assumption | rfl) _).mono ?_; rintro _ _ ⟨rfl, n, rfl⟩))
  go_ret2
  exact givesO_none hn.out (by repeat (first | assumption | exact Ext.refl _ | apply Ext.drewN | apply Ext.alloc | (refine Ext.setCell ?_ (by first | assumption | exact Nat.le_refl _) _)))
set_option maxHeartbeats 2000000 in
theorem implEcho_no1 (ao : Option Addr) (cap : Nat) (xs : List Nat) (b s : Nat) (n : Int) (w : World) (hc : FR w ao xs) (hl : xs.length ≤ 1048576) (hb : Is .f32 b s) (_ : -9223372036854775808 ≤ n) (_ : n ≤ 9223372036854775807) (ht0 : areB (cl xs) = true) (ht1 : surfB s = false) :
    Calls Try.prog 35 #[.slice ao xs.length cap, .float .f32 b, .int .i64 n] w (GivesO (echoO (cl xs) s n) w) := by
  have hn : Hid (echoO (cl xs) s n = none) := by unfold Hid echoO; rw [ht0, ht1]; rfl
  go_enter Try.func35, Try.ntmps35
  go_wp2_with (first | (go_at_call 95; refine (are_any _ _ _ _ _ hc hl (by assumption)).mono ?_; rintro _ _ ⟨rfl, n1, rfl⟩) | (go_at_call 92; refine (isSurface_any _ _ _ hb (by assumption) _).mono ?_; rintro _ _ ⟨rfl, rfl⟩) | (go_at_call 77; refine (within_any _ _ _ _ (by first | assumption | rfl) _).mono ?_; rintro _ _ ⟨rfl, rfl⟩) | (go_at_call 90; refine (l00In_any _ _ _ _ (by first | assumption | rfl) _).mono ?_; rintro _ _ ⟨rfl, rfl⟩) | (go_at_call 96; refine (isCount_any _ _ (by first | assumption | rfl) _).mono ?_; rintro _ _ ⟨rfl, rfl⟩) | (go_at_call 88; refine (isTrace_any _ _ _ _ (by first | assumption | rfl) _).mono ?_; rintro _ _ ⟨rfl, rfl⟩) | (go_at_call 85; refine (l03Is_any _ _ _ _ (by first | assumption | rfl) (by omega) _).mono ?_; rintro _ _ ⟨rfl, rfl⟩) | (go_at_call 78; refine (length32_any _ _ _ _).mono ?_; rintro _ _ ⟨rfl, rfl⟩) | (go_at_call 148; refine (isFinite64_any _ _ _ (by assumption) (by first | assumption | rfl) _).mono ?_; rintro _ _ ⟨rfl, n, rfl⟩) | (go_at_call 99; refine (isFinite_any _ _ _ (by first | assumption | exact is_ofInt _ _ | exact is_self) (by first | assumption | rfl) _).mono ?_; rintro _ _ ⟨rfl, n, rfl⟩) | (go_at_call 97; refine (l01Finite_any _ _ _ (by first | assumption | exact is_ofInt _ _ | exact is_self) (by first | assumption | rfl) _).mono ?_; rintro _ _ ⟨rfl, n, rfl⟩))
  go_ret2
  exact givesO_none hn.out (by repeat (first | assumption | exact Ext.refl _ | apply Ext.drewN | apply Ext.alloc | (refine Ext.setCell ?_ (by first | assumption | exact Nat.le_refl _) _)))
set_option maxHeartbeats 2000000 in
theorem implEcho_no2 (ao : Option Addr) (cap : Nat) (xs : List Nat) (b s : Nat) (n : Int) (w : World) (hc : FR w ao xs) (hl : xs.length ≤ 1048576) (hb : Is .f32 b s) (_ : -9223372036854775808 ≤ n) (_ : n ≤ 9223372036854775807) (ht0 : areB (cl xs) = true) (ht1 : surfB s = true) (ht2 : inB n 1 128 = false) :
    Calls Try.prog 35 #[.slice ao xs.length cap, .float .f32 b, .int .i64 n] w (GivesO (echoO (cl xs) s n) w) := by
  have hn : Hid (echoO (cl xs) s n = none) := by unfold Hid echoO; rw [ht0, ht1, ht2]; rfl
  go_enter Try.func35, Try.ntmps35
  go_wp2_with (first | (go_at_call 95; refine (are_any _ _ _ _ _ hc hl (by assumption)).mono ?_; rintro _ _ ⟨rfl, n1, rfl⟩) | (go_at_call 92; refine (isSurface_any _ _ _ hb (by assumption) _).mono ?_; rintro _ _ ⟨rfl, rfl⟩) | (go_at_call 77; refine (within_any _ _ _ _ (by first | assumption | rfl) _).mono ?_; rintro _ _ ⟨rfl, rfl⟩) | (go_at_call 90; refine (l00In_any _ _ _ _ (by first | assumption | rfl) _).mono ?_; rintro _ _ ⟨rfl, rfl⟩) | (go_at_call 96; refine (isCount_any _ _ (by first | assumption | rfl) _).mono ?_; rintro _ _ ⟨rfl, rfl⟩) | (go_at_call 88; refine (isTrace_any _ _ _ _ (by first | assumption | rfl) _).mono ?_; rintro _ _ ⟨rfl, rfl⟩) | (go_at_call 85; refine (l03Is_any _ _ _ _ (by first | assumption | rfl) (by omega) _).mono ?_; rintro _ _ ⟨rfl, rfl⟩) | (go_at_call 78; refine (length32_any _ _ _ _).mono ?_; rintro _ _ ⟨rfl, rfl⟩) | (go_at_call 148; refine (isFinite64_any _ _ _ (by assumption) (by first | assumption | rfl) _).mono ?_; rintro _ _ ⟨rfl, n, rfl⟩) | (go_at_call 99; refine (isFinite_any _ _ _ (by first | assumption | exact is_ofInt _ _ | exact is_self) (by first | assumption | rfl) _).mono ?_; rintro _ _ ⟨rfl, n, rfl⟩) | (go_at_call 97; refine (l01Finite_any _ _ _ (by first | assumption | exact is_ofInt _ _ | exact is_self) (by first | assumption | rfl) _).mono ?_; rintro _ _ ⟨rfl, n, rfl⟩))
  go_ret2
  exact givesO_none hn.out (by repeat (first | assumption | exact Ext.refl _ | apply Ext.drewN | apply Ext.alloc | (refine Ext.setCell ?_ (by first | assumption | exact Nat.le_refl _) _)))
set_option maxHeartbeats 8000000 in
theorem implEcho_yes (ao : Option Addr) (cap : Nat) (xs : List Nat) (b s : Nat) (m : Nat) (w : World) (hc : FR w ao xs) (hl : xs.length ≤ 1048576) (hb : Is .f32 b s) (ht0 : areB (cl xs) = true) (ht1 : surfB s = true) (ht2 : inB (m : Int) 1 128 = true) :
    Calls Try.prog 35 #[.slice ao xs.length cap, .float .f32 b, .int .i64 (m : Int)] w (GivesO (echoO (cl xs) s (m : Int)) w) := by
  obtain ⟨i0, hi0, hz0, hs0, hb0⟩ := info_parts info32
  have hI2 := inB_yes ht2
  have h24 : 1 ≤ xs.length ∧ xs.length ≤ 24 := by
    have h := ht0
    unfold areB at h
    simp only [Bool.and_eq_true, cl_length] at h
    have := inB_yes h.1
    omega
  have hs : Hid (echoO (cl xs) s (m : Int) = some (tabP (echoG (cl xs) s) m)) := by unfold Hid echoO; rw [ht0, ht1, ht2]; rfl
  obtain ⟨bb, off, rfl, _⟩ := hc 0 (by omega)
  go_enter Try.func35, Try.ntmps35
  have hmk : ∀ w : World, (Instr.makeSlice 22 (.int .i64 ((xs.length : Int) + 1)) (.int .i64 ((xs.length : Int) + 1))).run Try.prog w = .ok (.slice (some ⟨w.heap.size, 0, none⟩) (xs.length + 1) (xs.length + 1)) (w.alloc (.cells (madeCells #[.float .f32 0] (xs.length + 1)) 34)) := fun w => by
    have h := run_make_row' (P := Try.prog) 22 34 (.float .f32 0) 4 Try.underlying22 info32 rfl .i64 .i64 (xs.length + 1) (by omega) (by omega) w
    rwa [show (((xs.length + 1 : Nat)) : Int) = (xs.length : Int) + 1 from by omega] at h
  go_wp2_with (first | (go_at_call 95; refine (are_any _ _ _ _ _ hc hl (by assumption)).mono ?_; rintro _ _ ⟨rfl, n1, rfl⟩) | (go_at_call 92; refine (isSurface_any _ _ _ hb (by assumption) _).mono ?_; rintro _ _ ⟨rfl, rfl⟩) | (go_at_call 77; refine (within_any _ _ _ _ (by first | assumption | rfl) _).mono ?_; rintro _ _ ⟨rfl, rfl⟩) | (go_at_call 90; refine (l00In_any _ _ _ _ (by first | assumption | rfl) _).mono ?_; rintro _ _ ⟨rfl, rfl⟩) | (go_at_call 96; refine (isCount_any _ _ (by first | assumption | rfl) _).mono ?_; rintro _ _ ⟨rfl, rfl⟩) | (go_at_call 88; refine (isTrace_any _ _ _ _ (by first | assumption | rfl) _).mono ?_; rintro _ _ ⟨rfl, rfl⟩) | (go_at_call 85; refine (l03Is_any _ _ _ _ (by first | assumption | rfl) (by omega) _).mono ?_; rintro _ _ ⟨rfl, rfl⟩) | (go_at_call 78; refine (length32_any _ _ _ _).mono ?_; rintro _ _ ⟨rfl, rfl⟩) | (go_at_call 148; refine (isFinite64_any _ _ _ (by assumption) (by first | assumption | rfl) _).mono ?_; rintro _ _ ⟨rfl, n, rfl⟩) | (go_at_call 99; refine (isFinite_any _ _ _ (by first | assumption | exact is_ofInt _ _ | exact is_self) (by first | assumption | rfl) _).mono ?_; rintro _ _ ⟨rfl, n, rfl⟩) | (go_at_call 97; refine (l01Finite_any _ _ _ (by first | assumption | exact is_ofInt _ _ | exact is_self) (by first | assumption | rfl) _).mono ?_; rintro _ _ ⟨rfl, n, rfl⟩))
  clear ht0 ht1 ht2
  go_region
  all_goals
    obtain ⟨F1, F2, FE, FS⟩ := two_made w (n1 + 1) (xs.length + 1) (by omega)
    generalize hA : (((w.drewN (n1 + 1)).alloc (.cells (madeCells #[.float .f32 0] (xs.length + 1)) 34)).alloc (.cells (madeCells #[.float .f32 0] (xs.length + 1)) 34)) = w2 at *
    clear hA
    obtain ⟨c1, f1⟩ := OwnF.at' F1 (k := 0) (by simp)
    obtain ⟨c2, f2⟩ := OwnF.at' F2 (k := 0) (by simp)
    go_wp2_with fail
    clear c1 f1 c2 f2
    go_loopw [9, 10, 11, 41] (fun dv uv ov i wr => ∃ (t : Nat) (ds us ys : List Nat) (gd gu : Nat) (oq : Value), t ≤ 2 * m ∧ i = .int .i64 t ∧ oq = ov ∧ dv = .slice (some ⟨gd, 0, none⟩) (xs.length + 1) (xs.length + 1) ∧ uv = .slice (some ⟨gu, 0, none⟩) (xs.length + 1) (xs.length + 1) ∧ OwnF wr w.heap.size (.slice (some ⟨gd, 0, none⟩) (xs.length + 1) (xs.length + 1)) ds ∧ OwnF wr w.heap.size (.slice (some ⟨gu, 0, none⟩) (xs.length + 1) (xs.length + 1)) us ∧ OwnF wr w.heap.size oq ys ∧ Hid (cl ds = (echoS (cl xs) s t).1) ∧ Hid (cl us = (echoS (cl xs) s t).2) ∧ Hid (cl ys = tabP (echoG (cl xs) s) (t / 2)) ∧ oq.ownBlock ≠ some gd ∧ oq.ownBlock ≠ some gu ∧ gd ≠ gu ∧ Ext w wr) (fun _ _ _ i _ => 2 * m - (intOf i).toNat)
    case atStart =>
      have z1 : ∀ ys : List Nat, ys = (List.replicate (xs.length + 1) 0).set 0 1065353216 → Hid (cl ys = (echoS (cl xs) s 0).1) := fun ys e => by
        unfold Hid
        rw [e, cl_set, cl_zeros]
        show _ = (List.replicate ((cl xs).length + 1) 0).set 0 _
        rw [cl_length]
      have z2 : Hid (cl (List.replicate (xs.length + 1) 0) = (echoS (cl xs) s 0).2) := by
        unfold Hid
        rw [cl_zeros]
        show _ = List.replicate ((cl xs).length + 1) 0
        rw [cl_length]
      first
        | exact ⟨0, _, _, [], w.heap.size, w.heap.size + 1, _, Nat.zero_le _, rfl, rfl, rfl, rfl, (F1.stored 0 1065353216).1, F2.chg (chg_setCell w2 w.heap.size 0 _) (fun q hq e => by have h1 := ownB hq; have h2 : q = w.heap.size := e; omega), OwnF.nil _ _, z1 _ rfl, z2, rfl, (fun e => by cases e), (fun e => by cases e), by omega, Chg.ext FE (chg_setCell w2 w.heap.size 0 _) (fun q e => by have h2 : q = w.heap.size := e; omega)⟩
        | exact ⟨0, _, _, [], w.heap.size + 1, w.heap.size, _, Nat.zero_le _, rfl, rfl, rfl, rfl, (F2.stored 0 1065353216).1, F1.chg (chg_setCell w2 (w.heap.size + 1) 0 _) (fun q hq e => by have h1 := ownB hq; have h2 : q = w.heap.size + 1 := e; omega), OwnF.nil _ _, z1 _ rfl, z2, rfl, (fun e => by cases e), (fun e => by cases e), by omega, Chg.ext FE (chg_setCell w2 (w.heap.size + 1) 0 _) (fun q e => by have h2 : q = w.heap.size + 1 := e; omega)⟩
    case round =>
      clear F1 F2 FE FS
      obtain ⟨t, ds, us, ys, gd, gu, ov, ht, rfl, rfl, rfl, rfl, hD, hU, hO, hdd, huu, hyy, hod, hou, hgg, hE⟩ := hrel
      have hdsl : Hid (ds.length = xs.length + 1) := by unfold Hid; rw [← cl_length ds, hdd.out, echo_len1, cl_length]
      have husl : Hid (us.length = xs.length + 1) := by unfold Hid; rw [← cl_length us, huu.out, echo_len2, cl_length]
      have hgd := hD.lt gd rfl
      have hgu := hU.lt gu rfl
      have hsE := hE.size
      by_cases hlt0 : t < 2 * m
      · have hyl : ys.length ≤ 128 := by rw [← cl_length, hyy.out, tabP_len]; omega
        go_wp2_with fail
        go_region
        · obtain ⟨F1, F2, FE, FS⟩ := two_made1 wr (xs.length + 1) (by omega)
          generalize hA : ((wr.alloc (.cells (madeCells #[.float .f32 0] (xs.length + 1)) 34)).alloc (.cells (madeCells #[.float .f32 0] (xs.length + 1)) 34)).drew = w5 at *
          clear hA
          have hD5 := hD.ext FE
          have hU5 := hU.ext FE
          have hO5 := hO.ext FE
          have hE5 := hE.trans FE
          have hbl : ∀ q, ov.ownBlock = some q → q < wr.heap.size := fun q hq => (hO.lt q hq).2
          have hDn5 := F1.mono (base' := w.heap.size) (by omega)
          have hUp5 := F2.mono (base' := w.heap.size) (by omega)
          have hn5 : ov.ownBlock ≠ some (wr.heap.size) := fun e => by have := hbl _ e; omega
          have hp5 : ov.ownBlock ≠ some (wr.heap.size + 1) := fun e => by have := hbl _ e; omega
          clear F1 F2 FE hO hD hU
          generalize hG1 : wr.heap.size + 1 = gp at *
          generalize hG0 : wr.heap.size = gn at *
          have hgn : w.heap.size ≤ gn ∧ gd ≠ gn ∧ gu ≠ gn ∧ gn ≠ gp ∧ gn < w5.heap.size := by omega
          have hgp : w.heap.size ≤ gp ∧ gd ≠ gp ∧ gu ≠ gp ∧ gp < w5.heap.size := by omega
          have hgnp : gn ≠ gp := by omega
          go_wp2_with fail
          rw [show decide ((t : Int) < 2 * (m : Int)) = true from decide_eq_true (by omega)]
          go_loopw [50] (fun i wr => ∃ (k : Nat) (dl ul : List Nat), k ≤ xs.length ∧ i = .int .i64 k ∧ OwnF wr w.heap.size (.slice (some ⟨gn, 0, none⟩) (xs.length + 1) (xs.length + 1)) dl ∧ Hid (dl.length = xs.length + 1) ∧ Hid (cl dl = tabP (dn0 (cl xs) (cl ds) (cl us)) (k + 1) ++ List.drop (k + 1) (List.replicate (xs.length + 1) 0)) ∧ OwnF wr w.heap.size (.slice (some ⟨gp, 0, none⟩) (xs.length + 1) (xs.length + 1)) ul ∧ Hid (ul.length = xs.length + 1) ∧ Hid (cl ul = tabP (upF (cl xs) (cl ds) (cl us)) k ++ List.drop k (List.replicate (xs.length + 1) 0)) ∧ Chg (fun q => q = gn ∨ q = gp) w5 wr) (fun i _ => xs.length - (intOf i).toNat)
          case atStart => exact ⟨0, _, _, Nat.zero_le _, rfl, hDn5, by simp [Hid], dn_start _ _ _ _ (cl_zeros _), hUp5, by simp [Hid], set_start _ _ (cl_zeros _), Chg.refl _ _⟩
          case round =>
            obtain ⟨k, dl, ul, hk, rfl, hDn, hdl, hdc, hUp, hul, huc, hC⟩ := hrel
            have hEr : Ext w wr := Chg.ext hE5 hC (fun q hq => by rcases hq with rfl | rfl <;> omega)
            have hDr := hD5.chg hC (fun q hq e => by have h1 := ownB hq; rcases e with e | e <;> omega)
            have hUr := hU5.chg hC (fun q hq e => by have h1 := ownB hq; rcases e with e | e <;> omega)
            by_cases hlt : k < xs.length
            · obtain ⟨hcd, _⟩ := OwnF.at' hDr (k := k) (by rw [hdsl.out]; omega)
              obtain ⟨hcu, _⟩ := OwnF.at' hUr (k := k + 1) (by rw [husl.out]; omega)
              obtain ⟨hcp, hfp⟩ := OwnF.at' hUp (k := k) (by rw [hul.out]; omega)
              have hcx := FR.cellW hc hlt wr hEr
              have iX := is_el hlt
              have iD : Is .f32 (el ds k) (el (cl ds) k) := is_el (by rw [hdsl.out]; omega)
              have iU : Is .f32 (el us (k + 1)) (el (cl us) (k + 1)) := is_el (by rw [husl.out]; omega)
              have HP : Hid (upF (cl xs) (cl ds) (cl us) k = fop .add .f32 (fop .mul .f32 (el (cl xs) k) (el (cl ds) k)) (fop .mul .f32 (fop .sub .f32 (canon .f32 1065353216) (el (cl xs) k)) (el (cl us) (k + 1)))) := by unfold Hid upF; rw [if_pos (by rw [cl_length]; exact hlt)]
              go_wp2
              have e1 : IntKind.i64.wrap ((k : Int) + 1) = (k : Int) + 1 := IntWalk.i64_in _ (by omega)
              have e2 : (0 : Int) ≤ (k : Int) + 1 := by omega
              have e3 : ((k : Int) + 1).toNat = k + 1 := by omega
              have e4 : (k : Int) + 1 < (xs.length : Int) + 1 := by omega
              have e5 : (k : Int) < (xs.length : Int) + 1 := by omega
              have e6 : (k : Int) < (xs.length : Int) := by omega
              refine wp_region_mix (ownU [6, 14] (Drawn wr) (fun _ => True)) (fun i => i == 18) (fun _ _ => True) (by kernel_rfl) (by kernel_rfl) (by kernel_rfl) (ownU_drew (drawn_more _) (fun _ _ _ => trivial)) (ownU_all (drawn_self _) trivial) (fun n0 => ?_)
              repeat (first
          | (refine lx_nil ?_; intro nq)
          | (refine lx_skip rfl ?_; go_simp)
          | (refine lx_move rfl rfl rfl rfl ?_; go_simp)
          | (refine lx_assign rfl rfl rfl rfl ?_; go_simp)
          | (refine lx_bin rfl rfl rfl rfl rfl rfl (by first | assumption | exact is_ofInt _ _ | exact is_self) (by first | assumption | exact is_ofInt _ _ | exact is_self) ?_; intro r hr; go_simp)
          | (refine lx_val rfl rfl (fun w' _ => by go_simp; rfl) ?_; go_simp)
          | (refine lx_val rfl rfl (fun w' hw' => by (obtain ⟨mm, rfl⟩ : Drawn wr w' := hw'); go_simp; rfl) ?_; go_simp))
              refine lx_effS rfl rfl (fun n => by go_simp; rfl) (fun n => ownU_aft (by kernel_rfl) trivial) (fun n1 => ?_)
              have HR1 := Lib.hid hr
              clear hr
              go_simp
              refine lx_nilG (fun w' => OwnF w' w.heap.size (.slice (some ⟨gp, 0, none⟩) (xs.length + 1) (xs.length + 1)) (ul.set k r) ∧ Chg (fun q => q = gp) wr w') (fun n => ⟨(hUp.stored k r).1, chg_setCellD wr gp k _ _ n⟩) ?_
              rintro w6 ⟨hUp6, hC6⟩
              have hEr6 : Ext w w6 := Chg.ext hEr hC6 (fun q hq => by have h2 : q = gp := hq; omega)
              have hDn6 := hDn.chg hC6 (fun q hq e => by have h1 := ownB hq; have h2 : q = gp := e; omega)
              obtain ⟨hcd6, _⟩ := OwnF.at' (hDr.chg hC6 (fun q hq e => by have h1 := ownB hq; have h2 : q = gp := e; omega)) (k := k) (by rw [hdsl.out]; omega)
              obtain ⟨hcu6, _⟩ := OwnF.at' (hUr.chg hC6 (fun q hq e => by have h1 := ownB hq; have h2 : q = gp := e; omega)) (k := k + 1) (by rw [husl.out]; omega)
              obtain ⟨hcn6, hfn6⟩ := OwnF.at' hDn6 (k := k + 1) (by rw [hdl.out]; omega)
              have hcx6 := FR.cellW hc hlt w6 hEr6
              clear hcd hcu hcp hfp hcx
              go_wp2
              refine wp_region_mix (ownU [8, 15] (Drawn w6) (fun _ => True)) (fun i => i == 19) (fun _ _ => True) (by kernel_rfl) (by kernel_rfl) (by kernel_rfl) (ownU_drew (drawn_more _) (fun _ _ _ => trivial)) (ownU_all (drawn_self _) trivial) (fun n0 => ?_)
              repeat (first
          | (refine lx_nil ?_; intro nq)
          | (refine lx_skip rfl ?_; go_simp)
          | (refine lx_move rfl rfl rfl rfl ?_; go_simp)
          | (refine lx_assign rfl rfl rfl rfl ?_; go_simp)
          | (refine lx_bin rfl rfl rfl rfl rfl rfl (by first | assumption | exact is_ofInt _ _ | exact is_self) (by first | assumption | exact is_ofInt _ _ | exact is_self) ?_; intro r hr; go_simp)
          | (refine lx_val rfl rfl (fun w' _ => by go_simp; rfl) ?_; go_simp)
          | (refine lx_val rfl rfl (fun w' hw' => by (obtain ⟨mm, rfl⟩ : Drawn w6 w' := hw'); go_simp; rfl) ?_; go_simp))
              refine lx_effS rfl rfl (fun n => by go_simp; rfl) (fun n => ownU_aft (by kernel_rfl) trivial) (fun n1 => ?_)
              have HR2 := Lib.hid hr
              clear hr
              go_simp
              refine lx_nilG (fun w' => OwnF w' w.heap.size (.slice (some ⟨gn, 0, none⟩) (xs.length + 1) (xs.length + 1)) (dl.set (k + 1) r) ∧ Chg (fun q => q = gn) w6 w') (fun n => ⟨(hDn6.stored (k + 1) r).1, chg_setCellD w6 gn (k + 1) _ _ n⟩) ?_
              rintro w7 ⟨hDn7, hC7⟩
              clear e1 e2 e3 e4 e5 e6
              have hUp7 := hUp6.chg hC7 (fun q hq e => by have h1 := ownB hq; have h2 : q = gn := e; omega)
              have hC' : Chg (fun q => q = gn ∨ q = gp) w5 w7 := (hC.trans (hC6.mono fun q => .inr)).trans (hC7.mono fun q => .inl)
              go_wp2
              go_roundw
              case rel => exact ⟨k + 1, _, _, by omega, by go_num, hDn7, by unfold Hid; rw [List.length_set]; exact hdl.out, set_step hdc.out (by simp; omega) (by exact HR2.out), hUp7, by unfold Hid; rw [List.length_set]; exact hul.out, set_step huc.out (by simp; omega) (by rw [HP.out]; exact HR1.out), hC'⟩
              case measure => simp [intOf]; omega
            · obtain rfl : xs.length = k := by omega
              have HU2 := Lib.hid (up_done _ _ _ (by rw [cl_length]; exact huc.out))
              have HD2 : Hid (cl dl = tabP (dn0 (cl xs) (cl ds) (cl us)) ((cl xs).length + 1)) := by unfold Hid; rw [hdc.out, cl_length, List.drop_of_length_le (by simp), List.append_nil]
              obtain ⟨hcu, _⟩ := OwnF.at' hUr (k := 0) (by rw [husl.out]; omega)
              obtain ⟨hcn, hfn⟩ := OwnF.at' hDn (k := 0) (by rw [hdl.out]; omega)
              have iU : Is .f32 (el us 0) (el (cl us) 0) := is_el (by rw [husl.out]; omega)
              have hOr := hO5.chg hC (fun q hq e => by rcases e with rfl | rfl <;> first | exact hn5 hq | exact hp5 hq)
              have hsc := hC.size
              by_cases hpar : t % 2 = 1
              · have iU0 : Is .f32 (el us 0) (el (cl us) 0) := iU
                go_wp2_with (first | (refine wl_neg rfl rfl rfl (by first | assumption | exact is_ofInt _ _ | exact is_self) ?_; intro r2 hr2; (have HS := Lib.hid (fun n' : Nat => (hDn.stored 0 r2).1.drewN n')); (have HC := Lib.hid (fun n' : Nat => chg_setCellE wr gn 0 (.float .f32 r2) n')); (have HR := Lib.hid hr2); clear hr2) | (at_builtin; go_loud (refine wl_append1K w rfl Try.underlying22 hi0 hz0 hs0 hb0 rfl rfl rfl ((hOr.chg (HC.out _) (fun q hq e => by have h2 : q = gn := e; subst h2; exact hn5 hq)).alloc _) ((Chg.ext hEr (HC.out _) (fun q e => by have h2 : q = gn := e; omega)).alloc _) (by omega) (by first | exact cell_new _ _ _ | exact cell_newD _ _ _ _ | exact cell_newS _ _ _ _ _ _) ?_); intro v9 w9 hO9 hE9 hC9 hb9) | (refine wl_bin rfl rfl rfl rfl rfl (by first | assumption | exact is_ofInt _ _ | exact is_self) (by first | assumption | exact is_ofInt _ _ | exact is_self) ?_; intro r n hr) | (refine wl_cmp rfl rfl rfl rfl rfl (by first | assumption | exact is_ofInt _ _ | exact is_self) (by first | assumption | exact is_ofInt _ _ | exact is_self) (by first | assumption | rfl) ?_) | (refine wl_widen rfl rfl rfl (by first | exact rfl | kernel_rfl) (by kernel_rfl) (by first | assumption | exact is_ofInt _ _ | exact is_self) ?_; intro r n hr) | (refine wl_neg rfl rfl rfl (by first | assumption | exact is_ofInt _ _ | exact is_self) ?_; intro r hr))
                have HK1 : ∀ q, q = gn ∨ q = gp → ov.ownBlock ≠ some q := fun q hq e => by
                  rcases hq with hq | hq
                  · subst hq; exact hn5 e
                  · subst hq; exact hp5 e
                have hy9 := echo_app (r := cl xs) (s := s) hyy.out hpar (by rw [← huu.out]; exact iU0)
                have hb' : ∀ q, q = gn ∨ q = gp → v9.ownBlock ≠ some q := fun q hq e => by
                  rcases hb9 with h | h
                  · rw [h] at e; exact HK1 q hq e
                  · rw [h] at e
                    have h1 := Option.some.inj e
                    rw [size_alloc] at h1
                    have h3 := (HC.out 0).size
                    have h4 : wr.heap.size ≤ q := by rw [← h1]; refine Nat.le_trans ?_ (Nat.le_succ _); first | exact h3 | (simp)
                    rcases hq with hq | hq <;> omega
                go_wp2_with fail
                go_roundw
                case rel => exact ⟨t + 1, _, _, _, gn, gp, _, by omega, by go_num, rfl, rfl, rfl, ((HS.out _).alloc _).chg hC9 (fun q hq e => by have h1 := ownB hq; subst h1; exact hn5 e), ((hUp.chg (HC.out _) (fun q hq e => by have h1 := ownB hq; have h2 : q = gn := e; omega)).alloc _).chg hC9 (fun q hq e => by have h1 := ownB hq; subst h1; exact hp5 e), hO9, by unfold Hid; rw [echo_s1, ← hdd.out, ← huu.out]; exact dn_done _ _ _ _ HD2.out HR.out, by unfold Hid; rw [echo_s2, ← hdd.out, ← huu.out]; exact HU2.out, hy9, hb' gn (.inl rfl), hb' gp (.inr rfl), hgnp, hE9⟩
                case measure => simp [intOf]; omega
              · go_wp2_with (first | (refine wl_neg rfl rfl rfl (by first | assumption | exact is_ofInt _ _ | exact is_self) ?_; intro r2 hr2; (have HS := Lib.hid (fun n' : Nat => (hDn.stored 0 r2).1.drewN n')); (have HC := Lib.hid (fun n' : Nat => chg_setCellE wr gn 0 (.float .f32 r2) n')); (have HR := Lib.hid hr2); clear hr2) | (refine wl_bin rfl rfl rfl rfl rfl (by first | assumption | exact is_ofInt _ _ | exact is_self) (by first | assumption | exact is_ofInt _ _ | exact is_self) ?_; intro r n hr) | (refine wl_cmp rfl rfl rfl rfl rfl (by first | assumption | exact is_ofInt _ _ | exact is_self) (by first | assumption | exact is_ofInt _ _ | exact is_self) (by first | assumption | rfl) ?_) | (refine wl_widen rfl rfl rfl (by first | exact rfl | kernel_rfl) (by kernel_rfl) (by first | assumption | exact is_ofInt _ _ | exact is_self) ?_; intro r n hr) | (refine wl_neg rfl rfl rfl (by first | assumption | exact is_ofInt _ _ | exact is_self) ?_; intro r hr))
                go_roundw
                case rel => exact ⟨t + 1, _, _, _, gn, gp, _, by omega, by go_num, rfl, rfl, rfl, HS.out _, hUp.chg (HC.out _) (fun q hq e => by have h1 := ownB hq; have h2 : q = gn := e; omega), hOr.chg (HC.out _) (fun q hq e => by have h2 : q = gn := e; subst h2; exact hn5 hq), by unfold Hid; rw [echo_s1, ← hdd.out, ← huu.out]; exact dn_done _ _ _ _ HD2.out HR.out, by unfold Hid; rw [echo_s2, ← hdd.out, ← huu.out]; exact HU2.out, (by unfold Hid; rw [echo_even t (by omega)]; exact hyy.out), hn5, hp5, hgnp, Chg.ext hEr (HC.out _) (fun q e => by have h2 : q = gn := e; omega)⟩
                case measure => simp [intOf]; omega
        · obtain ⟨F1, F2, FE, FS⟩ := two_made1 wr (xs.length + 1) (by omega)
          generalize hA : ((wr.alloc (.cells (madeCells #[.float .f32 0] (xs.length + 1)) 34)).alloc (.cells (madeCells #[.float .f32 0] (xs.length + 1)) 34)).drew = w5 at *
          clear hA
          have hD5 := hD.ext FE
          have hU5 := hU.ext FE
          have hO5 := hO.ext FE
          have hE5 := hE.trans FE
          have hbl : ∀ q, ov.ownBlock = some q → q < wr.heap.size := fun q hq => (hO.lt q hq).2
          have hDn5 := F2.mono (base' := w.heap.size) (by omega)
          have hUp5 := F1.mono (base' := w.heap.size) (by omega)
          have hn5 : ov.ownBlock ≠ some (wr.heap.size + 1) := fun e => by have := hbl _ e; omega
          have hp5 : ov.ownBlock ≠ some (wr.heap.size) := fun e => by have := hbl _ e; omega
          clear F1 F2 FE hO hD hU
          generalize hG1 : wr.heap.size + 1 = gn at *
          generalize hG0 : wr.heap.size = gp at *
          have hgn : w.heap.size ≤ gn ∧ gd ≠ gn ∧ gu ≠ gn ∧ gn ≠ gp ∧ gn < w5.heap.size := by omega
          have hgp : w.heap.size ≤ gp ∧ gd ≠ gp ∧ gu ≠ gp ∧ gp < w5.heap.size := by omega
          have hgnp : gn ≠ gp := by omega
          go_wp2_with fail
          rw [show decide ((t : Int) < 2 * (m : Int)) = true from decide_eq_true (by omega)]
          go_loopw [50] (fun i wr => ∃ (k : Nat) (dl ul : List Nat), k ≤ xs.length ∧ i = .int .i64 k ∧ OwnF wr w.heap.size (.slice (some ⟨gn, 0, none⟩) (xs.length + 1) (xs.length + 1)) dl ∧ Hid (dl.length = xs.length + 1) ∧ Hid (cl dl = tabP (dn0 (cl xs) (cl ds) (cl us)) (k + 1) ++ List.drop (k + 1) (List.replicate (xs.length + 1) 0)) ∧ OwnF wr w.heap.size (.slice (some ⟨gp, 0, none⟩) (xs.length + 1) (xs.length + 1)) ul ∧ Hid (ul.length = xs.length + 1) ∧ Hid (cl ul = tabP (upF (cl xs) (cl ds) (cl us)) k ++ List.drop k (List.replicate (xs.length + 1) 0)) ∧ Chg (fun q => q = gn ∨ q = gp) w5 wr) (fun i _ => xs.length - (intOf i).toNat)
          case atStart => exact ⟨0, _, _, Nat.zero_le _, rfl, hDn5, by simp [Hid], dn_start _ _ _ _ (cl_zeros _), hUp5, by simp [Hid], set_start _ _ (cl_zeros _), Chg.refl _ _⟩
          case round =>
            obtain ⟨k, dl, ul, hk, rfl, hDn, hdl, hdc, hUp, hul, huc, hC⟩ := hrel
            have hEr : Ext w wr := Chg.ext hE5 hC (fun q hq => by rcases hq with rfl | rfl <;> omega)
            have hDr := hD5.chg hC (fun q hq e => by have h1 := ownB hq; rcases e with e | e <;> omega)
            have hUr := hU5.chg hC (fun q hq e => by have h1 := ownB hq; rcases e with e | e <;> omega)
            by_cases hlt : k < xs.length
            · obtain ⟨hcd, _⟩ := OwnF.at' hDr (k := k) (by rw [hdsl.out]; omega)
              obtain ⟨hcu, _⟩ := OwnF.at' hUr (k := k + 1) (by rw [husl.out]; omega)
              obtain ⟨hcp, hfp⟩ := OwnF.at' hUp (k := k) (by rw [hul.out]; omega)
              have hcx := FR.cellW hc hlt wr hEr
              have iX := is_el hlt
              have iD : Is .f32 (el ds k) (el (cl ds) k) := is_el (by rw [hdsl.out]; omega)
              have iU : Is .f32 (el us (k + 1)) (el (cl us) (k + 1)) := is_el (by rw [husl.out]; omega)
              have HP : Hid (upF (cl xs) (cl ds) (cl us) k = fop .add .f32 (fop .mul .f32 (el (cl xs) k) (el (cl ds) k)) (fop .mul .f32 (fop .sub .f32 (canon .f32 1065353216) (el (cl xs) k)) (el (cl us) (k + 1)))) := by unfold Hid upF; rw [if_pos (by rw [cl_length]; exact hlt)]
              go_wp2
              have e1 : IntKind.i64.wrap ((k : Int) + 1) = (k : Int) + 1 := IntWalk.i64_in _ (by omega)
              have e2 : (0 : Int) ≤ (k : Int) + 1 := by omega
              have e3 : ((k : Int) + 1).toNat = k + 1 := by omega
              have e4 : (k : Int) + 1 < (xs.length : Int) + 1 := by omega
              have e5 : (k : Int) < (xs.length : Int) + 1 := by omega
              have e6 : (k : Int) < (xs.length : Int) := by omega
              refine wp_region_mix (ownU [6, 14] (Drawn wr) (fun _ => True)) (fun i => i == 18) (fun _ _ => True) (by kernel_rfl) (by kernel_rfl) (by kernel_rfl) (ownU_drew (drawn_more _) (fun _ _ _ => trivial)) (ownU_all (drawn_self _) trivial) (fun n0 => ?_)
              repeat (first
          | (refine lx_nil ?_; intro nq)
          | (refine lx_skip rfl ?_; go_simp)
          | (refine lx_move rfl rfl rfl rfl ?_; go_simp)
          | (refine lx_assign rfl rfl rfl rfl ?_; go_simp)
          | (refine lx_bin rfl rfl rfl rfl rfl rfl (by first | assumption | exact is_ofInt _ _ | exact is_self) (by first | assumption | exact is_ofInt _ _ | exact is_self) ?_; intro r hr; go_simp)
          | (refine lx_val rfl rfl (fun w' _ => by go_simp; rfl) ?_; go_simp)
          | (refine lx_val rfl rfl (fun w' hw' => by (obtain ⟨mm, rfl⟩ : Drawn wr w' := hw'); go_simp; rfl) ?_; go_simp))
              refine lx_effS rfl rfl (fun n => by go_simp; rfl) (fun n => ownU_aft (by kernel_rfl) trivial) (fun n1 => ?_)
              have HR1 := Lib.hid hr
              clear hr
              go_simp
              refine lx_nilG (fun w' => OwnF w' w.heap.size (.slice (some ⟨gp, 0, none⟩) (xs.length + 1) (xs.length + 1)) (ul.set k r) ∧ Chg (fun q => q = gp) wr w') (fun n => ⟨(hUp.stored k r).1, chg_setCellD wr gp k _ _ n⟩) ?_
              rintro w6 ⟨hUp6, hC6⟩
              have hEr6 : Ext w w6 := Chg.ext hEr hC6 (fun q hq => by have h2 : q = gp := hq; omega)
              have hDn6 := hDn.chg hC6 (fun q hq e => by have h1 := ownB hq; have h2 : q = gp := e; omega)
              obtain ⟨hcd6, _⟩ := OwnF.at' (hDr.chg hC6 (fun q hq e => by have h1 := ownB hq; have h2 : q = gp := e; omega)) (k := k) (by rw [hdsl.out]; omega)
              obtain ⟨hcu6, _⟩ := OwnF.at' (hUr.chg hC6 (fun q hq e => by have h1 := ownB hq; have h2 : q = gp := e; omega)) (k := k + 1) (by rw [husl.out]; omega)
              obtain ⟨hcn6, hfn6⟩ := OwnF.at' hDn6 (k := k + 1) (by rw [hdl.out]; omega)
              have hcx6 := FR.cellW hc hlt w6 hEr6
              clear hcd hcu hcp hfp hcx
              go_wp2
              refine wp_region_mix (ownU [8, 15] (Drawn w6) (fun _ => True)) (fun i => i == 19) (fun _ _ => True) (by kernel_rfl) (by kernel_rfl) (by kernel_rfl) (ownU_drew (drawn_more _) (fun _ _ _ => trivial)) (ownU_all (drawn_self _) trivial) (fun n0 => ?_)
              repeat (first
          | (refine lx_nil ?_; intro nq)
          | (refine lx_skip rfl ?_; go_simp)
          | (refine lx_move rfl rfl rfl rfl ?_; go_simp)
          | (refine lx_assign rfl rfl rfl rfl ?_; go_simp)
          | (refine lx_bin rfl rfl rfl rfl rfl rfl (by first | assumption | exact is_ofInt _ _ | exact is_self) (by first | assumption | exact is_ofInt _ _ | exact is_self) ?_; intro r hr; go_simp)
          | (refine lx_val rfl rfl (fun w' _ => by go_simp; rfl) ?_; go_simp)
          | (refine lx_val rfl rfl (fun w' hw' => by (obtain ⟨mm, rfl⟩ : Drawn w6 w' := hw'); go_simp; rfl) ?_; go_simp))
              refine lx_effS rfl rfl (fun n => by go_simp; rfl) (fun n => ownU_aft (by kernel_rfl) trivial) (fun n1 => ?_)
              have HR2 := Lib.hid hr
              clear hr
              go_simp
              refine lx_nilG (fun w' => OwnF w' w.heap.size (.slice (some ⟨gn, 0, none⟩) (xs.length + 1) (xs.length + 1)) (dl.set (k + 1) r) ∧ Chg (fun q => q = gn) w6 w') (fun n => ⟨(hDn6.stored (k + 1) r).1, chg_setCellD w6 gn (k + 1) _ _ n⟩) ?_
              rintro w7 ⟨hDn7, hC7⟩
              clear e1 e2 e3 e4 e5 e6
              have hUp7 := hUp6.chg hC7 (fun q hq e => by have h1 := ownB hq; have h2 : q = gn := e; omega)
              have hC' : Chg (fun q => q = gn ∨ q = gp) w5 w7 := (hC.trans (hC6.mono fun q => .inr)).trans (hC7.mono fun q => .inl)
              go_wp2
              go_roundw
              case rel => exact ⟨k + 1, _, _, by omega, by go_num, hDn7, by unfold Hid; rw [List.length_set]; exact hdl.out, set_step hdc.out (by simp; omega) (by exact HR2.out), hUp7, by unfold Hid; rw [List.length_set]; exact hul.out, set_step huc.out (by simp; omega) (by rw [HP.out]; exact HR1.out), hC'⟩
              case measure => simp [intOf]; omega
            · obtain rfl : xs.length = k := by omega
              have HU2 := Lib.hid (up_done _ _ _ (by rw [cl_length]; exact huc.out))
              have HD2 : Hid (cl dl = tabP (dn0 (cl xs) (cl ds) (cl us)) ((cl xs).length + 1)) := by unfold Hid; rw [hdc.out, cl_length, List.drop_of_length_le (by simp), List.append_nil]
              obtain ⟨hcu, _⟩ := OwnF.at' hUr (k := 0) (by rw [husl.out]; omega)
              obtain ⟨hcn, hfn⟩ := OwnF.at' hDn (k := 0) (by rw [hdl.out]; omega)
              have iU : Is .f32 (el us 0) (el (cl us) 0) := is_el (by rw [husl.out]; omega)
              have hOr := hO5.chg hC (fun q hq e => by rcases e with rfl | rfl <;> first | exact hn5 hq | exact hp5 hq)
              have hsc := hC.size
              by_cases hpar : t % 2 = 1
              · have iU0 : Is .f32 (el us 0) (el (cl us) 0) := iU
                go_wp2_with (first | (refine wl_neg rfl rfl rfl (by first | assumption | exact is_ofInt _ _ | exact is_self) ?_; intro r2 hr2; (have HS := Lib.hid (fun n' : Nat => (hDn.stored 0 r2).1.drewN n')); (have HC := Lib.hid (fun n' : Nat => chg_setCellE wr gn 0 (.float .f32 r2) n')); (have HR := Lib.hid hr2); clear hr2) | (at_builtin; go_loud (refine wl_append1K w rfl Try.underlying22 hi0 hz0 hs0 hb0 rfl rfl rfl ((hOr.chg (HC.out _) (fun q hq e => by have h2 : q = gn := e; subst h2; exact hn5 hq)).alloc _) ((Chg.ext hEr (HC.out _) (fun q e => by have h2 : q = gn := e; omega)).alloc _) (by omega) (by first | exact cell_new _ _ _ | exact cell_newD _ _ _ _ | exact cell_newS _ _ _ _ _ _) ?_); intro v9 w9 hO9 hE9 hC9 hb9) | (refine wl_bin rfl rfl rfl rfl rfl (by first | assumption | exact is_ofInt _ _ | exact is_self) (by first | assumption | exact is_ofInt _ _ | exact is_self) ?_; intro r n hr) | (refine wl_cmp rfl rfl rfl rfl rfl (by first | assumption | exact is_ofInt _ _ | exact is_self) (by first | assumption | exact is_ofInt _ _ | exact is_self) (by first | assumption | rfl) ?_) | (refine wl_widen rfl rfl rfl (by first | exact rfl | kernel_rfl) (by kernel_rfl) (by first | assumption | exact is_ofInt _ _ | exact is_self) ?_; intro r n hr) | (refine wl_neg rfl rfl rfl (by first | assumption | exact is_ofInt _ _ | exact is_self) ?_; intro r hr))
                have HK1 : ∀ q, q = gn ∨ q = gp → ov.ownBlock ≠ some q := fun q hq e => by
                  rcases hq with hq | hq
                  · subst hq; exact hn5 e
                  · subst hq; exact hp5 e
                have hy9 := echo_app (r := cl xs) (s := s) hyy.out hpar (by rw [← huu.out]; exact iU0)
                have hb' : ∀ q, q = gn ∨ q = gp → v9.ownBlock ≠ some q := fun q hq e => by
                  rcases hb9 with h | h
                  · rw [h] at e; exact HK1 q hq e
                  · rw [h] at e
                    have h1 := Option.some.inj e
                    rw [size_alloc] at h1
                    have h3 := (HC.out 0).size
                    have h4 : wr.heap.size ≤ q := by rw [← h1]; refine Nat.le_trans ?_ (Nat.le_succ _); first | exact h3 | (simp)
                    rcases hq with hq | hq <;> omega
                go_wp2_with fail
                go_roundw
                case rel => exact ⟨t + 1, _, _, _, gn, gp, _, by omega, by go_num, rfl, rfl, rfl, ((HS.out _).alloc _).chg hC9 (fun q hq e => by have h1 := ownB hq; subst h1; exact hn5 e), ((hUp.chg (HC.out _) (fun q hq e => by have h1 := ownB hq; have h2 : q = gn := e; omega)).alloc _).chg hC9 (fun q hq e => by have h1 := ownB hq; subst h1; exact hp5 e), hO9, by unfold Hid; rw [echo_s1, ← hdd.out, ← huu.out]; exact dn_done _ _ _ _ HD2.out HR.out, by unfold Hid; rw [echo_s2, ← hdd.out, ← huu.out]; exact HU2.out, hy9, hb' gn (.inl rfl), hb' gp (.inr rfl), hgnp, hE9⟩
                case measure => simp [intOf]; omega
              · go_wp2_with (first | (refine wl_neg rfl rfl rfl (by first | assumption | exact is_ofInt _ _ | exact is_self) ?_; intro r2 hr2; (have HS := Lib.hid (fun n' : Nat => (hDn.stored 0 r2).1.drewN n')); (have HC := Lib.hid (fun n' : Nat => chg_setCellE wr gn 0 (.float .f32 r2) n')); (have HR := Lib.hid hr2); clear hr2) | (refine wl_bin rfl rfl rfl rfl rfl (by first | assumption | exact is_ofInt _ _ | exact is_self) (by first | assumption | exact is_ofInt _ _ | exact is_self) ?_; intro r n hr) | (refine wl_cmp rfl rfl rfl rfl rfl (by first | assumption | exact is_ofInt _ _ | exact is_self) (by first | assumption | exact is_ofInt _ _ | exact is_self) (by first | assumption | rfl) ?_) | (refine wl_widen rfl rfl rfl (by first | exact rfl | kernel_rfl) (by kernel_rfl) (by first | assumption | exact is_ofInt _ _ | exact is_self) ?_; intro r n hr) | (refine wl_neg rfl rfl rfl (by first | assumption | exact is_ofInt _ _ | exact is_self) ?_; intro r hr))
                go_roundw
                case rel => exact ⟨t + 1, _, _, _, gn, gp, _, by omega, by go_num, rfl, rfl, rfl, HS.out _, hUp.chg (HC.out _) (fun q hq e => by have h1 := ownB hq; have h2 : q = gn := e; omega), hOr.chg (HC.out _) (fun q hq e => by have h2 : q = gn := e; subst h2; exact hn5 hq), by unfold Hid; rw [echo_s1, ← hdd.out, ← huu.out]; exact dn_done _ _ _ _ HD2.out HR.out, by unfold Hid; rw [echo_s2, ← hdd.out, ← huu.out]; exact HU2.out, (by unfold Hid; rw [echo_even t (by omega)]; exact hyy.out), hn5, hp5, hgnp, Chg.ext hEr (HC.out _) (fun q e => by have h2 : q = gn := e; omega)⟩
                case measure => simp [intOf]; omega
      · obtain rfl : t = 2 * m := by omega
        go_wp2_with fail
        go_ret2
        exact givesO_some hs.out hE hO (by rw [hyy.out, show 2 * m / 2 = m by omega])
theorem implEcho_any (ao : Option Addr) (cap : Nat) (xs : List Nat) (b s : Nat) (n : Int) (w : World) (hc : FR w ao xs) (hl : xs.length ≤ 1048576) (hb : Is .f32 b s) (h1 : -9223372036854775808 ≤ n) (h2 : n ≤ 9223372036854775807) :
    Calls Try.prog 35 #[.slice ao xs.length cap, .float .f32 b, .int .i64 n] w (GivesO (echoO (cl xs) s n) w) := by
  cases ht0 : areB (cl xs) with
  | false => exact implEcho_no0 _ _ _ _ _ _ _ hc hl hb h1 h2 ht0
  | true =>
  cases ht1 : surfB s with
  | false => exact implEcho_no1 _ _ _ _ _ _ _ hc hl hb h1 h2 ht0 ht1
  | true =>
  cases ht2 : inB n 1 128 with
  | false => exact implEcho_no2 _ _ _ _ _ _ _ hc hl hb h1 h2 ht0 ht1 ht2
  | true =>
    obtain ⟨m, rfl⟩ := Int.eq_ofNat_of_zero_le (show 0 ≤ n by have := inB_yes ht2; omega)
    exact implEcho_yes _ _ _ _ _ _ _ hc hl hb ht0 ht1 ht2
end Go.Proofs.Ytnjgcacnfobmiaa
