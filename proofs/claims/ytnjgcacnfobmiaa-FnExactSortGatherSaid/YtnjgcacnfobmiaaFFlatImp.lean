/- FlatGather: the program's good case. -/
import Derived.Test.YtnjgcacnfobmiaaFFlatYes
import Derived.Test.YtnjgcacnfobmiaaClone
namespace Go.Proofs.Ytnjgcacnfobmiaa
open Go.RowKit
set_option maxRecDepth 100000
set_option linter.unusedVariables false

set_option maxHeartbeats 1000000 in
theorem implFlat_yes (N : Nat) (ao : Option Addr) (cap : Nat) (xs : List Nat) (w : World) (hc : FR w ao xs) (hl : xs.length ≤ 1048576) (ht : inB (N : Int) 1 64 = true) (hp : (inB (xs.length : Int) 1 16 && allP (finK .f32) (cl xs) xs.length) = true) : Calls Try.prog 22 #[.int .i64 (N : Int), .slice ao xs.length cap] w (GivesHO (flatO N (cl xs)) w) := by
  obtain ⟨i0, hi0, hz0, hs0, hb0⟩ := info_parts info32
  obtain ⟨i1, hi1, hz1, hs1, hb24⟩ := info_parts infoS
  have hN : N ≤ 64 := by have := inB_yes ht; omega
  have h : Hid (flatO N (cl xs) = some ((N : Int), cl xs, List.replicate xs.length (List.replicate N 0))) := by unfold Hid flatO plB; rw [ht, cl_length, hp]; rfl
  generalize hA : w.alloc (.cells #[.int .i64 0, .slice none 0 0, .slice none 0 0] 25) = w0
  have E0 : Ext w w0 := by rw [← hA]; exact (Ext.refl w).alloc _
  have B0 : Cells w0 w.heap.size #[.int .i64 0, .slice none 0 0, .slice none 0 0] 25 := by rw [← hA]; exact Cells.new w _ _
  have hc0 := hc.ext E0
  have HA := Lib.hid hA
  clear hA
  go_enter Try.func22, Try.ntmps22
  obtain ⟨hp1, hp2⟩ : inB (xs.length : Int) 1 16 = true ∧ allP (finK .f32) (cl xs) xs.length = true := by simpa using hp
  go_wp2_with (first | (go_at_call 79; rw [HA.out]; refine (areFinite_any _ _ _ _ _ hc0 (by omega) hp2).mono ?_; rintro _ _ ⟨rfl, n1, rfl⟩) | (go_at_call 80; refine (clone_any _ _ _ _ (hc0.ext (by repeat (first | assumption | exact Ext.refl _ | apply Ext.drewN | apply Ext.alloc | (refine Ext.setCell ?_ (by first | assumption | exact Nat.le_refl _) _)))) hl).mono ?_; rintro _ w1 ⟨v1, rfl, hE1', hO1'⟩; obtain ⟨a1, c1, rfl, hf1⟩ := OwnF.fr hO1') | (go_at_call 77; refine (within_any _ _ _ _ (by first | assumption | rfl) _).mono ?_; rintro _ _ ⟨rfl, rfl⟩) | (go_at_call 90; refine (l00In_any _ _ _ _ (by first | assumption | rfl) _).mono ?_; rintro _ _ ⟨rfl, rfl⟩) | (go_at_call 96; refine (isCount_any _ _ (by first | assumption | rfl) _).mono ?_; rintro _ _ ⟨rfl, rfl⟩) | (go_at_call 88; refine (isTrace_any _ _ _ _ (by first | assumption | rfl) _).mono ?_; rintro _ _ ⟨rfl, rfl⟩) | (go_at_call 85; refine (l03Is_any _ _ _ _ (by first | assumption | rfl) (by omega) _).mono ?_; rintro _ _ ⟨rfl, rfl⟩) | (go_at_call 78; refine (length32_any _ _ _ _).mono ?_; rintro _ _ ⟨rfl, rfl⟩) | (go_at_call 148; refine (isFinite64_any _ _ _ (by assumption) (by first | assumption | rfl) _).mono ?_; rintro _ _ ⟨rfl, n, rfl⟩) | (go_at_call 99; refine (isFinite_any _ _ _ (by first | assumption | exact is_ofInt _ _ | exact is_self) (by first | assumption | rfl) _).mono ?_; rintro _ _ ⟨rfl, n, rfl⟩) | (go_at_call 97; refine (l01Finite_any _ _ _ (by first | assumption | exact is_ofInt _ _ | exact is_self) (by first | assumption | rfl) _).mono ?_; rintro _ _ ⟨rfl, n, rfl⟩))
  have hE1 : Ext w0 w1 := ((Ext.refl w0).drewN _).trans hE1'
  have hO1 : OwnF w1 w0.heap.size (.slice a1 xs.length c1) xs := hO1'
  generalize hB : w1.alloc (.cells #[.int .i64 (N : Int), .slice a1 xs.length c1, .slice none 0 0] 25) = w2
  have EB : Ext w1 w2 := by rw [← hB]; exact (Ext.refl w1).alloc _
  have CB : Cells w2 (w1.heap.size) #[.int .i64 (N : Int), .slice a1 xs.length c1, .slice none 0 0] 25 := by rw [← hB]; exact Cells.new w1 _ _
  have hR0 : OwnRows w2 w1.heap.size (.slice none 0 0) [] [] := ⟨rfl, ⟨rfl, .inl ⟨rfl, rfl⟩⟩, fun i hi => by simp at hi, fun i k hi => by simp at hi, fun i j k hi => by simp at hi⟩
  have hP0 := hO1.ext EB
  clear hB
  go_loopw [28] (fun i wr => ∃ (k : Nat) (rv : Value) (vs : List Value), k ≤ xs.length ∧ i = .int .i64 k ∧ Cells wr (w1.heap.size) #[.int .i64 (N : Int), .slice a1 xs.length c1, rv] 25 ∧ OwnF wr w0.heap.size (.slice a1 xs.length c1) xs ∧ OwnRows wr w1.heap.size rv vs (List.replicate k (List.replicate N 0)) ∧ (∀ q, rv.ownBlock = some q → q ≠ w1.heap.size) ∧ (∀ q, rowsB vs q → q ≠ w1.heap.size) ∧ Ext w0 wr ∧ w2.heap.size ≤ wr.heap.size) (fun i _ => xs.length - (intOf i).toNat)
  case atStart => exact ⟨0, _, [], Nat.zero_le _, rfl, CB, hP0, hR0, (fun q e => by cases e), (fun q ⟨i, hi, _⟩ => by simp at hi), hE1.trans EB, Nat.le_refl _⟩
  case round =>
    obtain ⟨k, rv, vs, hk, rfl, hC, hP, hR, hd1, hd2, hE, hsz⟩ := hrel
    have cB2 := hC.at 2
    by_cases hlt : k < xs.length
    · go_wp2_with fail
      refine wp_region_mix (ownU [1] (Ext wr) (fun _ => True)) (fun i => i == 3 || i == 4 || i == 5 || i == 7) (fun _ _ => True) (by kernel_rfl) (by kernel_rfl) (by kernel_rfl) (ownU_drew (fun _ n h => Ext.drewN h n) (fun _ _ _ => trivial)) (ownU_all (Ext.refl _) trivial) (fun n0 => ?_)
      refine lx_val rfl rfl (v := .pointer (some ⟨w1.heap.size, 2, none⟩)) (fun w' _ => by go_simp; try rfl) ?_
      go_simp
      refine lx_val rfl rfl (v := rv) (fun w' (hw' : Ext wr w') => by have hq := hw'.cell cB2; clear cB2; go_simp; try rfl) ?_
      go_simp
      refine lx_move rfl rfl rfl rfl ?_
      go_simp
      refine lx_eff rfl rfl fun n1 => ?_
      obtain ⟨wm, hr, hOm, hEm⟩ := run_make1 (P := Try.prog) (w := wr.drewN (n0 + n1)) Try.underlying22 hi0 hz0 hs0 hb0 (kl := .i64) (kc := .i64) (n := N) (by omega)
      have hE3 : Ext wr wm := ((Ext.refl wr).drewN _).trans hEm
      refine ⟨.slice (some ⟨wr.heap.size, 0, none⟩) N N, wm, .inl (by simp only [execOp]; go_simp; first | done | rw [hr]), fun j _ _ => ownU_all hE3 trivial j, ?_⟩
      go_simp
      refine lx_effV rfl rfl (fun n => by go_simp; exact ⟨rfl, rfl⟩) (fun n j _ _ => ownU_all ((hE3.drewN _).alloc _) trivial j) (fun n2 => ?_)
      go_simp
      have hb1 : w1.heap.size ≤ wr.heap.size := Nat.le_trans EB.size hsz
      have hOu : OwnF wm w1.heap.size (.slice (some ⟨wr.heap.size, 0, none⟩) N N) (List.replicate N 0) := OwnF.mono hOm hb1
      have hRm := hR.ext hE3
      have hdj : ∀ q, (Value.slice (some ⟨wr.heap.size, 0, none⟩) N N).ownBlock = some q → q = wr.heap.size := fun q e => by cases e; rfl
      refine lx_append rfl rfl rfl rfl rfl fun n3 => ?_
      obtain ⟨v', wa, hra, hRa, hga, hva⟩ := run_appendR (P := Try.prog) (w := (((wm.drewN n2).alloc (.cells #[.slice (some ⟨wr.heap.size, 0, none⟩) N N] 22)).drewN n3)) Try.underlying23 hi1 hz1 hs1 hb24 ((((hRm.drewN n2).ext ((Ext.refl _).alloc _))).drewN n3) (by simp only [List.length_replicate]; omega) (Nat.le_trans hb1 ((((hE3.drewN n2).alloc _).drewN n3).size)) (g := wm.heap.size) (u := .slice (some ⟨wr.heap.size, 0, none⟩) N N) (r := List.replicate N 0) ((Cells.new (wm.drewN n2) #[.slice (some ⟨wr.heap.size, 0, none⟩) N N] 22).at 0) (((hOu.drewN n2).ext ((Ext.refl _).alloc _)).drewN n3) (.inl (fun e => by have h1 := hR.lt.1 wr.heap.size (by rw [← e]; rfl); omega)) (fun j q hj hq e => by have h1 := hR.lt.2 q ⟨j, hj, e⟩; have h2 := hdj q hq; omega) 23
      have hEa : Ext wr (wm.drewN n2) := hE3.drewN n2
      refine ⟨v', wa, hra, ownU_aft (by kernel_rfl) trivial, ?_⟩
      clear hra
      go_simp
      refine lx_val rfl rfl (v := .pointer (some ⟨w1.heap.size, 2, none⟩)) (fun w' _ => by go_simp; try rfl) ?_
      go_simp
      have hsb : wr.heap.size ≤ (((wm.drewN n2).alloc (.cells #[.slice (some ⟨wr.heap.size, 0, none⟩) N N] 22)).drewN n3).heap.size := (((hE3.drewN n2).alloc _).drewN n3).size
      have hCb := hC.ext (((hE3.drewN n2).alloc (.cells #[.slice (some ⟨wr.heap.size, 0, none⟩) N N] 22)).drewN n3)
      have hPb := hP.ext (((hE3.drewN n2).alloc (.cells #[.slice (some ⟨wr.heap.size, 0, none⟩) N N] 22)).drewN n3)
      have hEb := hE.trans (((hE3.drewN n2).alloc (.cells #[.slice (some ⟨wr.heap.size, 0, none⟩) N N] 22)).drewN n3)
      have hch : Chg (fun q => rv.ownBlock = some q) _ wa := Chg.of_grown hga (fun k e => e)
      have hCa : Cells wa (w1.heap.size) #[.int .i64 (N : Int), .slice a1 xs.length c1, rv] 25 := (hch.block _ hCb.lt (fun e => hd1 _ e rfl)).trans hCb
      have hPa := hPb.chg hch (fun q hq e => by have h1 := (hO1.lt q hq).2; have h2 := (hR.lt.1 q e).1; omega)
      have hEA : Ext w0 wa := Chg.ext hEb hch (fun q e => by have h2 := (hR.lt.1 q e).1; have h3 := hE1.size; omega)
      have hBl := CB.lt
      have hd1' : ∀ q, v'.ownBlock = some q → q ≠ w1.heap.size := fun q e => by
        rcases hva with hva | hva
        · exact hd1 q (by rw [← hva]; exact e)
        · rw [hva] at e; injection e with e; omega
      have hd2' : ∀ q, rowsB (vs ++ [.slice (some ⟨wr.heap.size, 0, none⟩) N N]) q → q ≠ w1.heap.size := fun q ⟨i, hi, e⟩ => by
        rw [List.length_append, List.length_singleton] at hi
        rw [va_snoc] at e
        by_cases h1 : i < vs.length
        · rw [if_pos h1] at e; exact hd2 q ⟨i, h1, e⟩
        · rw [if_neg h1, if_pos (by omega)] at e
          have h2 := hdj q e
          omega
      have hz2 := hCa.fz 2
      have hc2 := hCa.at 2
      have hsa := hch.size
      have HCa := Lib.hid hCa
      clear hCb hPb hEb hch hga hC hP hR hRm hOu hOm hEm hE3 hCa cB2
      obtain ⟨ar, cr, e9, _⟩ := hRa.fr
      simp only [List.length_append, List.length_replicate, List.length_singleton] at e9
      subst e9
      refine lx_effS rfl rfl (W' := fun n => (wa.drewN n).setCell ⟨w1.heap.size, 2, none⟩ (.slice ar (k + 1) cr)) (fun n => by go_simp; try rfl) (fun n => ownU_aft (by kernel_rfl) trivial) (fun n4 => ?_)
      refine lx_nil fun n5 => ?_
      go_wp2
      go_roundw
      case rel =>
        have hck : Chg (fun q => q = w1.heap.size) wa (((wa.drewN n4).setCell ⟨w1.heap.size, 2, none⟩ (.slice ar (k + 1) cr)).drewN n5) := by
          have h := chg_setCell (wa.drewN n4) (w1.heap.size) 2 (.slice ar (k + 1) cr)
          exact ⟨h.os, h.tape, h.output, h.size, h.block⟩
        refine ⟨k + 1, .slice ar (k + 1) cr, _, by omega, by go_num, HCa.out.set 2 _, hPa.chg hck (fun q hq e => by have h1 := (hO1.lt q hq).2; have e' : q = w1.heap.size := e; omega), ?_, hd1', hd2', (Ext.setCell (hEA.drewN n4) (by have h3 := hE1.size; show w0.heap.size ≤ w1.heap.size; omega) _).drewN n5, ?_⟩
        · rw [List.replicate_succ']
          exact hRa.chg hck hd1' hd2'
        · have h9 := hck.size
          omega
      case measure => simp [intOf]; omega
    · obtain rfl : xs.length = k := by omega
      obtain ⟨ar, cr, e9, _⟩ := hR.fr
      simp only [List.length_replicate] at e9
      subst e9
      have BR : Cells wr w.heap.size #[.int .i64 0, .slice none 0 0, .slice none 0 0] 25 := B0.ext hE
      have r0 := BR.at 0
      have r1 := BR.at 1
      have r2 := BR.at 2
      have f0 := BR.fz 0
      have f1 := BR.fz 1
      have f2 := BR.fz 2
      simp only [List.getElem?_toArray, List.getElem?_cons_succ, List.getElem?_cons_zero] at r0 r1 r2
      go_wp2_with (first | (refine wpList_load_row rfl _ _ rfl _ rfl _ _ _ _ hC Try.underlying25 rfl infoG ?_))
      (try simp only [Exit.inBlock, Exit.then])
      refine bodyPost_ret (results_row2 rfl _ _ _ _ _ _ rfl (Cells.set (Cells.set (Cells.set BR 0 _) 1 _) 2 _) Try.underlying25 rfl infoG) rfl ?_
      have hcR := (((chg_setCell wr w.heap.size 0 (.int .i64 (N : Int))).trans (chg_setCell _ w.heap.size 1 (.slice a1 xs.length c1))).trans (chg_setCell _ w.heap.size 2 (.slice ar xs.length cr)))
      have hw0 : w.heap.size < w0.heap.size := B0.lt
      have hs1 := hE1.size
      refine ⟨_, _, _, vs, xs, _, by rw [h.out]; rfl, Ext.setCell (Ext.setCell (Ext.setCell (E0.trans hE) (Nat.le_refl _) _) (Nat.le_refl _) _) (Nat.le_refl _) _, ⟨(hP.chg hcR (fun q hq e => by have h1 := (hP.lt q hq).1; have e' : q = w.heap.size := e; omega)).mono E0.size, (hR.chg hcR (fun q hq e => by have h1 := (hR.lt.1 q hq).1; have e' : q = w.heap.size := e; omega) (fun q hq e => by have h1 := (hR.lt.2 q hq).1; have e' : q = w.heap.size := e; omega)).mono (Nat.le_trans E0.size hs1), fun q hq => ⟨fun e => by have h1 := (hO1.lt q hq).2; have h2 := (hR.lt.1 q e).1; omega, fun e => by have h1 := (hO1.lt q hq).2; have h2 := (hR.lt.2 q e).1; omega⟩⟩, by rw [h.out]; rfl, by rw [h.out]; rfl, ?_⟩
      rw [h.out]
      show cls (List.replicate xs.length (List.replicate N 0)) = List.replicate xs.length (List.replicate N 0)
      unfold cls
      rw [List.map_replicate, cl_zeros]
theorem implFlat_any (t : Int) (ao : Option Addr) (cap : Nat) (xs : List Nat) (w : World) (hc : FR w ao xs) (hl : xs.length ≤ 1048576) : Calls Try.prog 22 #[.int .i64 t, .slice ao xs.length cap] w (GivesHO (flatO t (cl xs)) w) := by
  cases ht : inB t 1 64 with
  | false => exact implFlat_no1 t _ _ _ w hc hl ht
  | true =>
  cases hp : inB (xs.length : Int) 1 16 with
  | false => exact implFlat_no2 t _ _ _ w hc hl ht hp
  | true =>
  cases hf : allP (finK .f32) (cl xs) xs.length with
  | false => exact implFlat_no3 t _ _ _ w hc hl ht hp hf
  | true =>
    obtain ⟨N, rfl⟩ : ∃ N : Nat, t = (N : Int) := ⟨t.toNat, by have := inB_yes ht; omega⟩
    exact implFlat_yes N _ _ _ w hc hl ht (by rw [hp, hf]; rfl)
theorem specFlat_any (t : Int) (ao : Option Addr) (cap : Nat) (xs : List Nat) (w : World) (hc : FR w ao xs) (hl : xs.length ≤ 1048576) : Calls Try.prog 20 #[.int .i64 t, .slice ao xs.length cap] w (GivesHO (flatO t (cl xs)) w) := by
  cases ht : inB t 1 64 with
  | false => exact specFlat_no1 t _ _ _ w hc hl ht
  | true =>
  cases hp : (inB (xs.length : Int) 1 16 && allP (finK .f32) (cl xs) xs.length) with
  | false => exact specFlat_no2 t _ _ _ w hc hl ht hp
  | true =>
    obtain ⟨N, rfl⟩ : ∃ N : Nat, t = (N : Int) := ⟨t.toNat, by have := inB_yes ht; omega⟩
    exact specFlat_yes N _ _ _ w hc hl ht hp
theorem flatO_len (t : Int) (ps : List Nat) : (((flatO t ps).map (·.2.1)).getD []).length + ((((flatO t ps).map (·.2.2)).getD []).length + tot (((flatO t ps).map (·.2.2)).getD [])) ≤ 1048576 := by
  unfold flatO
  split
  · rename_i h
    simp only [Bool.and_eq_true, plB] at h
    have h1 := inB_yes h.1
    have h2 := inB_yes h.2.1
    have h3 : ∀ (n m : Nat), tot (List.replicate n (List.replicate m 0)) = n * m := fun n m => by
      induction n with
      | zero => simp [tot]
      | succ n ih => rw [List.replicate_succ]; simp only [tot, ih, List.length_replicate]; rw [Nat.add_mul]; omega
    simp only [Option.map_some, Option.getD_some, List.length_replicate, h3]
    have h4 : ps.length * t.toNat ≤ 16 * 64 := Nat.mul_le_mul (by omega) (by omega)
    omega
  · simp [tot]
end Go.Proofs.Ytnjgcacnfobmiaa
