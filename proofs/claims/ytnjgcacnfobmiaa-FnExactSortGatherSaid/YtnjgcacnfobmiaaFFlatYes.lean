/- FlatGather: the reference's good case. -/
import Derived.Test.YtnjgcacnfobmiaaFFlat
namespace Go.Proofs.Ytnjgcacnfobmiaa
open Go.RowKit
set_option maxRecDepth 100000
set_option linter.unusedVariables false

section
variable {P : Program} {ops : Array Oper} {U : Nat → World → Prop} {eff : Nat → Bool} {An : Nat → Value → Prop} {Q : Exit → Act → World → Prop} {k : Nat} {rest : List Oper} {o : Oper} {a : Act} {w : World}
theorem lx_append (hg : Region.wanted o (yielded ops a.tmps) = true) (he : eff k = true) {T1 T2 : TypeId} {s x : Operand} (ho : o.op = .call { callee := .builtin .append, args := #[s, x], argTypes := #[T1, T2] }) {v xv : Value} (hs : a.eval s = v) (hx : a.eval x = xv)
    (h : ∀ n, ∃ v' w', (Builtin.append_ #[T1, T2] o.type #[v, xv]).run P (w.drewN n) = .ok v' w' ∧ AftU .any ops U k w' ∧ wpLex P ops U eff An Q (k + 1) rest (a.put o.dst v') w') : wpLex P ops U eff An Q k (o :: rest) a w :=
  lx_eff hg he fun n => by
    obtain ⟨v', w', hr, h1, h2⟩ := h n
    exact ⟨v', w', .inl (by simp [execOp, ho, resolve, invoke, builtin, hs, hx, hr]), h1, h2⟩
end
theorem ownRows_empty (w : World) (base : Nat) (h : base ≤ w.heap.size) : OwnRows (w.alloc (.cells #[] 22)) base (.slice (some ⟨w.heap.size, 0, none⟩) 0 0) [] [] :=
  ⟨rfl, World.ownsRow_made w #[] 0 h (by unfold maxLen; omega) rfl, fun i hi => by simp at hi, fun i k hi => by simp at hi, fun i j k hi => by simp at hi⟩
set_option maxHeartbeats 400000 in
theorem specFlat_yes (N : Nat) (ao : Option Addr) (cap : Nat) (xs : List Nat) (w : World) (hc : FR w ao xs) (hl : xs.length ≤ 1048576) (ht : inB (N : Int) 1 64 = true) (hp : (inB (xs.length : Int) 1 16 && allP (finK .f32) (cl xs) xs.length) = true) : Calls Try.prog 20 #[.int .i64 (N : Int), .slice ao xs.length cap] w (GivesHO (flatO N (cl xs)) w) := by
  obtain ⟨i0, hi0, hz0, hs0, hb0⟩ := info_parts info32
  obtain ⟨i1, hi1, hz1, hs1, hb24⟩ := info_parts infoS
  have hN : N ≤ 64 := by have := inB_yes ht; omega
  have h : Hid (flatO N (cl xs) = some ((N : Int), cl xs, List.replicate xs.length (List.replicate N 0))) := by unfold Hid flatO plB; rw [ht, cl_length, hp]; rfl
  generalize hA : w.alloc (.cells #[.int .i64 0, .slice none 0 0, .slice none 0 0] 25) = w0
  have E0 : Ext w w0 := by rw [← hA]; exact (Ext.refl w).alloc _
  have B0 : Cells w0 w.heap.size #[.int .i64 0, .slice none 0 0, .slice none 0 0] 25 := by rw [← hA]; exact Cells.new w _ _
  have hc0 := hc.ext E0
  have HA := Lib.hid hA
  clear hA
  go_enter Try.func20, Try.ntmps20
  go_wp2_with fail
  rw [HA.out]
  go_at_call 75; refine (l04Ticks_any _ _ ht _).mono ?_; rintro _ _ ⟨rfl, rfl⟩
  go_wp2_with fail
  go_at_call 76; refine (l04Places_any _ _ _ _ _ hc0 hl hp).mono ?_; rintro _ _ ⟨rfl, n1, rfl⟩
  go_wp2_with (at_builtin; refine wl_appendS (ys := []) (xs := xs) w0 rfl Try.underlying22 hi0 hz0 hs0 hb0 rfl rfl rfl (ownF_empty _ _ ((Ext.refl w0).drewN _)) (((Ext.refl w0).drewN _).alloc _) (hc0.ext (((Ext.refl w0).drewN _).alloc _)) (show ([] : List Nat).length + xs.length ≤ 1073741824 from by rw [List.length_nil]; omega) ?_; intro v1 w1 hO1 hE1; rw [List.nil_append] at hO1; obtain ⟨a1, c1, rfl, hf1⟩ := OwnF.fr hO1)
  generalize hB : (w1.alloc (.cells #[] 22)).alloc (.cells #[.int .i64 (N : Int), .slice a1 xs.length c1, .slice (some ⟨w1.heap.size, 0, none⟩) 0 0] 25) = w2
  have EB : Ext w1 w2 := by rw [← hB]; exact ((Ext.refl w1).alloc _).alloc _
  have CB : Cells w2 (w1.heap.size + 1) #[.int .i64 (N : Int), .slice a1 xs.length c1, .slice (some ⟨w1.heap.size, 0, none⟩) 0 0] 25 := by rw [← hB]; exact Cells.new1 w1 _ _ _
  have hR0 : OwnRows w2 w1.heap.size (.slice (some ⟨w1.heap.size, 0, none⟩) 0 0) [] [] := by rw [← hB]; exact (ownRows_empty w1 _ (Nat.le_refl _)).ext ((Ext.refl _).alloc _)
  have hP0 := hO1.ext EB
  clear hB
  go_loopw [7] (fun i wr => ∃ (k : Nat) (rv : Value) (vs : List Value), k ≤ xs.length ∧ i = .int .i64 k ∧ Cells wr (w1.heap.size + 1) #[.int .i64 (N : Int), .slice a1 xs.length c1, rv] 25 ∧ OwnF wr w0.heap.size (.slice a1 xs.length c1) xs ∧ OwnRows wr w1.heap.size rv vs (List.replicate k (List.replicate N 0)) ∧ (∀ q, rv.ownBlock = some q → q ≠ w1.heap.size + 1) ∧ (∀ q, rowsB vs q → q ≠ w1.heap.size + 1) ∧ Ext w0 wr ∧ w2.heap.size ≤ wr.heap.size) (fun i _ => xs.length - (intOf i).toNat)
  case atStart => exact ⟨0, _, [], Nat.zero_le _, rfl, CB, hP0, hR0, fun q e => by cases e; show w1.heap.size ≠ w1.heap.size + 1; omega, fun q ⟨i, hi, _⟩ => by simp at hi, hE1.trans EB, Nat.le_refl _⟩
  case round =>
    obtain ⟨k, rv, vs, hk, rfl, hC, hP, hR, hd1, hd2, hE, hsz⟩ := hrel
    have cB2 := hC.at 2
    by_cases hlt : k < xs.length
    · go_wp2_with fail
      refine wp_region_mix (ownU [1] (Ext wr) (fun _ => True)) (fun i => i == 3 || i == 4 || i == 5 || i == 7) (fun _ _ => True) (by kernel_rfl) (by kernel_rfl) (by kernel_rfl) (ownU_drew (fun _ n h => Ext.drewN h n) (fun _ _ _ => trivial)) (ownU_all (Ext.refl _) trivial) (fun n0 => ?_)
      refine lx_val rfl rfl (v := .pointer (some ⟨w1.heap.size + 1, 2, none⟩)) (fun w' _ => by go_simp; try rfl) ?_
      go_simp
      refine lx_val rfl rfl (v := rv) (fun w' (hw' : Ext wr w') => by have hq := hw'.cell cB2; clear cB2; go_simp; try rfl) ?_
      go_simp
      refine lx_move rfl rfl rfl rfl ?_
      go_simp
      refine lx_eff rfl rfl fun n1 => ?_
      obtain ⟨wm, hr, hOm, hEm⟩ := run_make1 (P := Try.prog) (w := wr.drewN (n0 + n1)) Try.underlying22 hi0 hz0 hs0 hb0 (kl := .i64) (kc := .i64) (n := N) (by omega)
      have hE3 : Ext wr wm := ((Ext.refl wr).drewN _).trans hEm
      refine ⟨.slice (some ⟨wr.heap.size, 0, none⟩) N N, wm, .inl (by simp only [execOp]; go_simp; first | done | rw [hr]), fun j _ _ => ownU_all hE3 trivial j, ?_⟩
      go_simp
      refine lx_effV rfl rfl (fun n => by go_simp; exact ⟨rfl, rfl⟩) (fun n j _ _ => ownU_all ((hE3.drewN _).alloc _) trivial j) (fun n2 => ?_)
      go_simp
      have hb1 : w1.heap.size ≤ wr.heap.size := Nat.le_trans EB.size hsz
      have hOu : OwnF wm w1.heap.size (.slice (some ⟨wr.heap.size, 0, none⟩) N N) (List.replicate N 0) := OwnF.mono hOm hb1
      have hRm := hR.ext hE3
      have hdj : ∀ q, (Value.slice (some ⟨wr.heap.size, 0, none⟩) N N).ownBlock = some q → q = wr.heap.size := fun q e => by cases e; rfl
      refine lx_append rfl rfl rfl rfl rfl fun n3 => ?_
      obtain ⟨v', wa, hra, hRa, hga, hva⟩ := run_appendR (P := Try.prog) (w := (((wm.drewN n2).alloc (.cells #[.slice (some ⟨wr.heap.size, 0, none⟩) N N] 22)).drewN n3)) Try.underlying23 hi1 hz1 hs1 hb24 ((((hRm.drewN n2).ext ((Ext.refl _).alloc _))).drewN n3) (by simp only [List.length_replicate]; omega) (Nat.le_trans hb1 ((((hE3.drewN n2).alloc _).drewN n3).size)) (g := wm.heap.size) (u := .slice (some ⟨wr.heap.size, 0, none⟩) N N) (r := List.replicate N 0) ((Cells.new (wm.drewN n2) #[.slice (some ⟨wr.heap.size, 0, none⟩) N N] 22).at 0) (((hOu.drewN n2).ext ((Ext.refl _).alloc _)).drewN n3) (.inl (fun e => by have h1 := hR.lt.1 wr.heap.size (by rw [← e]; rfl); omega)) (fun j q hj hq e => by have h1 := hR.lt.2 q ⟨j, hj, e⟩; have h2 := hdj q hq; omega) 23
      have hEa : Ext wr (wm.drewN n2) := hE3.drewN n2
      refine ⟨v', wa, hra, ownU_aft (by kernel_rfl) trivial, ?_⟩
      clear hra
      go_simp
      refine lx_val rfl rfl (v := .pointer (some ⟨w1.heap.size + 1, 2, none⟩)) (fun w' _ => by go_simp; try rfl) ?_
      go_simp
      have hsb : wr.heap.size ≤ (((wm.drewN n2).alloc (.cells #[.slice (some ⟨wr.heap.size, 0, none⟩) N N] 22)).drewN n3).heap.size := (((hE3.drewN n2).alloc _).drewN n3).size
      have hCb := hC.ext (((hE3.drewN n2).alloc (.cells #[.slice (some ⟨wr.heap.size, 0, none⟩) N N] 22)).drewN n3)
      have hPb := hP.ext (((hE3.drewN n2).alloc (.cells #[.slice (some ⟨wr.heap.size, 0, none⟩) N N] 22)).drewN n3)
      have hEb := hE.trans (((hE3.drewN n2).alloc (.cells #[.slice (some ⟨wr.heap.size, 0, none⟩) N N] 22)).drewN n3)
      have hch : Chg (fun q => rv.ownBlock = some q) _ wa := Chg.of_grown hga (fun k e => e)
      have hCa : Cells wa (w1.heap.size + 1) #[.int .i64 (N : Int), .slice a1 xs.length c1, rv] 25 := (hch.block _ hCb.lt (fun e => hd1 _ e rfl)).trans hCb
      have hPa := hPb.chg hch (fun q hq e => by have h1 := (hO1.lt q hq).2; have h2 := (hR.lt.1 q e).1; omega)
      have hEA : Ext w0 wa := Chg.ext hEb hch (fun q e => by have h2 := (hR.lt.1 q e).1; have h3 := hE1.size; omega)
      have hBl := CB.lt
      have hd1' : ∀ q, v'.ownBlock = some q → q ≠ w1.heap.size + 1 := fun q e => by
        rcases hva with hva | hva
        · exact hd1 q (by rw [← hva]; exact e)
        · rw [hva] at e; injection e with e; omega
      have hd2' : ∀ q, rowsB (vs ++ [.slice (some ⟨wr.heap.size, 0, none⟩) N N]) q → q ≠ w1.heap.size + 1 := fun q ⟨i, hi, e⟩ => by
        rw [List.length_append, List.length_singleton] at hi
        rw [va_snoc] at e
        by_cases h1 : i < vs.length
        · rw [if_pos h1] at e; exact hd2 q ⟨i, h1, e⟩
        · rw [if_neg h1, if_pos (by omega)] at e
          have h2 := hdj q e
          omega
      have hz2 := hCa.fz 2
      have hc2 := hCa.at 2
      have hsa := hch.size
      have HCa := Lib.hid hCa
      clear hCb hPb hEb hch hga hC hP hR hRm hOu hOm hEm hE3 hCa cB2
      obtain ⟨ar, cr, e9, _⟩ := hRa.fr
      simp only [List.length_append, List.length_replicate, List.length_singleton] at e9
      subst e9
      refine lx_effS rfl rfl (W' := fun n => (wa.drewN n).setCell ⟨w1.heap.size + 1, 2, none⟩ (.slice ar (k + 1) cr)) (fun n => by go_simp; try rfl) (fun n => ownU_aft (by kernel_rfl) trivial) (fun n4 => ?_)
      refine lx_nil fun n5 => ?_
      go_wp2
      go_roundw
      case rel =>
        have hck : Chg (fun q => q = w1.heap.size + 1) wa (((wa.drewN n4).setCell ⟨w1.heap.size + 1, 2, none⟩ (.slice ar (k + 1) cr)).drewN n5) := by
          have h := chg_setCell (wa.drewN n4) (w1.heap.size + 1) 2 (.slice ar (k + 1) cr)
          exact ⟨h.os, h.tape, h.output, h.size, h.block⟩
        refine ⟨k + 1, .slice ar (k + 1) cr, _, by omega, by go_num, HCa.out.set 2 _, hPa.chg hck (fun q hq e => by have h1 := (hO1.lt q hq).2; have e' : q = w1.heap.size + 1 := e; omega), ?_, hd1', hd2', (Ext.setCell (hEA.drewN n4) (by have h3 := hE1.size; show w0.heap.size ≤ w1.heap.size + 1; omega) _).drewN n5, ?_⟩
        · rw [List.replicate_succ']
          exact hRa.chg hck hd1' hd2'
        · have h9 := hck.size
          omega
      case measure => simp [intOf]; omega
    · obtain rfl : xs.length = k := by omega
      obtain ⟨ar, cr, e9, _⟩ := hR.fr
      simp only [List.length_replicate] at e9
      subst e9
      have BR : Cells wr w.heap.size #[.int .i64 0, .slice none 0 0, .slice none 0 0] 25 := B0.ext hE
      have r0 := BR.at 0
      have r1 := BR.at 1
      have r2 := BR.at 2
      have f0 := BR.fz 0
      have f1 := BR.fz 1
      have f2 := BR.fz 2
      simp only [List.getElem?_toArray, List.getElem?_cons_succ, List.getElem?_cons_zero] at r0 r1 r2
      go_wp2_with (first | (refine wpList_load_row rfl _ _ rfl _ rfl _ _ _ _ hC Try.underlying25 rfl infoG ?_))
      (try simp only [Exit.inBlock, Exit.then])
      refine bodyPost_ret (results_row2 rfl _ _ _ _ _ _ rfl (Cells.set (Cells.set (Cells.set BR 0 _) 1 _) 2 _) Try.underlying25 rfl infoG) rfl ?_
      have hcR := (((chg_setCell wr w.heap.size 0 (.int .i64 (N : Int))).trans (chg_setCell _ w.heap.size 1 (.slice a1 xs.length c1))).trans (chg_setCell _ w.heap.size 2 (.slice ar xs.length cr)))
      have hw0 : w.heap.size < w0.heap.size := B0.lt
      have hs1 := hE1.size
      refine ⟨_, _, _, vs, xs, _, by rw [h.out]; rfl, Ext.setCell (Ext.setCell (Ext.setCell (E0.trans hE) (Nat.le_refl _) _) (Nat.le_refl _) _) (Nat.le_refl _) _, ⟨(hP.chg hcR (fun q hq e => by have h1 := (hP.lt q hq).1; have e' : q = w.heap.size := e; omega)).mono E0.size, (hR.chg hcR (fun q hq e => by have h1 := (hR.lt.1 q hq).1; have e' : q = w.heap.size := e; omega) (fun q hq e => by have h1 := (hR.lt.2 q hq).1; have e' : q = w.heap.size := e; omega)).mono (Nat.le_trans E0.size hs1), fun q hq => ⟨fun e => by have h1 := (hO1.lt q hq).2; have h2 := (hR.lt.1 q e).1; omega, fun e => by have h1 := (hO1.lt q hq).2; have h2 := (hR.lt.2 q e).1; omega⟩⟩, by rw [h.out]; rfl, by rw [h.out]; rfl, ?_⟩
      rw [h.out]
      show cls (List.replicate xs.length (List.replicate N 0)) = List.replicate xs.length (List.replicate N 0)
      unfold cls
      rw [List.map_replicate, cl_zeros]
end Go.Proofs.Ytnjgcacnfobmiaa
