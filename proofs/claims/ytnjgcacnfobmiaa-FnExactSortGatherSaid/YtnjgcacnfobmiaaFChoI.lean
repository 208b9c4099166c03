/- chosen: the walk. -/
import Derived.Test.YtnjgcacnfobmiaaFCho
namespace Go.Proofs.Ytnjgcacnfobmiaa
open Go.RowKit
set_option maxRecDepth 100000
set_option linter.unusedVariables false

theorem take_pick (l ps : List Nat) (k : Nat) (h : k < l.length) : pick (l.take (k + 1)) ps = pick (l.take k) ps ++ [el ps (elv l k)] := by
  unfold pick; rw [take_snocV l k h, List.map_append]; rfl
theorem take_pickR (l : List Nat) (rs : List (List Nat)) (k : Nat) (h : k < l.length) : pickR (l.take (k + 1)) rs = pickR (l.take k) rs ++ [row rs (elv l k)] := by
  unfold pickR; rw [take_snocV l k h, List.map_append]; rfl
theorem six {w : World} {g : Nat} {a b c : Value} {t : TypeId} (h : Cells w g #[a, b, c] t) : w.cell? ⟨g, 0, none⟩ = some a ∧ w.cell? ⟨g, 1, none⟩ = some b ∧ w.cell? ⟨g, 2, none⟩ = some c ∧ w.frozen? ⟨g, 0, none⟩ = false ∧ w.frozen? ⟨g, 1, none⟩ = false ∧ w.frozen? ⟨g, 2, none⟩ = false :=
  ⟨h.at 0, h.at 1, h.at 2, h.fz 0, h.fz 1, h.fz 2⟩
theorem givesHO_some {o : Option (Int × List Nat × List (List Nat))} {t : Int} {P : List Nat} {R : List (List Nat)} (h : o = some (t, P, R)) {w w' : World} {pv rv : Value} {vs : List Value} {ys : List Nat} {qs : List (List Nat)} (he : Ext w w') (hO : OwnG w' w.heap.size pv rv vs ys qs) (h1 : cl ys = P) (h2 : cls qs = R) :
    GivesHO o w (.returned (.tuple #[.agg #[.int .i64 t, pv, rv], .bool true])) w' := by
  subst h
  exact ⟨t, pv, rv, vs, ys, qs, rfl, he, hO, rfl, h1, h2⟩
theorem fresh_of {w : World} {base N : Nat} {u : Value} {r : List Nat} (h : OwnF w base u r) (hN : N ≤ base) : ∀ q, u.ownBlock = some q → N ≤ q := fun q e => Nat.le_trans hN (h.lt q e).1
theorem fresh_ne {u v : Value} {N : Nat} (hf : ∀ q, u.ownBlock = some q → N ≤ q) (hv : ∀ q, v.ownBlock = some q → q < N) : u.ownBlock ≠ v.ownBlock ∨ u.ownBlock = none := by
  cases h : u.ownBlock with
  | none => exact .inr rfl
  | some q => exact .inl (fun e => by have h1 := hf q h; have h2 := hv q e.symm; omega)
theorem fresh_d {u : Value} {vs : List Value} {N : Nat} (hf : ∀ q, u.ownBlock = some q → N ≤ q) (hv : ∀ q, rowsB vs q → q < N) : ∀ j k, j < vs.length → u.ownBlock = some k → (va vs j).ownBlock ≠ some k := fun j k hj hk e => by
  have h1 := hf k hk
  have h2 := hv k ⟨j, hj, e⟩
  omega
set_option maxHeartbeats 4000000 in
theorem chosen_any (t : Int) (pa : Option Addr) (pc : Nat) (ps : List Nat) (ra : Option Addr) (rc : Nat) (rs : List (List Nat)) (la : Option Addr) (lc : Nat) (l : List Nat) (w : World) (hp : FR w pa ps) (hr : RS w ra rs) (hli : FRV fN w la l) (hl : ps.length + (rs.length + tot rs) ≤ 1048576) (hin : ∀ i, i < l.length → elv l i < ps.length) (hlr : rs.length = ps.length) (hl2 : (pick l ps).length + ((pickR l rs).length + tot (pickR l rs)) ≤ 1048576) :
    Calls Try.prog 107 #[.agg #[.int .i64 t, .slice pa ps.length pc, .slice ra rs.length rc], .slice la l.length lc] w (GivesHO (chosenO t (cl ps) (cls rs) l) w) := by
  obtain ⟨i0, hi0, hz0, hs0, hb0⟩ := info_parts info32
  obtain ⟨i1, hi1, hz1, hs1, hb24⟩ := info_parts infoS
  have hll : l.length ≤ 1048576 := by have := pick_length l ps; omega
  generalize hA : (w.alloc (.cells #[.int .i64 t, .slice pa ps.length pc, .slice ra rs.length rc] 25)).alloc (.cells #[.int .i64 0, .slice none 0 0, .slice none 0 0] 25) = w0
  have E0 : Ext w w0 := by rw [← hA]; exact ((Ext.refl w).alloc _).alloc _
  have A0 : Cells w0 w.heap.size #[.int .i64 t, .slice pa ps.length pc, .slice ra rs.length rc] 25 := by rw [← hA]; exact (Cells.new w _ _).alloc _
  have B0 : Cells w0 (w.heap.size + 1) #[.int .i64 0, .slice none 0 0, .slice none 0 0] 25 := by rw [← hA]; exact Cells.new1 w _ _ _
  have c0 := A0.at 0
  have c1 := A0.at 1
  have c2 := A0.at 2
  simp only [List.getElem?_toArray, List.getElem?_cons_succ, List.getElem?_cons_zero] at c0 c1 c2
  have hpw := hp.ext E0
  have hrw := hr.ext E0
  have hlw := hli.ext E0
  have HZ : Hid (w0.heap.size = w.heap.size + 1 + 1) := by unfold Hid; rw [← hA, size_alloc, size_alloc]
  have HA := Lib.hid hA
  have HL := Lib.hid hlr
  clear hA hlr
  go_enter Try.func107, Try.ntmps107
  go_wp2_with fail
  (try rw [HA.out])
  go_wp2_with fail
  generalize hB : w0.alloc (.cells #[.int .i64 t, .slice none 0 0, .slice none 0 0] 25) = w2
  have EB : Ext w0 w2 := by rw [← hB]; exact (Ext.refl w0).alloc _
  have GB : GBox w2 w0.heap.size w0.heap.size t (.slice none 0 0) (.slice none 0 0) [] [] [] := by
    rw [← hB]
    exact ⟨Cells.new w0 _ _, Nat.le_refl _, ownG_nil _ _, fun k hk => by
      rcases hk with e | e | ⟨i, hi, _⟩
      · cases e
      · cases e
      · simp at hi⟩
  clear hB
  obtain ⟨G, hGe⟩ : ∃ G, w.heap.size + 1 + 1 = G := ⟨_, rfl⟩
  have hGe2 := HZ.out.trans hGe
  rw [hGe2] at GB
  rw [hGe]
  have HG := Lib.hid hGe2
  clear hGe hGe2
  go_loopw [14] (fun i wr => ∃ (k : Nat) (pv rv : Value) (vs : List Value), k ≤ l.length ∧ i = .int .i64 k ∧ GBox wr G G t pv rv vs (pick (l.take k) ps) (pickR (l.take k) rs) ∧ Ext w0 wr) (fun i _ => l.length - (intOf i).toNat)
  case atStart => exact ⟨0, _, _, [], Nat.zero_le _, rfl, GB, EB⟩
  case round =>
    obtain ⟨k, pv, rv, vs, hk, rfl, hG, hE⟩ := hrel
    clear GB EB
    by_cases hlt : k < l.length
    · obtain ⟨lb, loff, rfl, hlcell⟩ := hlw k hlt
      have hk1 := hE.cell hlcell
      have hji := hin k hlt
      obtain ⟨j, hj⟩ : ∃ j, elv l k = j := ⟨_, rfl⟩
      rw [hj] at hk1 hji hlcell
      have HJ := Lib.hid hj
      clear hj hlcell
      obtain ⟨b, off, rfl, hcell⟩ := hpw j hji
      have hjr : j < rs.length := by rw [HL.out]; exact hji
      obtain ⟨rb, roff, ka, kc, rfl, hrcell, hfr⟩ := hrw j hjr
      have hrl := row_tot rs j hjr
      go_wp2_with fail
      -- the place
      have r1 := hG.at1
      have hGl := hG.own.lt
      have hgl := hG.lt
      have hzE := hE.size
      have hzG : w0.heap.size ≤ G := Nat.le_of_eq HG.out
      refine wp_region_mix (ownU [1] (Ext wr) (Ext w0)) (fun i => i == 7 || i == 8 || i == 10) (fun _ _ => True) (by kernel_rfl) (by kernel_rfl) (by kernel_rfl) (ownU_drew (fun _ n h => Ext.drewN h n) (fun _ n h => Ext.drewN h n)) (ownU_all (Ext.refl _) hE) (fun n0 => ?_)
      have hEq : Ext wr (wr.drewN n0) := (Ext.refl wr).drewN n0
      generalize wr.drewN n0 = wq at hEq ⊢
      have hU : ∀ w' : World, Ext wr w' → ∀ j, ownU [1] (Ext wr) (Ext w0) j w' := fun w' h => ownU_all h (hE.trans h)
      refine lx_val rfl rfl (v := .pointer (some ⟨G, 1, none⟩)) (fun w' _ => by go_simp; try rfl) ?_
      go_simp
      refine lx_val rfl rfl (v := pv) (fun w' (hw' : Ext wr w') => by have hq := hw'.cell r1; clear r1; go_simp; try rfl) ?_
      go_simp
      refine lx_val rfl rfl (v := .pointer (some ⟨w.heap.size, 1, none⟩)) (fun w' _ => by go_simp; try rfl) ?_
      go_simp
      refine lx_val rfl rfl (v := .slice (some ⟨b, off, none⟩) ps.length pc) (fun w' (hw' : Ext w0 w') => by have hq := hw'.cell c1; clear c1; go_simp; try rfl) ?_
      go_simp
      refine lx_move rfl rfl rfl rfl ?_
      go_simp
      refine lx_val rfl rfl (v := .pointer (some ⟨b, off + j, none⟩)) (fun w' _ => by go_simp; try rfl) ?_
      go_simp
      refine lx_val rfl rfl (v := .float .f32 (el ps j)) (fun w' (hw' : Ext w0 w') => by have hq := hw'.cell hcell; clear hcell; go_simp; try rfl) ?_
      go_simp
      refine lx_new rfl rfl (fun n => by go_simp; exact ⟨rfl, rfl⟩) (fun w' h j _ _ => hU w' (hEq.trans h) j) (fun w3 e3 h3 s3 => ?_)
      replace s3 := Lib.hid s3
      replace h3 := Lib.hid h3
      go_simp
      have hE3 := hEq.trans e3
      refine lx_appF Try.underlying22 hi0 hz0 hs0 hb0 rfl rfl rfl rfl rfl (hG.places.ext hE3) (by simp only [pick_length, List.length_take]; omega) (by have := hE3.size; omega) (cell_of_row _ _ _ _ _ _ h3.out) (fun wa hC => ownU_aft (by kernel_rfl) (Chg.ext (hE.trans hE3) hC (fun q e => by have := (hGl q (.inl e)).1; omega))) (fun v' wa hO hC hv => ?_)
      obtain ⟨ap, cp, e9, _⟩ := hO.fr
      have hlen : (pick (l.take k) ps ++ [el ps j]).length = k + 1 := by simp [pick_length]; omega
      rw [hlen] at e9
      clear hlen
      subst e9
      go_simp
      obtain ⟨hCa, hbox⟩ := hG.place hE3 hO hC hv
      have hEA : Ext w0 wa := Chg.ext (hE.trans hE3) hC (fun q e => by have := (hGl q (.inl e)).1; omega)
      clear hO hC hv hU hG hGl r1 h3
      refine lx_val rfl rfl (v := .pointer (some ⟨G, 1, none⟩)) (fun w' _ => by go_simp; try rfl) ?_
      go_simp
      have hz2 := hCa.fz 1
      have hc2 := hCa.at 1
      refine lx_effS rfl rfl (W' := fun n => (wa.drewN n).setCell ⟨G, 1, none⟩ (.slice ap (k + 1) cp)) (fun n => by go_simp; try rfl) (fun n => ownU_aft (by kernel_rfl) (Ext.setCell (hEA.drewN n) hzG _)) (fun n4 => ?_)
      refine lx_nil fun n5 => ?_
      have hEF : Ext w0 (((wa.drewN n4).setCell ⟨G, 1, none⟩ (.slice ap (k + 1) cp)).drewN n5) := (Ext.setCell (hEA.drewN n4) hzG _).drewN n5
      replace hbox := hbox n4 n5
      rw [← HJ.out, ← take_pick l ps k hlt] at hbox
      clear hCa hz2 hc2 hEA hE3 e3 s3 hEq
      generalize ((wa.drewN n4).setCell ⟨G, 1, none⟩ (.slice ap (k + 1) cp)).drewN n5 = wy at hbox hEF ⊢
      go_wp2_with fail
      -- the row
      have g2 := hbox.at2
      have hGl := hbox.own.lt
      have y2 := hEF.cell c2
      have yr := hEF.cell hrcell
      have hzy := hEF.size
      have hGy := hbox.lt
      go_region_law
        (first
          | (go_simp; go_at_call 80; refine (clone_any _ _ _ _ (hfr.ext (hEF.trans (by repeat (first | assumption | exact Ext.refl _ | apply Ext.drewN | apply Ext.drew | apply Ext.alloc)))) (by omega)).mono ?_; rintro _ w1 ⟨uv, rfl, e1, hu1⟩; obtain ⟨ua, uc, rfl, _⟩ := OwnF.fr hu1; (have e1' : Ext wy w1 := Ext.trans (by repeat (first | assumption | exact Ext.refl _ | apply Ext.drewN | apply Ext.drew | apply Ext.alloc)) e1); (have hfu := fresh_of hu1 (N := wy.heap.size) (Nat.le_refl _)); (have k2 := e1'.cell y2); (have k3 := e1'.cell yr); (have k4 := e1'.cell g2); (have k5 : ∀ o, (w1.alloc o).cell? ⟨G, 2, none⟩ = some rv := fun o => (e1'.alloc o).cell g2); (have X1 : ∀ W, Ext w1 W → Ext wy W := fun W h => e1'.trans h); (have X2 : ∀ W, Ext w1 W → OwnF W G (.slice ua (row rs j).length uc) (row rs j) := fun W h => (hu1.ext h).mono (Nat.le_of_lt hGy)))
          | (refine step_appendR rfl (.tmp 29) (.tmp 36) rfl Try.underlying23 hi1 hz1 hs1 hb24 (base := G) (v := rv) (u := .slice ua (row rs j).length uc) (r := row rs j) (vs := vs) (rs := pickR (l.take k) rs) ?_ ?_ ?_ ?_ ?_ ?_ ?_ ?_ ?_; (exact rfl); (exact ⟨_, rfl, cell_new _ _ _⟩); (refine hbox.rows.ext (X1 _ ?_); (repeat (first | assumption | exact Ext.refl _ | apply Ext.drewN | apply Ext.drew | apply Ext.alloc))); (simp only [pickR_length, List.length_take]; omega); (refine Nat.le_trans (Nat.le_of_lt hGy) (X1 _ ?_).size; (repeat (first | assumption | exact Ext.refl _ | apply Ext.drewN | apply Ext.drew | apply Ext.alloc))); (refine X2 _ ?_; (repeat (first | assumption | exact Ext.refl _ | apply Ext.drewN | apply Ext.drew | apply Ext.alloc))); (exact fresh_ne hfu (fun q e => (hGl q (.inr (.inl e))).2)); (exact fresh_d hfu (fun q e => (hGl q (.inr (.inr e))).2)); intro v' wa hR hC hv; obtain ⟨hCa, hbox2⟩ := hbox.row (X1 _ (by repeat (first | assumption | exact Ext.refl _ | apply Ext.drewN | apply Ext.drew | apply Ext.alloc))) hR hC hv (fun q hq => ⟨fun e => by have := hfu q hq; omega, fun e => by have h8 := hfu q hq; have h9 := (hGl q (.inl e)).2; omega⟩); (have hEa : Ext w0 wa := Chg.ext (hEF.trans (X1 _ (by repeat (first | assumption | exact Ext.refl _ | apply Ext.drewN | apply Ext.drew | apply Ext.alloc)))) hC (fun q e => Nat.le_trans hzG (hGl q (.inr (.inl e))).1)); (have m1 := hCa.at 2); (have m2 := hCa.fz 2); (obtain ⟨ar, cr, e9, _⟩ := hR.fr); (have hlen : (pickR (l.take k) rs ++ [row rs j]).length = k + 1 := by simp [pickR_length]; omega); (rw [hlen] at e9); (clear hlen); (subst e9)))
      all_goals
        go_wp2_with fail
        go_roundw
        case rel => exact ⟨k + 1, .slice ap (k + 1) cp, .slice ar (k + 1) cr, _, by omega, by go_num, by rw [take_pickR l rs k hlt, HJ.out]; exact hbox2 0 0, Ext.setCell hEa hzG _⟩
        case measure => simp [intOf]; omega
    · obtain rfl : l.length = k := by omega
      rw [List.take_length] at hG
      have hGG := HG.out
      rw [← hGG] at hG
      obtain ⟨pa', pc', rfl, hfp⟩ := hG.places.fr
      obtain ⟨ra', rc', rfl, hfr⟩ := hG.rows.fr
      have hC := hG.cells
      rw [hGG] at hC
      clear hGG
      cases hv : gOk t (cl (pick l ps)) (cls (pickR l rs)) with
      | false =>
        go_wp2_with (first | (refine wpList_load_row rfl _ _ rfl _ rfl _ _ _ _ hC Try.underlying25 rfl infoG ?_) | (refine wpList_load_row rfl _ _ rfl _ rfl _ _ _ _ hC5 Try.underlying25 rfl infoG ?_) | (go_at_call 106; refine (implValid_any t _ _ _ _ _ _ false _ hfp hfr hl2 hv).mono ?_; rintro _ w5 ⟨rfl, hE5⟩; (have hC5 := hC.ext hE5); obtain ⟨r0, r1, r2, f0, f1, f2⟩ := six (B0.ext (hE.trans hE5))))
        (try simp only [Exit.inBlock, Exit.then])
        refine bodyPost_ret (results_row2 rfl _ _ _ _ _ _ rfl (Cells.set (Cells.set (Cells.set (B0.ext (hE.trans hE5)) 0 _) 1 _) 2 _) Try.underlying25 rfl infoG) rfl ?_
        obtain ⟨k1, _⟩ := (hG.ext hE5).out (.int .i64 0) (.slice none 0 0) (.slice none 0 0) E0 (Nat.le_succ _) (by have := HZ.out; have := hG.lt; omega) (hE.trans hE5)
        exact givesHO_none (by unfold chosenO; rw [← cl_pick, ← cls_pickR, hv]; rfl) k1
      | true =>
        go_wp2_with (first | (refine wpList_load_row rfl _ _ rfl _ rfl _ _ _ _ hC Try.underlying25 rfl infoG ?_) | (refine wpList_load_row rfl _ _ rfl _ rfl _ _ _ _ hC5 Try.underlying25 rfl infoG ?_) | (go_at_call 106; refine (implValid_any t _ _ _ _ _ _ true _ hfp hfr hl2 hv).mono ?_; rintro _ w5 ⟨rfl, hE5⟩; (have hC5 := hC.ext hE5); obtain ⟨r0, r1, r2, f0, f1, f2⟩ := six (B0.ext (hE.trans hE5))))
        (try simp only [Exit.inBlock, Exit.then])
        refine bodyPost_ret (results_row2 rfl _ _ _ _ _ _ rfl (Cells.set (Cells.set (Cells.set (B0.ext (hE.trans hE5)) 0 _) 1 _) 2 _) Try.underlying25 rfl infoG) rfl ?_
        obtain ⟨k1, k3⟩ := (hG.ext hE5).out (.int .i64 t) (.slice pa' (pick l ps).length pc') (.slice ra' (pickR l rs).length rc') E0 (Nat.le_succ _) (by have := HZ.out; omega) (hE.trans hE5)
        exact givesHO_some (by unfold chosenO; rw [← cl_pick, ← cls_pickR, hv]; rfl) k1 k3 rfl rfl
end Go.Proofs.Ytnjgcacnfobmiaa
