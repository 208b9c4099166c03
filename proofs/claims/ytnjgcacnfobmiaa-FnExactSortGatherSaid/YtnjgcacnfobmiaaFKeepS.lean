/- KeepPlaces: the reference's. -/
import Derived.Test.YtnjgcacnfobmiaaKBox
namespace Go.Proofs.Ytnjgcacnfobmiaa
open Go.RowKit
set_option maxRecDepth 100000
set_option linter.unusedVariables false

set_option maxHeartbeats 4000000 in
theorem specKeep_any (t : Int) (pa : Option Addr) (pc : Nat) (ps : List Nat) (ra : Option Addr) (rc : Nat) (rs : List (List Nat)) (lo s1 hi s2 : Nat) (w : World) (hp : FR w pa ps) (hr : RS w ra rs) (hl : ps.length + (rs.length + tot rs) ≤ 1048576) (hlo : Is .f32 lo s1) (hhi : Is .f32 hi s2) :
    Calls Try.prog 45 #[.agg #[.int .i64 t, .slice pa ps.length pc, .slice ra rs.length rc], .float .f32 lo, .float .f32 hi] w (GivesHO (keepO t (cl ps) (cls rs) s1 s2) w) := by
  obtain ⟨i0, hi0, hz0, hs0, hb0⟩ := info_parts info32
  obtain ⟨i1, hi1, hz1, hs1, hb24⟩ := info_parts infoS
  generalize hA : (w.alloc (.cells #[.int .i64 t, .slice pa ps.length pc, .slice ra rs.length rc] 25)).alloc (.cells #[.int .i64 0, .slice none 0 0, .slice none 0 0] 25) = w0
  have E0 : Ext w w0 := by rw [← hA]; exact ((Ext.refl w).alloc _).alloc _
  have A0 : Cells w0 w.heap.size #[.int .i64 t, .slice pa ps.length pc, .slice ra rs.length rc] 25 := by rw [← hA]; exact (Cells.new w _ _).alloc _
  have B0 : Cells w0 (w.heap.size + 1) #[.int .i64 0, .slice none 0 0, .slice none 0 0] 25 := by rw [← hA]; exact Cells.new1 w _ _ _
  have hpw := hp.ext E0
  have hrw := hr.ext E0
  have HA := Lib.hid hA
  clear hA
  have c0 := A0.at 0
  have c1 := A0.at 1
  have c2 := A0.at 2
  simp only [List.getElem?_toArray, List.getElem?_cons_succ, List.getElem?_cons_zero] at c0 c1 c2
  cases hv : gOk t (cl ps) (cls rs) with
  | false =>
    go_enter Try.func45, Try.ntmps45
    go_wp2_with (first | (go_at_call 103; (try rw [HA.out]); refine (l04Is_any _ t _ _ _ _ _ _ false _ c0 c1 c2 hpw hrw hl hv).mono ?_; rintro _ _ ⟨rfl, n1, rfl⟩; obtain ⟨r0, r1, r2, f0, f1, f2⟩ := six B0))
    (try simp only [Exit.inBlock, Exit.then])
    refine bodyPost_ret (results_row2 rfl _ _ _ _ _ _ rfl (Cells.set (Cells.set (Cells.set (B0.ext ((Ext.refl w0).drewN n1)) 0 _) 1 _) 2 _) Try.underlying25 rfl infoG) rfl ?_
    exact givesHO_none (by unfold keepO; rw [hv]; rfl) (Ext.setCell (Ext.setCell (Ext.setCell (E0.drewN n1) (Nat.le_succ _) _) (Nat.le_succ _) _) (Nat.le_succ _) _)
  | true =>
    obtain ⟨g1, g2, g3, g4⟩ := gOk_parts hv
    have HS : Hid (keepO t (cl ps) (cls rs) s1 s2 = chosenO t (cl ps) (cls rs) (keepI (cl ps) s1 s2 ps.length)) := by unfold Hid keepO; rw [hv, cl_length]; rfl
    have hr0 : ∀ i, i < rs.length → 0 < (row rs i).length := fun i hi => by have := g4 i hi; omega
    have HG4 := Lib.hid g4
    have HG3 := Lib.hid g3
    clear g4 g3
    go_enter Try.func45, Try.ntmps45
    go_wp2_with (first | (go_at_call 103; (try rw [HA.out]); refine (l04Is_any _ t _ _ _ _ _ _ true _ c0 c1 c2 hpw hrw hl hv).mono ?_; rintro _ _ ⟨rfl, n1, rfl⟩) | (go_at_call 104; refine (l04Own_any _ t _ _ _ _ _ _ _ (by exact c0) (by exact c1) (by exact c2) (by exact hpw) (by exact hrw) hl (by omega) hr0).mono ?_; rintro _ w5 ⟨pv, rv, vsO, rfl, hE5, hO5⟩; obtain ⟨⟨pO, qO, rfl, _⟩, ⟨rO, sO, rfl, _⟩⟩ := OwnG.fr hO5; (have c0' : ∀ o, (w5.alloc o).cell? ⟨w.heap.size, 0, none⟩ = some (.int .i64 t) := fun o => (hE5.alloc o).cell (by exact c0))))
    obtain ⟨bO, rfl, _, _, _⟩ := OwnF.at hO5.1 (k := 0) (by omega)
    obtain ⟨bR, rfl, _, _, _⟩ := OwnRows.at hO5.2.1 (k := 0) (by have := HG3.out; omega)
    have hb5 : w0.heap.size ≤ w5.heap.size := hE5.size
    obtain ⟨G1, G2, G3⟩ := two_boxes (t := t) hO5 hE5.size
    have hlO := hO5.lt
    have hE50 : Ext w0 w5 := Ext.of_drewN hE5
    replace G3 := hE50.trans G3
    generalize ((((w5.alloc (.cells #[.int .i64 t, .slice (some ⟨bO, 0, none⟩) ps.length qO, .slice (some ⟨bR, 0, none⟩) rs.length sO] 25)).alloc (.cells #[] 34)).alloc (.cells #[] 22)).alloc (.cells #[.int .i64 t, .slice (some ⟨w5.heap.size + 1, 0, none⟩) 0 0, .slice (some ⟨w5.heap.size + 1 + 1, 0, none⟩) 0 0] 25)) = w8 at G1 G2 G3 ⊢
    obtain ⟨gO, hgO⟩ : ∃ g, w5.heap.size = g := ⟨_, rfl⟩
    rw [hgO] at G1 G2 ⊢
    obtain ⟨gX, hgX⟩ : ∃ g, gO + 1 + 1 + 1 = g := ⟨_, rfl⟩
    rw [hgX] at G2 ⊢
    have hBO : gO + 1 ≤ gX := by omega
    have hlO' : ∀ q, gB (.slice (some ⟨bO, 0, none⟩) ps.length qO) (.slice (some ⟨bR, 0, none⟩) rs.length sO) vsO q → q < gO + 1 := fun q hq => by have := (hlO q hq).2; omega
    have hbs : w0.heap.size ≤ gO := by omega
    have K1 : ∀ q, (Value.slice (some ⟨gO + 1, 0, none⟩) 0 0).ownBlock = some q → gO + 1 ≤ q := fun q e => by injection e with e; have h1 : gO + 1 = q := e; omega
    have K2 : ∀ q, (Value.slice (some ⟨gO + 1 + 1, 0, none⟩) 0 0).ownBlock = some q → gO + 1 ≤ q := fun q e => by injection e with e; have h1 : gO + 1 + 1 = q := e; omega
    clear hgO hgX hlO hO5 hE5 hE50 c0' c0 c1 c2
    change GBox w8 w0.heap.size _ _ _ _ _ _ _ at G1
    change GBox w8 w0.heap.size _ _ _ _ _ _ _ at G2
    go_loopw [10] (fun i wr => ∃ (k : Nat) (pv rv : Value), k ≤ ps.length ∧ i = .int .i64 k ∧ GBox wr w0.heap.size gX t pv rv (pickV (keepI (cl ps) s1 s2 k) vsO) (pick (keepI (cl ps) s1 s2 k) ps) (pickR (keepI (cl ps) s1 s2 k) rs) ∧ GBox wr w0.heap.size gO t (.slice (some ⟨bO, 0, none⟩) ps.length qO) (.slice (some ⟨bR, 0, none⟩) rs.length sO) vsO ps rs ∧ (∀ q, pv.ownBlock = some q → gO + 1 ≤ q) ∧ (∀ q, rv.ownBlock = some q → gO + 1 ≤ q) ∧ Ext w0 wr) (fun i _ => ps.length - (intOf i).toNat)
    case atStart => exact ⟨0, _, _, Nat.zero_le _, rfl, G2, G1, K1, K2, G3⟩
    case round =>
      obtain ⟨k, pv, rv, hk, rfl, hX, hO, hPv, hRv, hE⟩ := hrel
      clear G1 G2 G3 K1 K2
      have o1 := hO.at1
      have o2 := hO.at2
      by_cases hlt : k < ps.length
      · obtain ⟨hcell, hcf⟩ := OwnF.at' hO.places hlt
        have hIs : Is .f32 (el ps k) (el (cl ps) k) := is_el hlt
        have hkl := keepI_len (cl ps) s1 s2 k
        have hkr : k < rs.length := by rw [HG3.out]; exact hlt
        obtain ⟨ua, uc, hua, hrcell, hrf⟩ := OwnRows.at' hO.rows hkr
        cases hk1 : fcmp .geq .f32 (el (cl ps) k) s1 with
        | false =>
          have hb : keepI (cl ps) s1 s2 (k + 1) = keepI (cl ps) s1 s2 k := by rw [keepI_succ]; unfold keepB; rw [hk1]; simp
          replace hb := Lib.hid hb
          clear hua
          go_wp2_with (refine wl_cmp rfl rfl rfl rfl rfl hIs hlo hk1 ?_)
          go_roundw
          case rel => exact ⟨k + 1, _, _, by omega, by go_num, by rw [hb.out]; exact hX, hO, hPv, hRv, (by repeat (first | assumption | exact Ext.refl _ | apply Ext.drewN | apply Ext.alloc | (refine Ext.setCell ?_ (by first | assumption | exact Nat.le_refl _) _)))⟩
          case measure => simp [intOf]; omega
        | true =>
          cases hk2 : fcmp .leq .f32 (el (cl ps) k) s2 with
          | false =>
            have hb : keepI (cl ps) s1 s2 (k + 1) = keepI (cl ps) s1 s2 k := by rw [keepI_succ]; unfold keepB; rw [hk1, hk2]; simp
            replace hb := Lib.hid hb
            clear hua
            go_wp2_with (first | (refine wl_cmp rfl rfl rfl rfl rfl hIs hlo hk1 ?_) | (refine wl_cmp rfl rfl rfl rfl rfl hIs hhi hk2 ?_))
            go_roundw
            case rel => exact ⟨k + 1, _, _, by omega, by go_num, by rw [hb.out]; exact hX, hO, hPv, hRv, (by repeat (first | assumption | exact Ext.refl _ | apply Ext.drewN | apply Ext.alloc | (refine Ext.setCell ?_ (by first | assumption | exact Nat.le_refl _) _)))⟩
            case measure => simp [intOf]; omega
          | true =>
            have hb : keepI (cl ps) s1 s2 (k + 1) = keepI (cl ps) s1 s2 k ++ [k] := by rw [keepI_succ]; unfold keepB; rw [hk1, hk2]; simp
            replace hb := Lib.hid hb
            replace hua := Lib.hid hua
            go_wp2_with (first | (refine wl_cmp rfl rfl rfl rfl rfl hIs hlo hk1 ?_) | (refine wl_cmp rfl rfl rfl rfl rfl hIs hhi hk2 ?_))
            -- the place
            have x1 := hX.at1
            have hXl := hX.own.lt
            have hgx := hX.lt
            have hbz : w0.heap.size ≤ wr.heap.size := hE.size
            have hgb := hX.2.1
            refine wp_region_mix (ownU [1, 3, 6] (Ext wr) (fun _ => True)) (fun i => i == 7 || i == 8 || i == 10) (fun _ _ => True) (by kernel_rfl) (by kernel_rfl) (by kernel_rfl) (ownU_drew (fun _ n h => Ext.drewN h n) (fun _ _ _ => trivial)) (ownU_all (Ext.refl _) trivial) (fun n0 => ?_)
            have hEq : Ext wr (wr.drewN n0) := (Ext.refl wr).drewN n0
            generalize wr.drewN n0 = wq at hEq ⊢
            have hU : ∀ w' : World, Ext wr w' → ∀ j, ownU [1, 3, 6] (Ext wr) (fun _ => True) j w' := fun w' h => ownU_all h trivial
            refine lx_val rfl rfl (v := .pointer (some ⟨gX, 1, none⟩)) (fun w' _ => by go_simp; try rfl) ?_
            go_simp
            refine lx_val rfl rfl (v := pv) (fun w' (hw' : Ext wr w') => by have hq := hw'.cell x1; clear x1; go_simp; try rfl) ?_
            go_simp
            refine lx_val rfl rfl (v := .pointer (some ⟨gO, 1, none⟩)) (fun w' _ => by go_simp; try rfl) ?_
            go_simp
            refine lx_val rfl rfl (v := .slice (some ⟨bO, 0, none⟩) ps.length qO) (fun w' (hw' : Ext wr w') => by have hq := hw'.cell o1; clear o1; go_simp; try rfl) ?_
            go_simp
            refine lx_move rfl rfl rfl rfl ?_
            go_simp
            refine lx_val rfl rfl (v := .pointer (some ⟨bO, k, none⟩)) (fun w' _ => by go_simp; try rfl) ?_
            go_simp
            refine lx_val rfl rfl (v := .float .f32 (el ps k)) (fun w' (hw' : Ext wr w') => by have hq := hw'.cell hcell; clear hcell; go_simp; try rfl) ?_
            go_simp
            refine lx_new rfl rfl (fun n => by go_simp; exact ⟨rfl, rfl⟩) (fun w' h j _ _ => hU w' (hEq.trans h) j) (fun w3 e3 h3 s3 => ?_)
            replace s3 := Lib.hid s3
            replace h3 := Lib.hid h3
            go_simp
            have hE3 := hEq.trans e3
            refine lx_appF Try.underlying22 hi0 hz0 hs0 hb0 rfl rfl rfl rfl rfl (hX.places.ext hE3) (by rw [pick_length]; omega) (by have := hE3.size; omega) (cell_of_row _ _ _ _ _ _ h3.out) (fun wa hC => ownU_aft (by kernel_rfl) trivial) (fun v' wa hA hC hv' => ?_)
            obtain ⟨ap, cp, e9, _⟩ := hA.fr
            subst e9
            go_simp
            obtain ⟨hCa, hbox⟩ := hX.place hE3 hA hC hv'
            have hEA : Ext w0 wa := Chg.ext (hE.trans hE3) hC (fun q e => (hXl q (.inl e)).1)
            have hOk := hO.kept hE3 hC hPv hBO (Nat.lt_succ_self gO) hlO'
            have hPv' : ∀ q, (Value.slice ap (pick (keepI (cl ps) s1 s2 k) ps ++ [el ps k]).length cp).ownBlock = some q → gO + 1 ≤ q := fun q e => by
              rcases hv' with h5 | h5
              · exact hPv q (h5 ▸ e)
              · rw [h5] at e; injection e with e; have h6 := hE3.size; omega
            clear hA hC hv' hU hX x1 h3
            refine lx_val rfl rfl (v := .pointer (some ⟨gX, 1, none⟩)) (fun w' _ => by go_simp; try rfl) ?_
            go_simp
            have hz2 := hCa.fz 1
            have hc2 := hCa.at 1
            refine lx_effS rfl rfl (W' := fun n => (wa.drewN n).setCell ⟨gX, 1, none⟩ (.slice ap (pick (keepI (cl ps) s1 s2 k) ps ++ [el ps k]).length cp)) (fun n => by go_simp; try rfl) (fun n => ownU_aft (by kernel_rfl) trivial) (fun n4 => ?_)
            refine lx_nil fun n5 => ?_
            have hEF : Ext w0 (((wa.drewN n4).setCell ⟨gX, 1, none⟩ (.slice ap (pick (keepI (cl ps) s1 s2 k) ps ++ [el ps k]).length cp)).drewN n5) := (Ext.setCell (hEA.drewN n4) hgb _).drewN n5
            replace hbox := hbox n4 n5
            replace hOk := hOk 1 n4 n5 (.slice ap (pick (keepI (cl ps) s1 s2 k) ps ++ [el ps k]).length cp)
            clear hCa hz2 hc2 hEA hE3 e3 s3 hEq hXl hgx hbz hO o1 o2 hcell hcf hrcell hrf hE hPv
            generalize ((wa.drewN n4).setCell ⟨gX, 1, none⟩ (.slice ap (pick (keepI (cl ps) s1 s2 k) ps ++ [el ps k]).length cp)).drewN n5 = wy at hbox hEF hOk ⊢
            go_wp2_with fail
            -- the row
            have x2 := hbox.at2
            have o2 := hOk.at2
            have hXl := hbox.own.lt
            have hgx := hbox.lt
            have hbz : w0.heap.size ≤ wy.heap.size := hEF.size
            obtain ⟨ub, ud, hub, hrcell, hrf⟩ := OwnRows.at' hOk.rows hkr
            have hvk : k < vsO.length := by rw [hOk.rows.1]; exact hkr
            replace hub := Lib.hid hub
            refine wp_region_mix (ownU [1, 3, 6] (Ext wy) (fun _ => True)) (fun i => i == 7 || i == 8 || i == 10) (fun _ _ => True) (by kernel_rfl) (by kernel_rfl) (by kernel_rfl) (ownU_drew (fun _ n h => Ext.drewN h n) (fun _ _ _ => trivial)) (ownU_all (Ext.refl _) trivial) (fun n0 => ?_)
            have hEq : Ext wy (wy.drewN n0) := (Ext.refl wy).drewN n0
            generalize wy.drewN n0 = wp at hEq ⊢
            have hU : ∀ w' : World, Ext wy w' → ∀ j, ownU [1, 3, 6] (Ext wy) (fun _ => True) j w' := fun w' h => ownU_all h trivial
            refine lx_val rfl rfl (v := .pointer (some ⟨gX, 2, none⟩)) (fun w' _ => by go_simp; try rfl) ?_
            go_simp
            refine lx_val rfl rfl (v := rv) (fun w' (hw' : Ext wy w') => by have hq := hw'.cell x2; clear x2; go_simp; try rfl) ?_
            go_simp
            refine lx_val rfl rfl (v := .pointer (some ⟨gO, 2, none⟩)) (fun w' _ => by go_simp; try rfl) ?_
            go_simp
            refine lx_val rfl rfl (v := .slice (some ⟨bR, 0, none⟩) rs.length sO) (fun w' (hw' : Ext wy w') => by have hq := hw'.cell o2; clear o2; go_simp; try rfl) ?_
            go_simp
            refine lx_move rfl rfl rfl rfl ?_
            go_simp
            refine lx_val rfl rfl (v := .pointer (some ⟨bR, k, none⟩)) (fun w' _ => by go_simp; try rfl) ?_
            go_simp
            refine lx_val rfl rfl (v := .slice ub (row rs k).length ud) (fun w' (hw' : Ext wy w') => by have hq := hw'.cell hrcell; clear hrcell; go_simp; try rfl) ?_
            go_simp
            refine lx_new rfl rfl (fun n => by go_simp; exact ⟨rfl, rfl⟩) (fun w' h j _ _ => hU w' (hEq.trans h) j) (fun w3' e3 h3 s3 => ?_)
            replace s3 := Lib.hid s3
            replace h3 := Lib.hid h3
            go_simp
            have hE3 := hEq.trans e3
            have hubO : ∀ q, (Value.slice ub (row rs k).length ud).ownBlock = some q → gB (.slice (some ⟨bO, 0, none⟩) ps.length qO) (.slice (some ⟨bR, 0, none⟩) rs.length sO) vsO q := fun q e => .inr (.inr ⟨k, hvk, by rw [hub.out]; exact e⟩)
            have hu3 : OwnF w3' w0.heap.size (.slice ub (row rs k).length ud) (row rs k) := by have h4 := (hOk.rows.ext hE3).2.2.1 k hvk; rw [hub.out] at h4; exact h4
            have hfd : ∀ q, (Value.slice ub (row rs k).length ud).ownBlock = some q → q < gO + 1 := fun q e => hlO' q (hubO q e)
            refine lx_appR Try.underlying23 hi1 hz1 hs1 hb24 rfl rfl rfl rfl rfl (hbox.rows.ext hE3) (by rw [pickR_length]; omega) (by have := hE3.size; omega) (cell_of_row _ _ _ _ _ _ h3.out) hu3 (apart_ne hfd hRv) (fun j q hj hq e => by
              obtain ⟨h4, h5⟩ := keepI_nodup (cl ps) s1 s2 k vsO j hj
              rw [h4] at e
              exact hOk.rows.2.2.2.2 _ _ q (by omega) hvk (by omega) e (by rw [hub.out]; exact hq)) (fun wa hC => ownU_aft (by kernel_rfl) trivial) (fun v' wa hA hC hv' => ?_)
            obtain ⟨ar, cr, e9, _⟩ := hA.fr
            subst e9
            go_simp
            obtain ⟨hCa, hbox2⟩ := hbox.row hE3 hA hC hv' (fun q hq => ⟨fun e => by have h4 := hfd q hq; omega, fun e => by have h4 := hfd q hq; have h5 := hPv' q e; omega⟩)
            have hEA : Ext w0 wa := Chg.ext (hEF.trans hE3) hC (fun q e => (hXl q (.inr (.inl e))).1)
            have hOk2 := hOk.kept hE3 hC hRv hBO (Nat.lt_succ_self gO) hlO'
            have hRv' : ∀ q, (Value.slice ar (pickR (keepI (cl ps) s1 s2 k) rs ++ [row rs k]).length cr).ownBlock = some q → gO + 1 ≤ q := fun q e => by
              rcases hv' with h5 | h5
              · exact hRv q (h5 ▸ e)
              · rw [h5] at e; injection e with e; have h6 := hE3.size; omega
            clear hA hC hv' hU hbox x2 h3
            refine lx_val rfl rfl (v := .pointer (some ⟨gX, 2, none⟩)) (fun w' _ => by go_simp; try rfl) ?_
            go_simp
            have hz2 := hCa.fz 2
            have hc2 := hCa.at 2
            refine lx_effS rfl rfl (W' := fun n => (wa.drewN n).setCell ⟨gX, 2, none⟩ (.slice ar (pickR (keepI (cl ps) s1 s2 k) rs ++ [row rs k]).length cr)) (fun n => by go_simp; try rfl) (fun n => ownU_aft (by kernel_rfl) trivial) (fun n6 => ?_)
            refine lx_nil fun n7 => ?_
            have hEG : Ext w0 (((wa.drewN n6).setCell ⟨gX, 2, none⟩ (.slice ar (pickR (keepI (cl ps) s1 s2 k) rs ++ [row rs k]).length cr)).drewN n7) := (Ext.setCell (hEA.drewN n6) hgb _).drewN n7
            replace hbox2 := hbox2 n6 n7
            replace hOk2 := hOk2 2 n6 n7 (.slice ar (pickR (keepI (cl ps) s1 s2 k) rs ++ [row rs k]).length cr)
            clear hCa hz2 hc2 hEA hE3 e3 s3 hEq hXl hgx hbz hOk o2 hrcell hrf hEF hRv
            generalize ((wa.drewN n6).setCell ⟨gX, 2, none⟩ (.slice ar (pickR (keepI (cl ps) s1 s2 k) rs ++ [row rs k]).length cr)).drewN n7 = wz at hbox2 hEG hOk2 ⊢
            go_wp2
            go_roundw
            case rel => exact ⟨k + 1, _, _, by omega, by go_num, by rw [hb.out, pick_snoc, pickR_snoc, pickV_snoc, hub.out]; exact hbox2, hOk2, hPv', hRv', hEG⟩
            case measure => simp [intOf]; omega
      · obtain rfl : ps.length = k := by omega
        obtain ⟨pa', pc', rfl, hfp⟩ := hX.places.fr
        obtain ⟨ra', rc', rfl, hfr⟩ := hX.rows.fr
        have q0 := hX.at0
        have q1 := hX.at1
        have q2 := hX.at2
        have hC := hX.cells
        have hin : ∀ i, i < (keepI (cl ps) s1 s2 ps.length).length → elv (keepI (cl ps) s1 s2 ps.length) i < ps.length := fun i hi => keepI_lt _ _ _ _ i hi
        have hsm := pick_small hv (keepI (cl ps) s1 s2 ps.length) (Nat.le_trans (keepI_len _ _ _ _) g2.2) hin
        cases hw : gOk t (cl (pick (keepI (cl ps) s1 s2 ps.length) ps)) (cls (pickR (keepI (cl ps) s1 s2 ps.length) rs)) with
        | false =>
          go_wp2_with (first | (refine wpList_load_row rfl _ _ rfl _ rfl _ _ _ _ hC Try.underlying25 rfl infoG ?_) | (go_at_call 103; refine (l04Is_any _ t _ _ _ _ _ _ false _ (by exact q0) (by exact q1) (by exact q2) hfp hfr hsm hw).mono ?_; rintro _ _ ⟨rfl, n2, rfl⟩; obtain ⟨r0, r1, r2, f0, f1, f2⟩ := six (B0.ext (hE.drewN n2))))
          (try simp only [Exit.inBlock, Exit.then])
          refine bodyPost_ret (results_row2 rfl _ _ _ _ _ _ rfl (Cells.set (Cells.set (Cells.set (B0.ext (hE.drewN n2)) 0 _) 1 _) 2 _) Try.underlying25 rfl infoG) rfl ?_
          obtain ⟨k1, _⟩ := (hX.drewN n2).out (.int .i64 0) (.slice none 0 0) (.slice none 0 0) E0 (Nat.le_succ _) B0.lt (hE.drewN n2)
          exact givesHO_none (by rw [HS.out]; unfold chosenO; rw [← cl_pick, ← cls_pickR, hw]; rfl) k1
        | true =>
          go_wp2_with (first | (refine wpList_load_row rfl _ _ rfl _ rfl _ _ _ _ hC Try.underlying25 rfl infoG ?_) | (go_at_call 103; refine (l04Is_any _ t _ _ _ _ _ _ true _ (by exact q0) (by exact q1) (by exact q2) hfp hfr hsm hw).mono ?_; rintro _ _ ⟨rfl, n2, rfl⟩; obtain ⟨r0, r1, r2, f0, f1, f2⟩ := six (B0.ext (hE.drewN n2))))
          (try simp only [Exit.inBlock, Exit.then])
          refine bodyPost_ret (results_row2 rfl _ _ _ _ _ _ rfl (Cells.set (Cells.set (Cells.set (B0.ext (hE.drewN n2)) 0 _) 1 _) 2 _) Try.underlying25 rfl infoG) rfl ?_
          obtain ⟨k1, k3⟩ := (hX.drewN n2).out (.int .i64 t) (.slice pa' (pick (keepI (cl ps) s1 s2 ps.length) ps).length pc') (.slice ra' (pickR (keepI (cl ps) s1 s2 ps.length) rs).length rc') E0 (Nat.le_succ _) B0.lt (hE.drewN n2)
          exact givesHO_some (by rw [HS.out]; unfold chosenO; rw [← cl_pick, ← cls_pickR, hw]; rfl) k1 k3 rfl rfl
end Go.Proofs.Ytnjgcacnfobmiaa
