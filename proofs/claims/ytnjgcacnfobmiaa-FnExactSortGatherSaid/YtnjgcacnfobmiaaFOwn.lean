/- l04Own: the reference's copy of a gather. -/
import Derived.Test.YtnjgcacnfobmiaaBox
import Derived.Deep.RegionHeldLaw
namespace Go.Proofs.Ytnjgcacnfobmiaa
open Go.RowKit
set_option maxRecDepth 100000
set_option linter.unusedVariables false

theorem own_start2 {w0 wx : World} {g gp gr c' : Nat} {t : Int} {cs : Array Value} {ps : List Nat} (hx : Ext w0 wx) (hg : wx.heap[g]? = some (.cells #[.int .i64 t, .slice (some ⟨gp, 0, none⟩) ps.length c', .slice (some ⟨gr, 0, none⟩) 0 0] 25 (0, 0)))
    (hp : wx.heap[gp]? = some (.cells cs 34 (0, 0))) (hr : wx.heap[gr]? = some (.cells #[] 22 (0, 0))) (hrow : RowOk cs c' ps) (n1 : w0.heap.size ≤ g) (n2 : w0.heap.size ≤ gp) (n3 : w0.heap.size ≤ gr) (n4 : gp ≠ g) (n5 : gr ≠ g) (n6 : gp ≠ gr) :
    ∃ g' pv rv, Value.pointer (some ⟨g, 0, none⟩) = .pointer (some ⟨g', 0, none⟩) ∧ GBox wx w0.heap.size g' t pv rv [] ps [] ∧ Ext w0 wx :=
  ⟨g, _, _, rfl, ⟨hg, n1, ⟨hrow.own hp n2, ownRows_at hr n3, fun k e => ⟨fun e' => n6 (by injection e with e; injection e' with e'; exact e.trans e'.symm), fun ⟨i, hi, _⟩ => by simp at hi⟩⟩, fun k hk => by
    rcases hk with e | e | ⟨i, hi, _⟩
    · injection e with e; subst e; exact n4
    · injection e with e; subst e; exact n5
    · simp at hi⟩, hx⟩
set_option maxHeartbeats 4000000 in
theorem l04Own_any (B : Nat) (t : Int) (pa : Option Addr) (pc : Nat) (ps : List Nat) (ra : Option Addr) (rc : Nat) (rs : List (List Nat)) (w : World) (h0 : w.cell? ⟨B, 0, none⟩ = some (.int .i64 t)) (h1 : w.cell? ⟨B, 1, none⟩ = some (.slice pa ps.length pc)) (h2 : w.cell? ⟨B, 2, none⟩ = some (.slice ra rs.length rc)) (hp : FR w pa ps) (hr : RS w ra rs) (hl : ps.length + (rs.length + tot rs) ≤ 1048576) (hp0 : 0 < ps.length) (hr0 : ∀ i, i < rs.length → 0 < (row rs i).length) :
    Calls Try.prog 104 #[.pointer (some ⟨B, 0, none⟩)] w fun e w' => ∃ pv rv vs, e = .returned (.agg #[.int .i64 t, pv, rv]) ∧ Ext w w' ∧ OwnG w' w.heap.size pv rv vs ps rs := by
  obtain ⟨i0, hi0, hz0, hs0, hb0⟩ := info_parts info32
  obtain ⟨i1, hi1, hz1, hs1, hb24⟩ := info_parts infoS
  generalize hA : w.alloc (.cells #[.int .i64 0, .slice none 0 0, .slice none 0 0] 25) = w0
  have E0 : Ext w w0 := by rw [← hA]; exact (Ext.refl w).alloc _
  have B0 : Cells w0 w.heap.size #[.int .i64 0, .slice none 0 0, .slice none 0 0] 25 := by rw [← hA]; exact Cells.new w _ _
  have c0 := E0.cell h0
  have c1 := E0.cell h1
  have c2 := E0.cell h2
  have hpw := hp.ext E0
  have hrw := hr.ext E0
  have HA := Lib.hid hA
  clear hA h0 h1 h2
  go_enter Try.func104, Try.ntmps104
  go_wp2_with fail
  rw [HA.out]
  go_cut [3] from 5 to 16 (fun pp wx => ∃ g pv rv, pp = .pointer (some ⟨g, 0, none⟩) ∧ GBox wx w0.heap.size g t pv rv [] ps [] ∧ Ext w0 wx)
  case first =>
    have S6 : ∀ w', Ext w0 w' → (Ext w0 w' ∧ w'.cell? ⟨B, 0, none⟩ = some (.int .i64 t) ∧ w'.cell? ⟨B, 1, none⟩ = some (.slice pa ps.length pc)) := fun w' h => ⟨h, h.cell c0, h.cell c1⟩
    go_region_held_law (fun w' => Ext w0 w' ∧ w'.cell? ⟨B, 0, none⟩ = some (.int .i64 t) ∧ w'.cell? ⟨B, 1, none⟩ = some (.slice pa ps.length pc))
      (first | (refine S6 _ ?_; (repeat (first | exact Ext.refl _ | apply Ext.drewN | apply Ext.drew | apply Ext.alloc))))
      (first | (refine step_append0 rfl (.tmp 9) (.tmp 13) rfl Try.underlying22 hi0 hz0 hs0 hb0 (ao := pa) (c := pc) (xs := ps) ?_ ?_ ?_ ?_ ?_ ?_; (exact ⟨_, rfl⟩); (exact rfl); (refine hpw.ext ?_; (repeat (first | exact Ext.refl _ | apply Ext.drewN | apply Ext.drew | apply Ext.alloc))); (exact hp0); (omega); intro cs c' hO1))
    all_goals (go_wp2_with fail)
    all_goals go_meet
    all_goals (refine own_start2 (by repeat (first | exact Ext.refl _ | apply Ext.drewN | apply Ext.drew | apply Ext.alloc)) (by repeat (first | (refine heap_here ?_; (simp only [size_alloc]; done)) | refine heap_past ?_ | refine heap_drew ?_)) (by repeat (first | (refine heap_here ?_; (simp only [size_alloc]; done)) | refine heap_past ?_ | refine heap_drew ?_)) (by repeat (first | (refine heap_here ?_; (simp only [size_alloc]; done)) | refine heap_past ?_ | refine heap_drew ?_)) hO1 (by omega) (by omega) (by omega) (by omega) (by omega) (by omega))
  case rest =>
    obtain ⟨g, pv, rv0, rfl, hG0, hE0⟩ := hcut
    go_wp2_with fail
    go_loopw [4] (fun i wr => ∃ (k : Nat) (rv : Value) (vs : List Value), k ≤ rs.length ∧ i = .int .i64 k ∧ GBox wr w0.heap.size g t pv rv vs ps (rs.take k) ∧ Ext w0 wr) (fun i _ => rs.length - (intOf i).toNat)
    case atStart => exact ⟨0, _, [], Nat.zero_le _, rfl, hG0, hE0⟩
    case round =>
      obtain ⟨k, rv, vs, hk, rfl, hG, hE⟩ := hrel
      have k2 := hE.cell c2
      by_cases hlt : k < rs.length
      · obtain ⟨b, off, ka, kc, rfl, hcell, hfr⟩ := hrw k hlt
        have r2 := hG.at2
        have hlr := row_tot rs k hlt
        go_wp2_with fail
        clear k2
        refine wp_region_mix (ownU [1] (Ext wr) (Ext w0)) (fun i => i == 2 || i == 10 || i == 11 || i == 12 || i == 14) (fun _ _ => True) (by kernel_rfl) (by kernel_rfl) (by kernel_rfl) (ownU_drew (fun _ n h => Ext.drewN h n) (fun _ n h => Ext.drewN h n)) (ownU_all (Ext.refl _) hE) (fun n0 => ?_)
        have hEq : Ext wr (wr.drewN n0) := (Ext.refl wr).drewN n0
        generalize wr.drewN n0 = wq at hEq ⊢
        have hU : ∀ w' : World, Ext wr w' → ∀ j, ownU [1] (Ext wr) (Ext w0) j w' := fun w' h => ownU_all h (hE.trans h)
        refine lx_val rfl rfl (v := .pointer (some ⟨g, 2, none⟩)) (fun w' _ => by go_simp; try rfl) ?_
        go_simp
        refine lx_val rfl rfl (v := rv) (fun w' (hw' : Ext wr w') => by have hq := hw'.cell r2; clear r2; go_simp; try rfl) ?_
        go_simp
        refine lx_new rfl rfl (fun n => by go_simp; exact ⟨rfl, rfl⟩) (fun w' h j _ _ => hU w' (hEq.trans h) j) (fun w1 e1 h1 s1 => ?_)
        replace s1 := Lib.hid s1
        replace h1 := Lib.hid h1
        go_simp
        refine lx_move rfl rfl rfl rfl ?_
        go_simp
        refine lx_val rfl rfl (v := .pointer (some ⟨B, 0, none⟩)) (fun w' _ => by go_simp; try rfl) ?_
        go_simp
        refine lx_val rfl rfl (v := .pointer (some ⟨B, 2, none⟩)) (fun w' _ => by go_simp; try rfl) ?_
        go_simp
        refine lx_val rfl rfl (v := .slice (some ⟨b, off, none⟩) rs.length rc) (fun w' (hw' : Ext w0 w') => by have hq := hw'.cell c2; clear c2; go_simp; try rfl) ?_
        go_simp
        refine lx_move rfl rfl rfl rfl ?_
        go_simp
        refine lx_val rfl rfl (v := .pointer (some ⟨b, off + k, none⟩)) (fun w' _ => by go_simp; try rfl) ?_
        go_simp
        refine lx_val rfl rfl (v := .slice ka (row rs k).length kc) (fun w' (hw' : Ext w0 w') => by have hq := hw'.cell hcell; clear hcell; go_simp; try rfl) ?_
        go_simp
        have hE1 := hEq.trans e1
        refine lx_app0 Try.underlying22 hi0 hz0 hs0 hb0 rfl rfl rfl rfl rfl (hfr.ext (hE.trans hE1)) (hr0 k hlt) (by omega) (fun w' h j _ _ => hU w' (hE1.trans h) j) (fun w2 cu e2 hu2 s2 => ?_)
        replace s2 := Lib.hid s2
        replace hu2 := Lib.hid hu2
        go_simp
        have hE2 := hE1.trans e2
        refine lx_new rfl rfl (fun n => by go_simp; exact ⟨rfl, rfl⟩) (fun w' h j _ _ => hU w' (hE2.trans h) j) (fun w3 e3 h3 s3 => ?_)
        replace s3 := Lib.hid s3
        replace h3 := Lib.hid h3
        go_simp
        have hE3 := hE2.trans e3
        have z0 := hE0.size
        have z1 := hE1.size
        have hz := hE.size
        have s1' := s1.out
        have s2' := s2.out
        have s3' := s3.out
        have hub : ∀ q, (Value.slice (some ⟨w1.heap.size, 0, none⟩) (row rs k).length cu).ownBlock = some q → q = w1.heap.size := fun q e => by cases e; rfl
        have hGl := hG.own.lt
        have hgl := hG.lt
        refine lx_appR Try.underlying23 hi1 hz1 hs1 hb24 rfl rfl rfl rfl rfl (hG.rows.ext hE3) (by simp only [List.length_take]; omega) (hE.trans hE3).size (cell_of_row _ _ _ _ _ _ h3.out) ((hu2.out.ext e3).mono (by omega)) (.inl (fun e => by have := (hGl w1.heap.size (.inr (.inl e.symm))).2; omega)) (fun j q hj hq e => by have h4 := hub q hq; have := (hGl q (.inr (.inr ⟨j, hj, e⟩))).2; omega) (fun wa hC => ownU_aft (by kernel_rfl) (Chg.ext (hE.trans hE3) hC (fun q e => (hGl q (.inr (.inl e))).1))) (fun v' wa hR hC hv => ?_)
        clear s1' s2' s3'
        obtain ⟨ar, cr, e9, _⟩ := hR.fr
        have hlen : (rs.take k ++ [row rs k]).length = k + 1 := by simp; omega
        rw [hlen] at e9
        clear hlen
        subst e9
        go_simp
        obtain ⟨hCa, hbox⟩ := hG.row hE3 hR hC hv (fun q hq => by have h4 := hub q hq; have s1' := s1.out; have s2' := s2.out; exact ⟨by omega, fun e => by have := (hGl q (.inl e)).2; omega⟩)
        have hEA : Ext w0 wa := Chg.ext (hE.trans hE3) hC (fun q e => (hGl q (.inr (.inl e))).1)
        have hgb := hG.2.1
        clear hR hC hv hU hG hGl r2 h1 h3
        refine lx_val rfl rfl (v := .pointer (some ⟨g, 2, none⟩)) (fun w' _ => by go_simp; try rfl) ?_
        go_simp
        have hz2 := hCa.fz 2
        have hc2 := hCa.at 2
        refine lx_effS rfl rfl (W' := fun n => (wa.drewN n).setCell ⟨g, 2, none⟩ (.slice ar (k + 1) cr)) (fun n => by go_simp; try rfl) (fun n => ownU_aft (by kernel_rfl) (Ext.setCell (hEA.drewN n) hgb _)) (fun n4 => ?_)
        refine lx_nil fun n5 => ?_
        have hEF : Ext w0 (((wa.drewN n4).setCell ⟨g, 2, none⟩ (.slice ar (k + 1) cr)).drewN n5) := (Ext.setCell (hEA.drewN n4) hgb _).drewN n5
        replace hbox := hbox n4 n5
        rw [← take_succ_row rs k hlt] at hbox
        generalize ((wa.drewN n4).setCell ⟨g, 2, none⟩ (.slice ar (k + 1) cr)).drewN n5 = wz at hbox hEF ⊢
        go_wp2
        go_roundw
        case rel => exact ⟨k + 1, _, _, by omega, by go_num, hbox, hEF⟩
        case measure => simp [intOf]; omega
      · obtain rfl : rs.length = k := by omega
        rw [List.take_length] at hG
        have BR : Cells wr w.heap.size #[.int .i64 0, .slice none 0 0, .slice none 0 0] 25 := B0.ext hE
        have r0 := BR.at 0
        have r1 := BR.at 1
        have r2 := BR.at 2
        have f0 := BR.fz 0
        have f1 := BR.fz 1
        have f2 := BR.fz 2
        simp only [List.getElem?_toArray, List.getElem?_cons_succ, List.getElem?_cons_zero] at r0 r1 r2
        obtain ⟨pa', pc', rfl, _⟩ := hG.places.fr
        obtain ⟨ra', rc', rfl, _⟩ := hG.rows.fr
        have hC := hG.cells
        go_wp2_with (first | (refine wpList_load_row rfl _ _ rfl _ rfl _ _ _ _ hC Try.underlying25 rfl infoG ?_))
        (try simp only [Exit.inBlock, Exit.then])
        refine bodyPost_ret (results_cell_row rfl _ _ _ _ _ (0, 0) _ rfl (Cells.set (Cells.set (Cells.set BR 0 _) 1 _) 2 _) Try.underlying25 rfl infoG) rfl ?_
        obtain ⟨k1, k3⟩ := hG.out (.int .i64 t) (.slice pa' ps.length pc') (.slice ra' rs.length rc') E0 (Nat.le_refl _) B0.lt hE
        exact ⟨_, _, vs, rfl, k1, k3⟩
end Go.Proofs.Ytnjgcacnfobmiaa
