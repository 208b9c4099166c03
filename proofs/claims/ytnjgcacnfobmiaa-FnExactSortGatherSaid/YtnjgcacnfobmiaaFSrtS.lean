/- SortGather: the reference's. -/
import Derived.Test.YtnjgcacnfobmiaaSrt
import Derived.Test.YtnjgcacnfobmiaaFShgS
namespace Go.Proofs.Ytnjgcacnfobmiaa
open Go.RowKit
set_option maxRecDepth 100000
set_option linter.unusedVariables false

set_option maxHeartbeats 8000000 in
theorem specSrt_any (t : Int) (pa : Option Addr) (pc : Nat) (ps : List Nat) (ra : Option Addr) (rc : Nat) (rs : List (List Nat)) (w : World) (hp : FR w pa ps) (hr : RS w ra rs) (hl : ps.length + (rs.length + tot rs) ≤ 1048576) :
    Calls Try.prog 56 #[.agg #[.int .i64 t, .slice pa ps.length pc, .slice ra rs.length rc]] w (GivesHO (sortO t (cl ps) (cls rs)) w) := by
  generalize hA : (w.alloc (.cells #[.int .i64 t, .slice pa ps.length pc, .slice ra rs.length rc] 25)).alloc (.cells #[.int .i64 0, .slice none 0 0, .slice none 0 0] 25) = w0
  have E0 : Ext w w0 := by rw [← hA]; exact ((Ext.refl w).alloc _).alloc _
  have A0 : Cells w0 w.heap.size #[.int .i64 t, .slice pa ps.length pc, .slice ra rs.length rc] 25 := by rw [← hA]; exact (Cells.new w _ _).alloc _
  have B0 : Cells w0 (w.heap.size + 1) #[.int .i64 0, .slice none 0 0, .slice none 0 0] 25 := by rw [← hA]; exact Cells.new1 w _ _ _
  have hpw := hp.ext E0
  have hrw := hr.ext E0
  have HA := Lib.hid hA
  clear hA
  have c0 := A0.at 0
  have c1 := A0.at 1
  have c2 := A0.at 2
  simp only [List.getElem?_toArray, List.getElem?_cons_succ, List.getElem?_cons_zero] at c0 c1 c2
  cases hv : gOk t (cl ps) (cls rs) with
  | false =>
    have hn : Hid (sortO t (cl ps) (cls rs) = none) := by unfold Hid sortO; rw [hv]; rfl
    go_enter Try.func56, Try.ntmps56
    go_wp2_with (first | (go_at_call 103; (try rw [HA.out]); refine (l04Is_any _ t _ _ _ _ _ _ false _ c0 c1 c2 hpw hrw hl hv).mono ?_; rintro _ _ ⟨rfl, n1, rfl⟩; obtain ⟨r0, r1, r2, f0, f1, f2⟩ := six B0))
    (try simp only [Exit.inBlock, Exit.then])
    refine bodyPost_ret (results_row2 rfl _ _ _ _ _ _ rfl (Cells.set (Cells.set (Cells.set (B0.ext ((Ext.refl w0).drewN n1)) 0 _) 1 _) 2 _) Try.underlying25 rfl infoG) rfl ?_
    exact givesHO_none hn.out (Ext.setCell (Ext.setCell (Ext.setCell (E0.drewN n1) (Nat.le_succ _) _) (Nat.le_succ _) _) (Nat.le_succ _) _)
  | true =>
  obtain ⟨g1, g2, g3, g4⟩ := gOk_parts hv
  have HS : Hid (sortO t (cl ps) (cls rs) = some (t, pick (ordK (cl ps)) (cl ps), pickR (ordK (cl ps)) (cls rs))) := by unfold Hid sortO; rw [hv]; rfl
  have hr0 : ∀ i, i < rs.length → 0 < (row rs i).length := fun i hi => by have := g4 i hi; omega
  have HG4 := Lib.hid g4
  have HG3 := Lib.hid g3
  clear g4 g3
  go_enter Try.func56, Try.ntmps56
  go_wp2_with (first | (go_at_call 103; (try rw [HA.out]); refine (l04Is_any _ t _ _ _ _ _ _ true _ c0 c1 c2 hpw hrw hl hv).mono ?_; rintro _ _ ⟨rfl, n1, rfl⟩; skip) | (go_at_call 104; refine (l04Own_any _ t _ _ _ _ _ _ _ (by exact c0) (by exact c1) (by exact c2) (by exact hpw) (by exact hrw) hl (by omega) hr0).mono ?_; rintro _ w5 ⟨pv, rv, vsO, rfl, hE5, hO5⟩; obtain ⟨⟨pO, qO, rfl, _⟩, ⟨rO, sO, rfl, _⟩⟩ := OwnG.fr hO5))
  obtain ⟨bO, rfl, _, _, _⟩ := OwnF.at hO5.1 (k := 0) (by omega)
  obtain ⟨bR, rfl, _, _, _⟩ := OwnRows.at hO5.2.1 (k := 0) (by have := HG3.out; omega)
  have hvO : Hid (vsO.length = ps.length) := by unfold Hid; rw [hO5.2.1.1]; exact HG3.out
  obtain ⟨G1, G3⟩ := own_box (t := t) hO5 hE5.size
  have hE50 : Ext w0 w5 := Ext.of_drewN hE5
  replace G3 := hE50.trans G3
  generalize (w5.alloc (.cells #[.int .i64 t, .slice (some ⟨bO, 0, none⟩) ps.length qO, .slice (some ⟨bR, 0, none⟩) rs.length sO] 25)) = w8 at G1 G3 ⊢
  obtain ⟨gO, hgO⟩ : ∃ g, w5.heap.size = g := ⟨_, rfl⟩
  rw [hgO] at G1 ⊢
  change GBox w8 w0.heap.size _ _ _ _ _ _ _ at G1
  clear hgO hO5 hE5 hE50 c0 c1 c2
  obtain ⟨C, hC0⟩ : ∃ C, C = cl ps := ⟨_, rfl⟩
  have HC := Lib.hid hC0
  rw [← hC0] at HS
  clear hC0
  have hgob := G1.2.1
  have hbOb := (G1.own.lt bO (.inl rfl)).1
  have hbRb := (G1.own.lt bR (.inr (.inl rfl))).1
  go_loopw [5] (fun i wr => ∃ m : Nat, 1 ≤ m ∧ m ≤ ps.length ∧ i = .int .i64 m ∧ GBox wr w0.heap.size gO t (.slice (some ⟨bO, 0, none⟩) ps.length qO) (.slice (some ⟨bR, 0, none⟩) rs.length sO) (pickV (sortK C (List.range ps.length) m) vsO) (pick (sortK C (List.range ps.length) m) ps) (pickR (sortK C (List.range ps.length) m) rs) ∧ Ext w0 wr) (fun i _ => ps.length - (intOf i).toNat)
  case atStart =>
    refine ⟨1, Nat.le_refl _, by omega, rfl, ?_, G3⟩
    show GBox w8 w0.heap.size gO t _ _ (pickV (List.range ps.length) vsO) (pick (List.range ps.length) ps) (pickR (List.range ps.length) rs)
    rw [pickV_range _ _ hvO.out, pick_range, pickR_range _ _ HG3.out]
    exact G1
  case round =>
    obtain ⟨m, hm1, hm, rfl, hG, hE⟩ := hrel
    clear G1 G3
    have a1 := hG.at1
    by_cases hlt : m < ps.length
    · go_wp2_with fail
      clear a1
      obtain ⟨SL, hSL⟩ : ∃ S, S = sortK C (List.range ps.length) m := ⟨_, rfl⟩
      have HSL := Lib.hid hSL
      rw [← hSL] at hG
      have hSn : SL.length = ps.length := by rw [hSL, sortK_len, List.length_range]
      have hSb : below SL ps.length := by rw [hSL]; exact below_sortK _ _ _ (below_range _) _ (by rw [List.length_range]; omega)
      clear hSL
      go_loopw [6] (fun i wi => ∃ (j : Nat) (L : List Nat), j ≤ m ∧ i = .int .i64 j ∧ Hid (L.length = ps.length) ∧ below L ps.length ∧ Hid (insK C j L = insK C m SL) ∧ GBox wi w0.heap.size gO t (.slice (some ⟨bO, 0, none⟩) ps.length qO) (.slice (some ⟨bR, 0, none⟩) rs.length sO) (pickV L vsO) (pick L ps) (pickR L rs) ∧ Ext w0 wi) (fun i _ => (intOf i).toNat)
      case atStart => exact ⟨m, SL, Nat.le_refl _, rfl, hSn, hSb, rfl, hG, hE⟩
      case round =>
        obtain ⟨j, L, hj, rfl, hLn, hLb, hLi, hI, hEi⟩ := hrel
        rcases Nat.eq_zero_or_pos j with rfl | hj0
        · -- at the front
          go_wp2_with fail
          refine wp_region_lex (fun _ => Drawn wr) (fun _ => false) (fun _ _ => True) (by kernel_rfl) (by kernel_rfl) (by kernel_rfl) (fun _ => drawn_more _) (fun _ => ⟨0, rfl⟩) (fun n0 => ?_)
          (refine lw_move rfl rfl rfl rfl ?_; go_simp)
          (refine lw_valD rfl rfl (fun nn => by go_simp; rfl) ?_; go_simp)
          (refine lw_move rfl rfl rfl rfl ?_; go_simp)
          (refine lw_skip rfl ?_; go_simp)
          (refine lw_skip rfl ?_; go_simp)
          (refine lw_skip rfl ?_; go_simp)
          (refine lw_skip rfl ?_; go_simp)
          (refine lw_skip rfl ?_; go_simp)
          (refine lw_skip rfl ?_; go_simp)
          (refine lw_skip rfl ?_; go_simp)
          (refine lw_skip rfl ?_; go_simp)
          (refine lw_skip rfl ?_; go_simp)
          (refine lw_skip rfl ?_; go_simp)
          (refine lw_skip rfl ?_; go_simp)
          (refine lw_skip rfl ?_; go_simp)
          (refine lw_valD rfl rfl (fun nn => by go_simp; rfl) ?_; go_simp)
          refine lw_nil fun n8 => ?_
          have hsrt : Hid (sortK C (List.range ps.length) (m + 1) = L) := by
            unfold Hid; show insK C m (sortK C (List.range ps.length) m) = L; rw [← HSL.out]; exact hLi.out.symm
          have hIz := (hI.drewN n0).drewN n8
          go_wp2_with fail
          go_roundw
          case rel => exact ⟨m + 1, by omega, by omega, by go_num, by rw [hsrt.out]; exact hI.drewN _, hEi.drewN _⟩
          case measure => simp [intOf]; omega
        · obtain ⟨jp, rfl⟩ : ∃ jp, j = jp + 1 := ⟨j - 1, by omega⟩
          have hLn' := hLn.out
          have a1 := hI.at1
          obtain ⟨hcx, hfx⟩ := OwnF.at' hI.places (k := jp + 1) (by rw [pick_length]; omega)
          obtain ⟨hcy, hfy⟩ := OwnF.at' hI.places (k := jp) (by rw [pick_length]; omega)
          rw [el_pick (by omega)] at hcx hcy
          have hIx : Is .f32 (el ps (elv L (jp + 1))) (el C (elv L (jp + 1))) := by rw [HC.out]; exact is_el (hLb _ (by omega))
          have hIy : Is .f32 (el ps (elv L jp)) (el C (elv L jp)) := by rw [HC.out]; exact is_el (hLb _ (by omega))
          replace hLn := Lib.hid hLn'
          clear hLn'
          have hwp : IntKind.i64.wrap (jp : Int) = (jp : Int) := IntWalk.i64_in _ (by omega)
          have p0 : (0 : Int) ≤ (jp : Int) + 1 := by omega
          have p1 : (0 : Int) < (jp : Int) + 1 := by omega
          have e0 : ((jp : Int) + 1).toNat = jp + 1 := by omega
          have jz : (jp : Int) + 1 < (ps.length : Int) := by omega
          have jz1 : (jp : Int) < (ps.length : Int) := by omega
          have jzn : jp < ps.length := by omega
          cases hq : fcmp .lss .f32 (el C (elv L (jp + 1))) (el C (elv L jp)) with
          | false =>
            go_wp2_with fail
            refine wp_region_lex (fun _ => Drawn wr) (fun _ => false) (fun _ _ => True) (by kernel_rfl) (by kernel_rfl) (by kernel_rfl) (fun _ => drawn_more _) (fun _ => ⟨0, rfl⟩) (fun n0 => ?_)
            (refine lw_move rfl rfl rfl rfl ?_; go_simp)
            (refine lw_valD rfl rfl (fun nn => by go_simp; rfl) ?_; go_simp)
            (refine lw_move rfl rfl rfl rfl ?_; go_simp)
            (refine lw_valD rfl rfl (fun nn => by go_simp; rfl) ?_; go_simp)
            (refine lw_valD rfl rfl (fun nn => by go_simp; rfl) ?_; go_simp)
            (refine lw_move rfl rfl rfl rfl ?_; go_simp)
            (refine lw_valD rfl rfl (fun nn => by go_simp; rfl) ?_; go_simp)
            (refine lw_valD rfl rfl (fun nn => by go_simp; rfl) ?_; go_simp)
            (refine lw_valD rfl rfl (fun nn => by go_simp; rfl) ?_; go_simp)
            (refine lw_valD rfl rfl (fun nn => by go_simp; rfl) ?_; go_simp)
            (refine lw_move rfl rfl rfl rfl ?_; go_simp)
            (refine lw_valD rfl rfl (fun nn => by go_simp; rfl) ?_; go_simp)
            (refine lw_valD rfl rfl (fun nn => by go_simp; rfl) ?_; go_simp)
            (refine lw_valD rfl rfl (fun nn => by go_simp; rfl) ?_; go_simp)
            (refine lw_cmp rfl rfl rfl rfl rfl rfl hIx hIy hq ?_; go_simp)
            (refine lw_valD rfl rfl (fun nn => by go_simp; rfl) ?_; go_simp)
            refine lw_nil fun n8 => ?_
            have hsrt : Hid (sortK C (List.range ps.length) (m + 1) = L) := by
              unfold Hid; show insK C m (sortK C (List.range ps.length) m) = L; rw [← HSL.out, ← hLi.out]; exact insK_stop hq
            have hIz := (hI.drewN n0).drewN n8
            clear hwp p0 p1 e0 jz jz1
            go_wp2_with fail
            go_roundw
            case rel => exact ⟨m + 1, by omega, by omega, by go_num, by rw [hsrt.out]; exact hI.drewN _, hEi.drewN _⟩
            case measure => simp [intOf]; omega
          | true =>
            have hins : Hid (insK C jp (swp L jp) = insK C m SL) := by unfold Hid; rw [← hLi.out]; exact (insK_go hq).symm
            go_wp2_with fail
            refine wp_region_lex (fun _ => Drawn wr) (fun _ => false) (fun _ _ => True) (by kernel_rfl) (by kernel_rfl) (by kernel_rfl) (fun _ => drawn_more _) (fun _ => ⟨0, rfl⟩) (fun n0 => ?_)
            (refine lw_move rfl rfl rfl rfl ?_; go_simp)
            (refine lw_valD rfl rfl (fun nn => by go_simp; rfl) ?_; go_simp)
            (refine lw_move rfl rfl rfl rfl ?_; go_simp)
            (refine lw_valD rfl rfl (fun nn => by go_simp; rfl) ?_; go_simp)
            (refine lw_valD rfl rfl (fun nn => by go_simp; rfl) ?_; go_simp)
            (refine lw_move rfl rfl rfl rfl ?_; go_simp)
            (refine lw_valD rfl rfl (fun nn => by go_simp; rfl) ?_; go_simp)
            (refine lw_valD rfl rfl (fun nn => by go_simp; rfl) ?_; go_simp)
            (refine lw_valD rfl rfl (fun nn => by go_simp; rfl) ?_; go_simp)
            (refine lw_valD rfl rfl (fun nn => by go_simp; rfl) ?_; go_simp)
            (refine lw_move rfl rfl rfl rfl ?_; go_simp)
            (refine lw_valD rfl rfl (fun nn => by go_simp; rfl) ?_; go_simp)
            (refine lw_valD rfl rfl (fun nn => by go_simp; rfl) ?_; go_simp)
            (refine lw_valD rfl rfl (fun nn => by go_simp; rfl) ?_; go_simp)
            (refine lw_cmp rfl rfl rfl rfl rfl rfl hIx hIy hq ?_; go_simp)
            (refine lw_valD rfl rfl (fun nn => by go_simp; rfl) ?_; go_simp)
            refine lw_nil fun n8 => ?_
            have hI9 := (hI.drewN n0).drewN n8
            have hE9 : Ext w0 ((wr.drewN n0).drewN n8) := (hEi.drewN n0).drewN n8
            clear a1 hcx hcy hfx hfy
            generalize (wr.drewN n0).drewN n8 = w9 at hI9 hE9 ⊢
            clear hI hEi n0 n8
            have a1 := hI9.at1
            obtain ⟨hcx, hfx⟩ := OwnF.at' hI9.places (k := jp + 1) (by rw [pick_length, hLn.out]; omega)
            obtain ⟨hcy, hfy⟩ := OwnF.at' hI9.places (k := jp) (by rw [pick_length, hLn.out]; omega)
            rw [el_pick (by rw [hLn.out]; omega)] at hcx hcy
            go_wp2_with fail
            refine wp_region_mix (ownU [1, 4, 8] (Drawn w9) (fun _ => True)) (fun i => i == 10) (fun _ _ => True) (by kernel_rfl) (by kernel_rfl) (by kernel_rfl) (ownU_drew (drawn_more _) (fun _ _ h => h)) (ownU_all (drawn_self _) trivial) (fun n0 => ?_)
            repeat (first
          | (refine lx_nil ?_; intro nq)
          | (refine lx_skip rfl ?_; go_simp)
          | (refine lx_move rfl rfl rfl rfl ?_; go_simp)
          | (refine lx_assign rfl rfl rfl rfl ?_; go_simp)
          | (refine lx_bin rfl rfl rfl rfl rfl rfl (by first | assumption | exact is_ofInt _ _ | exact is_self) (by first | assumption | exact is_ofInt _ _ | exact is_self) ?_; intro r hr; go_simp)
          | (refine lx_val rfl rfl (fun w' _ => by go_simp; rfl) ?_; go_simp)
          | (refine lx_val rfl rfl (fun w' hw' => by (obtain ⟨mm, rfl⟩ : Drawn w9 w' := hw'); go_simp; rfl) ?_; go_simp))
            refine lx_effS rfl rfl (W' := fun n => ((w9.drewN n0).drewN n).setCell ⟨bO, jp + 1, none⟩ (.float .f32 (el ps (elv L jp)))) (fun n => by go_simp; try rfl) (fun n => ownU_aft (by kernel_rfl) trivial) (fun n1 => ?_)
            refine lx_nil fun n3 => ?_
            have hI11 := (gbox_putP ((hI9.drewN n0).drewN n1) (jp + 1) (el ps (elv L jp))).drewN n3
            have hE11 : Ext w0 ((((w9.drewN n0).drewN n1).setCell ⟨bO, jp + 1, none⟩ (.float .f32 (el ps (elv L jp)))).drewN n3) := (Ext.setCell ((hE9.drewN n0).drewN n1) hbOb _).drewN n3
            clear a1 hcx hcy hfx hfy
            generalize (((w9.drewN n0).drewN n1).setCell ⟨bO, jp + 1, none⟩ (.float .f32 (el ps (elv L jp)))).drewN n3 = w11 at hI11 hE11 ⊢
            clear hI9 hE9
            have a1 := hI11.at1
            obtain ⟨hcy, hfy⟩ := OwnF.at' hI11.places (k := jp) (by rw [List.length_set, pick_length, hLn.out]; omega)
            go_upto_region 13 with fail
            have hI12 := gbox_putP hI11 jp (el ps (elv L (jp + 1)))
            have hE12 : Ext w0 (w11.setCell ⟨bO, jp, none⟩ (.float .f32 (el ps (elv L (jp + 1))))) := Ext.setCell hE11 hbOb _
            clear a1 hcy hfy
            generalize w11.setCell ⟨bO, jp, none⟩ (.float .f32 (el ps (elv L (jp + 1)))) = w12 at hI12 hE12 ⊢
            clear hI11 hE11
            have hps : ((pick L ps).set (jp + 1) (el ps (elv L jp))).set jp (el ps (elv L (jp + 1))) = pick (swp L jp) ps := by
              rw [pick_swp _ _ _ (by rw [hLn.out]; omega), el_pick (by rw [hLn.out]; omega), el_pick (by rw [hLn.out]; omega)]
            rw [hps] at hI12
            clear hps
            have hLr : L.length = rs.length := by rw [hLn.out, HG3.out]
            have HLR := Lib.hid hLr
            clear hLr
            have a2 := hI12.at2
            obtain ⟨ua, uc, hua, hcu, hfu⟩ := OwnRows.at' hI12.rows (k := jp + 1) (by rw [pickR_length, hLn.out]; omega)
            obtain ⟨ub, ud, hub, hcv, hfv⟩ := OwnRows.at' hI12.rows (k := jp) (by rw [pickR_length, hLn.out]; omega)
            have HUA := Lib.hid hua
            have HUB := Lib.hid hub
            clear hua hub
            have jr : (jp : Int) + 1 < (rs.length : Int) := by have := HG3.out; omega
            have jr1 : (jp : Int) < (rs.length : Int) := by have := HG3.out; omega
            have jrn : jp < rs.length := by have := HG3.out; omega
            go_wp2_with fail
            refine wp_region_mix (ownU [1, 4, 8] (Drawn w12) (fun _ => True)) (fun i => i == 10) (fun _ _ => True) (by kernel_rfl) (by kernel_rfl) (by kernel_rfl) (ownU_drew (drawn_more _) (fun _ _ h => h)) (ownU_all (drawn_self _) trivial) (fun n0 => ?_)
            repeat (first
          | (refine lx_nil ?_; intro nq)
          | (refine lx_skip rfl ?_; go_simp)
          | (refine lx_move rfl rfl rfl rfl ?_; go_simp)
          | (refine lx_assign rfl rfl rfl rfl ?_; go_simp)
          | (refine lx_bin rfl rfl rfl rfl rfl rfl (by first | assumption | exact is_ofInt _ _ | exact is_self) (by first | assumption | exact is_ofInt _ _ | exact is_self) ?_; intro r hr; go_simp)
          | (refine lx_val rfl rfl (fun w' _ => by go_simp; rfl) ?_; go_simp)
          | (refine lx_val rfl rfl (fun w' hw' => by (obtain ⟨mm, rfl⟩ : Drawn w12 w' := hw'); go_simp; rfl) ?_; go_simp))
            refine lx_effS rfl rfl (W' := fun n => ((w12.drewN n0).drewN n).setCell ⟨bR, jp + 1, none⟩ (.slice ub (row (pickR L rs) jp).length ud)) (fun n => by go_simp; try rfl) (fun n => ownU_aft (by kernel_rfl) trivial) (fun n1 => ?_)
            refine lx_nil fun n3 => ?_
            have hV12 : w12.ownsRow w0.heap.size 22 1 (.slice (some ⟨bR, 0, none⟩) rs.length sO) rs.length (pickV L vsO) := by have h := hI12.rows.2.1; rw [pickV_len, HLR.out] at h; exact h
            have hV14 : ((((w12.drewN n0).drewN n1).setCell ⟨bR, jp + 1, none⟩ (.slice ub (row (pickR L rs) jp).length ud)).drewN n3).ownsRow w0.heap.size 22 1 (.slice (some ⟨bR, 0, none⟩) rs.length sO) rs.length ((pickV L vsO).set (jp + 1) (.slice ub (row (pickR L rs) jp).length ud)) := (World.ownsRow.stored (w := (w12.drewN n0).drewN n1) (by exact hV12) (jp + 1) _).1
            have hC14 : Chg (fun q => q = bR) w12 ((((w12.drewN n0).drewN n1).setCell ⟨bR, jp + 1, none⟩ (.slice ub (row (pickR L rs) jp).length ud)).drewN n3) := by
              have h := chg_one (w12.drewN n0) bR (jp + 1) n1 n3 (.slice ub (row (pickR L rs) jp).length ud)
              exact ⟨h.os, h.tape, h.output, h.size, h.block⟩
            have hE14 : Ext w0 ((((w12.drewN n0).drewN n1).setCell ⟨bR, jp + 1, none⟩ (.slice ub (row (pickR L rs) jp).length ud)).drewN n3) := (Ext.setCell ((hE12.drewN n0).drewN n1) hbRb _).drewN n3
            clear a2 hcu hcv hfu hfv
            generalize (((w12.drewN n0).drewN n1).setCell ⟨bR, jp + 1, none⟩ (.slice ub (row (pickR L rs) jp).length ud)).drewN n3 = w14 at hV14 hC14 hE14 ⊢
            have a2 : w14.cell? ⟨gO, 2, none⟩ = some (.slice (some ⟨bR, 0, none⟩) rs.length sO) := Cells.at (cs := #[.int .i64 t, .slice (some ⟨bO, 0, none⟩) ps.length qO, .slice (some ⟨bR, 0, none⟩) rs.length sO]) ((hC14.block gO hI12.lt (fun e => hI12.2.2.2 bR (.inr (.inl rfl)) e.symm)).trans hI12.1) 2
            have hcv : w14.cell? ⟨bR, jp, none⟩ = some (.slice ub (row (pickR L rs) jp).length ud) := by
              rw [World.ownsRow.cellAt hV14 jp (by omega), List.getElem?_set_ne (by omega), va_get (by rw [pickV_len, HLR.out]; exact jrn), HUB.out]
            have hfv := World.ownsRow.frozenAt hV14 jp
            have hV15 := (World.ownsRow.stored hV14 jp (.slice ua (row (pickR L rs) (jp + 1)).length uc)).1
            have hI15 := gbox_swap (w2 := w14.setCell ⟨bR, jp, none⟩ (.slice ua (row (pickR L rs) (jp + 1)).length uc)) hI12 (hC14.trans (chg_setCell w14 bR jp _)) (j := jp) (by rw [pickR_length, HLR.out]; omega) (by rw [pickV_len, HLR.out]; unfold swV; rw [HUA.out, HUB.out]; exact hV15)
            have hsV : swV (pickV L vsO) jp = pickV (swp L jp) vsO := (pickV_swp _ _ _ (by rw [hLn.out]; omega)).symm
            have hsR : swR (pickR L rs) jp = pickR (swp L jp) rs := (pickR_swp _ _ _ (by rw [hLn.out]; omega)).symm
            rw [hsV, hsR] at hI15
            replace hI15 := Lib.hid hI15
            have hE15 := Lib.hid (Ext.setCell hE14 hbRb (p := ⟨bR, jp, none⟩) (.slice ua (row (pickR L rs) (jp + 1)).length uc))
            clear hV12 hV14 hV15 hC14 hsV hsR hI12 hE12 hE14
            go_wp2_with fail
            go_roundw
            case rel => exact ⟨jp, swp L jp, by omega, (by first | rfl | go_num), by unfold Hid; rw [swp_len]; exact hLn.out, below_swp hLb (by rw [hLn.out]; omega), hins, hI15.out, hE15.out⟩
            case measure => simp [intOf]
    · obtain rfl : ps.length = m := by omega
      obtain ⟨r0, r1, r2, f0, f1, f2⟩ := six (B0.ext hE)
      have hC := hG.cells
      go_wp2_with (first | (refine wpList_load_row rfl _ _ rfl _ rfl _ _ _ _ hC Try.underlying25 rfl infoG ?_))
      (try simp only [Exit.inBlock, Exit.then])
      refine bodyPost_ret (results_row2 rfl _ _ _ _ _ _ rfl (Cells.set (Cells.set (Cells.set (B0.ext hE) 0 _) 1 _) 2 _) Try.underlying25 rfl infoG) rfl ?_
      obtain ⟨j1, j3⟩ := OwnG.out3 (w := w) (.int .i64 t) (.slice (some ⟨bO, 0, none⟩) ps.length qO) (.slice (some ⟨bR, 0, none⟩) rs.length sO) hG.own (Nat.le_succ _) B0.lt (E0.trans hE)
      exact givesHO_some (by rw [← HC.out]; exact HS.out) j1 j3 (by rw [cl_pick, ← HC.out]; unfold ordK; rw [HC.out, cl_length]) (by rw [cls_pickR]; unfold ordK; rw [HC.out, cl_length])
end Go.Proofs.Ytnjgcacnfobmiaa
