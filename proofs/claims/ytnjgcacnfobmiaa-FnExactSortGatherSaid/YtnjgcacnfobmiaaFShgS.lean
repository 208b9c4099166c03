/- ShiftGather: the reference's. -/
import Derived.Test.YtnjgcacnfobmiaaFShgI
namespace Go.Proofs.Ytnjgcacnfobmiaa
open Go.RowKit
set_option maxRecDepth 100000
set_option linter.unusedVariables false

theorem gbox_put {w : World} {base g gi n c : Nat} {t : Int} {pv rv : Value} {vs : List Value} {ps : List Nat} {rs : List (List Nat)} (h : GBox w base g t pv rv vs ps rs) {i : Nat} (hi : i < rs.length) (hv : va vs i = .slice (some ⟨gi, 0, none⟩) n c) (j r : Nat) :
    GBox (w.setCell ⟨gi, j, none⟩ (.float .f32 r)) base g t pv rv vs ps (rs.set i ((row rs i).set j r)) := by
  have hch := chg_setCell w gi j (.float .f32 r)
  have hvl : i < vs.length := by rw [h.rows.1]; exact hi
  have hrow : rowsB vs gi := ⟨i, hvl, by rw [hv]; rfl⟩
  obtain ⟨k1, k2, k3, k4, k5⟩ := h.rows
  have hst := (show OwnF w base (.slice (some ⟨gi, 0, none⟩) n c) (row rs i) by rw [← hv]; exact k3 i hvl).stored j r
  refine ⟨(hch.block g h.lt (fun e => (h.2.2.2 gi (.inr (.inr hrow))) e.symm)).trans h.1, h.2.1, ⟨h.places.chg hch (fun q hq e => (h.own.2.2 q hq).2 (by rw [show q = gi from e]; exact hrow)), ⟨by rw [List.length_set]; exact k1, ownsRow_chg k2 hch (fun q hq e => k4 i gi hvl (by rw [hv]; rfl) (by rw [hq]; exact congrArg some e)), fun m hm => ?_, k4, k5⟩, h.own.2.2⟩, h.2.2.2⟩
  rw [row_set _ hi]
  by_cases e : i = m
  · subst e
    rw [if_pos rfl, hv]
    exact hst.1
  · rw [if_neg e]
    exact (k3 m hm).chg hch (fun q hq e' => k5 i m gi hvl hm e (by rw [hv]; rfl) (by rw [hq]; exact congrArg some e'))
theorem set_row_self {rs : List (List Nat)} {k : Nat} (h : k < rs.length) : rs.set k (row rs k) = rs := by
  rw [row_eq h]
  exact List.set_getElem_self h
theorem shg_row {rs qs : List (List Nat)} {ds : List Int} {k N : Nat} {d : Int} {zs : List Nat} (hk : k < qs.length) (h : ∀ i, i < rs.length → cl (row qs i) = if i < k then tabP (shAt (cl (row rs i)) (elv ds i)) (row rs i).length else cl (row rs i))
    (hz : cl zs = tabP (shAt (cl (row rs k)) d) N ++ List.drop N (cl (row rs k))) (hd : elv ds k = d) (hN : (row rs k).length = N) : Hid (∀ i, i < rs.length → cl (row (qs.set k zs) i) = if i < k + 1 then tabP (shAt (cl (row rs i)) (elv ds i)) (row rs i).length else cl (row rs i)) := fun i hi => by
  rw [row_set _ hk]
  by_cases e : k = i
  · subst e
    rw [if_pos rfl, if_pos (by omega), hz, List.drop_of_length_le (by rw [cl_length]; omega), List.append_nil, hd, hN]
  · rw [if_neg e, h i hi]
    by_cases h1 : i < k
    · rw [if_pos h1, if_pos (by omega)]
    · rw [if_neg h1, if_neg (by omega)]
theorem shR_of {rs qs : List (List Nat)} {ds : List Int} (h1 : qs.length = rs.length) (h : ∀ i, i < rs.length → cl (row qs i) = tabP (shAt (cl (row rs i)) (elv ds i)) (row rs i).length) : cls qs = shR (cls rs) ds rs.length := by
  apply List.ext_getElem
  · rw [cls_len, shR_len, h1]
  · intro i hi hj
    rw [cls_len] at hi
    have h2 := h i (by omega)
    rw [row_eq hi] at h2
    simp only [cls, shR, List.getElem_map, List.getElem_range]
    rw [h2]
    have h3 := cls_row rs i
    unfold cls at h3
    rw [h3, cl_length]
theorem own_box {w5 : World} {base bO cO bR cR : Nat} {t : Int} {vsO : List Value} {ps : List Nat} {rs : List (List Nat)} (hO : OwnG w5 base (.slice (some ⟨bO, 0, none⟩) ps.length cO) (.slice (some ⟨bR, 0, none⟩) rs.length cR) vsO ps rs) (hb : base ≤ w5.heap.size) :
    GBox (w5.alloc (.cells #[.int .i64 t, .slice (some ⟨bO, 0, none⟩) ps.length cO, .slice (some ⟨bR, 0, none⟩) rs.length cR] 25)) base w5.heap.size t (.slice (some ⟨bO, 0, none⟩) ps.length cO) (.slice (some ⟨bR, 0, none⟩) rs.length cR) vsO ps rs ∧ Ext w5 (w5.alloc (.cells #[.int .i64 t, .slice (some ⟨bO, 0, none⟩) ps.length cO, .slice (some ⟨bR, 0, none⟩) rs.length cR] 25)) := by
  have hl := hO.lt
  have he : Ext w5 (w5.alloc (.cells #[.int .i64 t, .slice (some ⟨bO, 0, none⟩) ps.length cO, .slice (some ⟨bR, 0, none⟩) rs.length cR] 25)) := (Ext.refl w5).alloc _
  exact ⟨⟨heap_here rfl, hb, hO.ext he, fun k hk => by have := (hl k hk).2; omega⟩, he⟩
set_option maxHeartbeats 2000000 in
theorem specShg_no1 (t : Int) (pa : Option Addr) (pc : Nat) (ps : List Nat) (ra : Option Addr) (rc : Nat) (rs : List (List Nat)) (da : Option Addr) (dc : Nat) (ds : List Int) (w : World) (hp : FR w pa ps) (hr : RS w ra rs) (hl : ps.length + (rs.length + tot rs) ≤ 1048576) (hd : FRI w da ds) (hdl : ds.length ≤ 1048576) (hv : gOk t (cl ps) (cls rs) = false) :
    Calls Try.prog 53 #[.agg #[.int .i64 t, .slice pa ps.length pc, .slice ra rs.length rc], .slice da ds.length dc] w (GivesHO (shgO t (cl ps) (cls rs) ds) w) := by
  generalize hA : (w.alloc (.cells #[.int .i64 t, .slice pa ps.length pc, .slice ra rs.length rc] 25)).alloc (.cells #[.int .i64 0, .slice none 0 0, .slice none 0 0] 25) = w0
  have E0 : Ext w w0 := by rw [← hA]; exact ((Ext.refl w).alloc _).alloc _
  have A0 : Cells w0 w.heap.size #[.int .i64 t, .slice pa ps.length pc, .slice ra rs.length rc] 25 := by rw [← hA]; exact (Cells.new w _ _).alloc _
  have B0 : Cells w0 (w.heap.size + 1) #[.int .i64 0, .slice none 0 0, .slice none 0 0] 25 := by rw [← hA]; exact Cells.new1 w _ _ _
  have hpw := hp.ext E0
  have hrw := hr.ext E0
  have hdw := hd.ext E0
  have HA := Lib.hid hA
  clear hA
  have c0 := A0.at 0
  have c1 := A0.at 1
  have c2 := A0.at 2
  simp only [List.getElem?_toArray, List.getElem?_cons_succ, List.getElem?_cons_zero] at c0 c1 c2
  have hn : Hid (shgO t (cl ps) (cls rs) ds = none) := by unfold Hid shgO; rw [hv]; rfl
  go_enter Try.func53, Try.ntmps53
  go_wp2_with (first | (go_at_call 103; (try rw [HA.out]); refine (l04Is_any _ t _ _ _ _ _ _ false _ c0 c1 c2 hpw hrw hl hv).mono ?_; rintro _ _ ⟨rfl, n1, rfl⟩; obtain ⟨r0, r1, r2, f0, f1, f2⟩ := six B0))
  (try simp only [Exit.inBlock, Exit.then])
  refine bodyPost_ret (results_row2 rfl _ _ _ _ _ _ rfl (Cells.set (Cells.set (Cells.set (B0.ext ((Ext.refl w0).drewN n1)) 0 _) 1 _) 2 _) Try.underlying25 rfl infoG) rfl ?_
  exact givesHO_none hn.out (Ext.setCell (Ext.setCell (Ext.setCell (E0.drewN n1) (Nat.le_succ _) _) (Nat.le_succ _) _) (Nat.le_succ _) _)
set_option maxHeartbeats 2000000 in
theorem specShg_no2 (t : Int) (pa : Option Addr) (pc : Nat) (ps : List Nat) (ra : Option Addr) (rc : Nat) (rs : List (List Nat)) (da : Option Addr) (dc : Nat) (ds : List Int) (w : World) (hp : FR w pa ps) (hr : RS w ra rs) (hl : ps.length + (rs.length + tot rs) ≤ 1048576) (hd : FRI w da ds) (hdl : ds.length ≤ 1048576) (hv : gOk t (cl ps) (cls rs) = true) (hne : ¬ ds.length = rs.length) :
    Calls Try.prog 53 #[.agg #[.int .i64 t, .slice pa ps.length pc, .slice ra rs.length rc], .slice da ds.length dc] w (GivesHO (shgO t (cl ps) (cls rs) ds) w) := by
  generalize hA : (w.alloc (.cells #[.int .i64 t, .slice pa ps.length pc, .slice ra rs.length rc] 25)).alloc (.cells #[.int .i64 0, .slice none 0 0, .slice none 0 0] 25) = w0
  have E0 : Ext w w0 := by rw [← hA]; exact ((Ext.refl w).alloc _).alloc _
  have A0 : Cells w0 w.heap.size #[.int .i64 t, .slice pa ps.length pc, .slice ra rs.length rc] 25 := by rw [← hA]; exact (Cells.new w _ _).alloc _
  have B0 : Cells w0 (w.heap.size + 1) #[.int .i64 0, .slice none 0 0, .slice none 0 0] 25 := by rw [← hA]; exact Cells.new1 w _ _ _
  have hpw := hp.ext E0
  have hrw := hr.ext E0
  have hdw := hd.ext E0
  have HA := Lib.hid hA
  clear hA
  have c0 := A0.at 0
  have c1 := A0.at 1
  have c2 := A0.at 2
  simp only [List.getElem?_toArray, List.getElem?_cons_succ, List.getElem?_cons_zero] at c0 c1 c2
  have hn : Hid (shgO t (cl ps) (cls rs) ds = none) := by unfold Hid shgO; rw [hv, cls_len, decide_eq_false hne]; rfl
  have hne' : ¬ (ds.length : Int) = (rs.length : Int) := by omega
  go_enter Try.func53, Try.ntmps53
  go_wp2_with (first | (go_at_call 103; (try rw [HA.out]); refine (l04Is_any _ t _ _ _ _ _ _ true _ c0 c1 c2 hpw hrw hl hv).mono ?_; rintro _ _ ⟨rfl, n1, rfl⟩; obtain ⟨r0, r1, r2, f0, f1, f2⟩ := six B0))
  (try simp only [Exit.inBlock, Exit.then])
  refine bodyPost_ret (results_row2 rfl _ _ _ _ _ _ rfl (Cells.set (Cells.set (Cells.set (B0.ext ((Ext.refl w0).drewN n1)) 0 _) 1 _) 2 _) Try.underlying25 rfl infoG) rfl ?_
  exact givesHO_none hn.out (Ext.setCell (Ext.setCell (Ext.setCell (E0.drewN n1) (Nat.le_succ _) _) (Nat.le_succ _) _) (Nat.le_succ _) _)
set_option maxHeartbeats 8000000 in
theorem specShg_yes (t : Int) (pa : Option Addr) (pc : Nat) (ps : List Nat) (ra : Option Addr) (rc : Nat) (rs : List (List Nat)) (da : Option Addr) (dc : Nat) (ds : List Int) (w : World) (hp : FR w pa ps) (hr : RS w ra rs) (hl : ps.length + (rs.length + tot rs) ≤ 1048576) (hd : FRI w da ds) (hdl : ds.length ≤ 1048576) (hv : gOk t (cl ps) (cls rs) = true) (hne : ds.length = rs.length) :
    Calls Try.prog 53 #[.agg #[.int .i64 t, .slice pa ps.length pc, .slice ra rs.length rc], .slice da ds.length dc] w (GivesHO (shgO t (cl ps) (cls rs) ds) w) := by
  generalize hA : (w.alloc (.cells #[.int .i64 t, .slice pa ps.length pc, .slice ra rs.length rc] 25)).alloc (.cells #[.int .i64 0, .slice none 0 0, .slice none 0 0] 25) = w0
  have E0 : Ext w w0 := by rw [← hA]; exact ((Ext.refl w).alloc _).alloc _
  have A0 : Cells w0 w.heap.size #[.int .i64 t, .slice pa ps.length pc, .slice ra rs.length rc] 25 := by rw [← hA]; exact (Cells.new w _ _).alloc _
  have B0 : Cells w0 (w.heap.size + 1) #[.int .i64 0, .slice none 0 0, .slice none 0 0] 25 := by rw [← hA]; exact Cells.new1 w _ _ _
  have hpw := hp.ext E0
  have hrw := hr.ext E0
  have hdw := hd.ext E0
  have HA := Lib.hid hA
  clear hA
  have c0 := A0.at 0
  have c1 := A0.at 1
  have c2 := A0.at 2
  simp only [List.getElem?_toArray, List.getElem?_cons_succ, List.getElem?_cons_zero] at c0 c1 c2
  obtain ⟨g1, g2, g3, g4⟩ := gOk_parts hv
  have HS : Hid (shgO t (cl ps) (cls rs) ds = if shB ds ds.length then some (t, cl ps, shR (cls rs) ds rs.length) else none) := by
    unfold Hid shgO; rw [hv, cls_len, decide_eq_true hne]
    cases shB ds ds.length <;> rfl
  have hr0 : ∀ i, i < rs.length → 0 < (row rs i).length := fun i hi => by have := g4 i hi; omega
  have hne' : (ds.length : Int) = (rs.length : Int) := by omega
  have HN := Lib.hid hne.symm
  have HG4 := Lib.hid g4
  have HG3 := Lib.hid g3
  clear hne g4 g3
  go_enter Try.func53, Try.ntmps53
  go_wp2_with (first | (go_at_call 103; (try rw [HA.out]); refine (l04Is_any _ t _ _ _ _ _ _ true _ c0 c1 c2 hpw hrw hl hv).mono ?_; rintro _ _ ⟨rfl, n1, rfl⟩; skip) | (go_at_call 104; refine (l04Own_any _ t _ _ _ _ _ _ _ (by exact c0) (by exact c1) (by exact c2) (by exact hpw) (by exact hrw) hl (by omega) hr0).mono ?_; rintro _ w5 ⟨pv, rv, vsO, rfl, hE5, hO5⟩; obtain ⟨⟨pO, qO, rfl, _⟩, ⟨rO, sO, rfl, _⟩⟩ := OwnG.fr hO5))
  obtain ⟨bO, rfl, _, _, _⟩ := OwnF.at hO5.1 (k := 0) (by omega)
  obtain ⟨bR, rfl, _, _, _⟩ := OwnRows.at hO5.2.1 (k := 0) (by have := HG3.out; omega)
  have hb5 : w0.heap.size ≤ w5.heap.size := hE5.size
  obtain ⟨G1, G3⟩ := own_box (t := t) hO5 hE5.size
  have hE50 : Ext w0 w5 := Ext.of_drewN hE5
  replace G3 := hE50.trans G3
  generalize (w5.alloc (.cells #[.int .i64 t, .slice (some ⟨bO, 0, none⟩) ps.length qO, .slice (some ⟨bR, 0, none⟩) rs.length sO] 25)) = w8 at G1 G3 ⊢
  obtain ⟨gO, hgO⟩ : ∃ g, w5.heap.size = g := ⟨_, rfl⟩
  rw [hgO] at G1 ⊢
  change GBox w8 w0.heap.size _ _ _ _ _ _ _ at G1
  clear hgO hO5 hE5 hE50 hne' hb5 c1
  obtain ⟨N, rfl⟩ : ∃ N : Nat, t = (N : Int) := ⟨t.toNat, by omega⟩
  go_loopw [7] (fun i wr => ∃ (k : Nat) (qs : List (List Nat)), k ≤ ds.length ∧ i = .int .i64 k ∧ GBox wr w0.heap.size gO (N : Int) (.slice (some ⟨bO, 0, none⟩) ps.length qO) (.slice (some ⟨bR, 0, none⟩) rs.length sO) vsO ps qs ∧ Hid (qs.length = rs.length) ∧ Hid (shB ds k = true) ∧ Hid (∀ i, i < rs.length → cl (row qs i) = if i < k then tabP (shAt (cl (row rs i)) (elv ds i)) (row rs i).length else cl (row rs i)) ∧ Ext w0 wr) (fun i _ => ds.length - (intOf i).toNat)
  case atStart => exact ⟨0, rs, Nat.zero_le _, rfl, G1, rfl, rfl, fun i hi => by rw [if_neg (by omega)], G3⟩
  case round =>
    obtain ⟨k, qs, hk, rfl, hG, hql, hsb, hqc, hE⟩ := hrel
    clear G1 G3
    by_cases hlt : k < ds.length
    · obtain ⟨db, doff, rfl, hdcell⟩ := hdw k hlt
      have yd := hE.cell hdcell
      cases hq : inB (elv ds k) (-64) 64 with
      | false =>
        have hn : Hid (shgO (N : Int) (cl ps) (cls rs) ds = none) := by unfold Hid; rw [HS.out, shB_not hlt hq]; rfl
        obtain ⟨r0, r1, r2, f0, f1, f2⟩ := six (B0.ext hE)
        go_wp2_with (first | (go_at_call 90; refine (l00In_any _ _ _ _ hq _).mono ?_; rintro _ _ ⟨rfl, rfl⟩))
        (try simp only [Exit.inBlock, Exit.then])
        refine bodyPost_ret (results_row2 rfl _ _ _ _ _ _ rfl (Cells.set (Cells.set (Cells.set (B0.ext hE) 0 _) 1 _) 2 _) Try.underlying25 rfl infoG) rfl ?_
        exact givesHO_none hn.out (Ext.setCell (Ext.setCell (Ext.setCell (E0.trans hE) (Nat.le_succ _) _) (Nat.le_succ _) _) (Nat.le_succ _) _)
      | true =>
        have hdi := inB_yes hq
        have hkr : k < rs.length := by have := HN.out; omega
        have hkq : k < qs.length := by have := hql.out; omega
        have hrN : (row rs k).length = N := by have := HG4.out k hkr; omega
        obtain ⟨rb, roff, ka, kc, rfl, hrcell, hfr⟩ := hrw k hkr
        obtain ⟨ua, uc, hua, _, _⟩ := OwnRows.at' hG.rows hkq
        have hqN : (row qs k).length = N := by have h1 := congrArg List.length (hqc.out k hkr); rw [if_neg (by omega), cl_length, cl_length] at h1; omega
        have hOk := hG.rows.2.2.1 k (by rw [hG.rows.1]; exact hkq)
        rw [hua, hqN] at hOk
        obtain ⟨gi, rfl, hgi1, _, _⟩ := OwnF.at hOk (k := 0) (by omega)
        rw [hqN] at hua
        have HU := Lib.hid hua
        have HRN := Lib.hid hrN
        have HQN := Lib.hid hqN
        have hcq : cl (row qs k) = cl (row rs k) := by rw [hqc.out k hkr, if_neg (by omega)]
        have HCQ := Lib.hid hcq
        have hTS : Hid (shB ds (k + 1) = true) := by unfold Hid; rw [shB_succ, hsb.out, hq]; rfl
        clear hua hrN hqN hcq hOk
        obtain ⟨d, hdE⟩ : ∃ d, elv ds k = d := ⟨_, rfl⟩
        rw [hdE] at hdcell hdi hq yd
        have HD := Lib.hid hdE
        clear hdE
        go_wp2_with (first | (go_at_call 90; refine (l00In_any _ _ _ _ hq _).mono ?_; rintro _ _ ⟨rfl, rfl⟩))
        obtain ⟨wo, hwo⟩ : ∃ wo, wr = wo := ⟨_, rfl⟩
        rw [hwo] at hG hE yd ⊢
        clear hwo
        go_loopw [8] (fun i wi => ∃ (j : Nat) (zs : List Nat), j ≤ N ∧ i = .int .i64 j ∧ GBox wi w0.heap.size gO (N : Int) (.slice (some ⟨bO, 0, none⟩) ps.length qO) (.slice (some ⟨bR, 0, none⟩) rs.length sO) vsO ps (qs.set k zs) ∧ Hid (zs.length = N) ∧ Hid (cl zs = tabP (shAt (cl (row rs k)) d) j ++ List.drop j (cl (row rs k))) ∧ Ext w0 wi) (fun i _ => N - (intOf i).toNat)
        case atStart => exact ⟨0, row qs k, Nat.zero_le _, rfl, by rw [set_row_self hkq]; exact hG, HQN.out, by unfold Hid; rw [HCQ.out]; rfl, hE⟩
        case round =>
          obtain ⟨j, zs, hj, rfl, hI, hzl, hzc, hEi⟩ := hrel
          have y0 := hEi.cell c0
          have y2 := hEi.cell c2
          have yd := hEi.cell hdcell
          have yr := hEi.cell hrcell
          by_cases hjl : j < N
          · have e1 : IntKind.i64.wrap ((j : Int) + d) = (j : Int) + d := IntWalk.i64_in _ (by omega)
            have e5 : IntKind.i64.wrap ((N : Int) - 1) = (N : Int) - 1 := IntWalk.i64_in _ (by omega)
            cases hb : inB ((j : Int) + d) 0 ((N : Int) - 1) with
            | false =>
            have hI0 := inB_no hb
            have hF : Hid (Is .f32 0 (shAt (cl (row rs k)) d j)) := by
              unfold Hid shAt atF; rw [cl_length, HRN.out, if_neg (by omega)]; exact is_zero
            go_wp2_with fail
            refine wp_region_lex (fun _ => Drawn wr) (fun _ => false) (fun _ v => v = .bool false) (by kernel_rfl) (by kernel_rfl) (by kernel_rfl) (fun _ => drawn_more _) (fun _ => ⟨0, rfl⟩) (fun n0 => ?_)
            (refine lw_move rfl rfl rfl rfl ?_; go_simp)
            (refine lw_move rfl rfl rfl rfl ?_; go_simp)
            (refine lw_move rfl rfl rfl rfl ?_; go_simp)
            (refine lw_valD rfl rfl (fun nn => by go_simp; rfl) ?_; go_simp)
            (refine lw_valD rfl rfl (fun nn => by go_simp; rfl) ?_; go_simp)
            (refine lw_valD rfl rfl (fun nn => by go_simp; rfl) ?_; go_simp)
            (refine lw_valD rfl rfl (fun nn => by go_simp; rfl) ?_; go_simp)
            (refine lw_valD rfl rfl (fun nn => by go_simp; rfl) ?_; go_simp)
            (refine lw_valD rfl rfl (fun nn => by go_simp; rfl) ?_; go_simp)
            refine lw_call (args := #[.int .i64 ((j : Int) + d), .int .i64 0, .int .i64 ((N : Int) - 1)]) rfl rfl (fun w' hw' => by go_simp; try rfl) (fun w' hw' => (l00In_any _ _ _ _ hb w').mono fun e w'' ⟨h1, h2⟩ => ⟨_, h1, rfl, 0, h2.symm⟩) ?_
            rintro _ rfl
            go_simp
            refine lw_nil fun n8 => ?_
            have hI9 := (hI.drewN n0).drewN n8
            have hE9 : Ext w0 ((wr.drewN n0).drewN n8) := (hEi.drewN n0).drewN n8
            clear y0 y2 yd yr
            generalize (wr.drewN n0).drewN n8 = w9 at hI9 hE9 ⊢
            clear hI hEi
            clear e1 e5
            have o2 := hI9.at2
            obtain ⟨b9, e9, _, _, hcR, hfR⟩ := OwnRows.at hI9.rows (k := k) (by rw [List.length_set]; exact hkq)
            injection e9 with e9; injection e9 with e9; subst e9
            rw [HU.out] at hcR
            have hOz := hI9.rows.2.2.1 k (by rw [hI9.rows.1, List.length_set]; exact hkq)
            rw [HU.out, row_set _ hkq, if_pos rfl] at hOz
            obtain ⟨hcz, hfz⟩ := OwnF.at' hOz (k := j) (by rw [hzl.out]; exact hjl)
            have hst := gbox_put hI9 (i := k) (by rw [List.length_set]; exact hkq) HU.out j 0
            rw [row_set _ hkq, if_pos rfl, List.set_set] at hst
            have HST := Lib.hid hst
            have HSC := set_step hzc.out (by rw [cl_length, HRN.out]; exact hjl) hF.out
            clear hst hOz hfR
            go_wp2_with fail
            go_roundw
            case rel => exact ⟨j + 1, zs.set j 0, by omega, by go_num, HST.out, by unfold Hid; rw [List.length_set]; exact hzl.out, HSC, Ext.setCell hE9 hgi1 _⟩
            case measure => simp [intOf]; omega
            | true =>
            have hI0 := inB_yes hb
            obtain ⟨q, hqe⟩ := Int.eq_ofNat_of_zero_le hI0.1
            have hlq : q < (row rs k).length := by have := HRN.out; omega
            obtain ⟨fb, foff, rfl, hfcell⟩ := hfr q hlq
            have hF : Hid (Is .f32 (el (row rs k) q) (shAt (cl (row rs k)) d j)) := by
              unfold Hid shAt atF; rw [cl_length, if_pos (by omega), show ((j : Int) + d).toNat = q by omega]; exact is_el hlq
            have e2 : (0 : Int) ≤ (j : Int) + d := by omega
            have e3 : ((j : Int) + d).toNat = q := by omega
            have e4 : (j : Int) + d < ((row rs k).length : Int) := by omega
            have HQE := Lib.hid hqe
            clear hqe
            go_wp2_with fail
            refine wp_region_lex (fun _ => Drawn wr) (fun _ => false) (fun _ v => v = .bool true) (by kernel_rfl) (by kernel_rfl) (by kernel_rfl) (fun _ => drawn_more _) (fun _ => ⟨0, rfl⟩) (fun n0 => ?_)
            (refine lw_move rfl rfl rfl rfl ?_; go_simp)
            (refine lw_move rfl rfl rfl rfl ?_; go_simp)
            (refine lw_move rfl rfl rfl rfl ?_; go_simp)
            (refine lw_valD rfl rfl (fun nn => by go_simp; rfl) ?_; go_simp)
            (refine lw_valD rfl rfl (fun nn => by go_simp; rfl) ?_; go_simp)
            (refine lw_valD rfl rfl (fun nn => by go_simp; rfl) ?_; go_simp)
            (refine lw_valD rfl rfl (fun nn => by go_simp; rfl) ?_; go_simp)
            (refine lw_valD rfl rfl (fun nn => by go_simp; rfl) ?_; go_simp)
            (refine lw_valD rfl rfl (fun nn => by go_simp; rfl) ?_; go_simp)
            refine lw_call (args := #[.int .i64 ((j : Int) + d), .int .i64 0, .int .i64 ((N : Int) - 1)]) rfl rfl (fun w' hw' => by go_simp; try rfl) (fun w' hw' => (l00In_any _ _ _ _ hb w').mono fun e w'' ⟨h1, h2⟩ => ⟨_, h1, rfl, 0, h2.symm⟩) ?_
            rintro _ rfl
            go_simp
            refine lw_nil fun n8 => ?_
            have hI9 := (hI.drewN n0).drewN n8
            have hE9 : Ext w0 ((wr.drewN n0).drewN n8) := (hEi.drewN n0).drewN n8
            clear y0 y2 yd yr
            generalize (wr.drewN n0).drewN n8 = w9 at hI9 hE9 ⊢
            clear hI hEi
            have z0 := hE9.cell c0
            have z2 := hE9.cell c2
            have zd := hE9.cell hdcell
            have zr := hE9.cell hrcell
            have zf := hE9.cell hfcell
            go_wp2_with fail
            refine wp_region_lex (fun _ => Drawn w9) (fun _ => false) (fun _ _ => True) (by kernel_rfl) (by kernel_rfl) (by kernel_rfl) (fun _ => drawn_more _) (fun _ => ⟨0, rfl⟩) (fun n0 => ?_)
            (refine lw_valD rfl rfl (fun nn => by go_simp; rfl) ?_; go_simp)
            (refine lw_valD rfl rfl (fun nn => by go_simp; rfl) ?_; go_simp)
            (refine lw_move rfl rfl rfl rfl ?_; go_simp)
            (refine lw_valD rfl rfl (fun nn => by go_simp; rfl) ?_; go_simp)
            (refine lw_valD rfl rfl (fun nn => by go_simp; rfl) ?_; go_simp)
            (refine lw_move rfl rfl rfl rfl ?_; go_simp)
            (refine lw_move rfl rfl rfl rfl ?_; go_simp)
            (refine lw_move rfl rfl rfl rfl ?_; go_simp)
            (refine lw_valD rfl rfl (fun nn => by go_simp; rfl) ?_; go_simp)
            (refine lw_valD rfl rfl (fun nn => by go_simp; rfl) ?_; go_simp)
            (refine lw_valD rfl rfl (fun nn => by go_simp; rfl) ?_; go_simp)
            (refine lw_valD rfl rfl (fun nn => by go_simp; rfl) ?_; go_simp)
            (refine lw_valD rfl rfl (fun nn => by go_simp; rfl) ?_; go_simp)
            (refine lw_assign rfl rfl rfl rfl ?_; go_simp)
            refine lw_nil fun n9 => ?_
            have hI8 := (hI9.drewN n0).drewN n9
            have hE8 : Ext w0 ((w9.drewN n0).drewN n9) := (hE9.drewN n0).drewN n9
            clear z0 z2 zd zr zf e1 e2 e3 e4 e5
            generalize (w9.drewN n0).drewN n9 = w10 at hI8 hE8 ⊢
            clear hI9 hE9
            have o2 := hI8.at2
            obtain ⟨b9, e9, _, _, hcR, hfR⟩ := OwnRows.at hI8.rows (k := k) (by rw [List.length_set]; exact hkq)
            injection e9 with e9; injection e9 with e9; subst e9
            rw [HU.out] at hcR
            have hOz := hI8.rows.2.2.1 k (by rw [hI8.rows.1, List.length_set]; exact hkq)
            rw [HU.out, row_set _ hkq, if_pos rfl] at hOz
            obtain ⟨hcz, hfz⟩ := OwnF.at' hOz (k := j) (by rw [hzl.out]; exact hjl)
            have hst := gbox_put hI8 (i := k) (by rw [List.length_set]; exact hkq) HU.out j (el (row rs k) q)
            rw [row_set _ hkq, if_pos rfl, List.set_set] at hst
            have HST := Lib.hid hst
            have HSC := set_step hzc.out (by rw [cl_length, HRN.out]; exact hjl) hF.out
            clear hst hOz hfR
            go_wp2_with fail
            go_roundw
            case rel => exact ⟨j + 1, zs.set j (el (row rs k) q), by omega, by go_num, HST.out, by unfold Hid; rw [List.length_set]; exact hzl.out, HSC, Ext.setCell hE8 hgi1 _⟩
            case measure => simp [intOf]; omega
          · obtain rfl : N = j := by omega
            go_wp2_with fail
            go_roundw
            case rel => exact ⟨k + 1, qs.set k zs, by omega, by go_num, hI, by unfold Hid; rw [List.length_set]; exact hql.out, hTS, shg_row hkq hqc.out hzc.out HD.out HRN.out, hEi⟩
            case measure => simp [intOf]; omega
    · obtain rfl : ds.length = k := by omega
      obtain ⟨r0, r1, r2, f0, f1, f2⟩ := six (B0.ext hE)
      have hql' := hql.out
      have hC := hG.cells
      go_wp2_with (first | (refine wpList_load_row rfl _ _ rfl _ rfl _ _ _ _ hC Try.underlying25 rfl infoG ?_))
      (try simp only [Exit.inBlock, Exit.then])
      refine bodyPost_ret (results_row2 rfl _ _ _ _ _ _ rfl (Cells.set (Cells.set (Cells.set (B0.ext hE) 0 _) 1 _) 2 _) Try.underlying25 rfl infoG) rfl ?_
      obtain ⟨j1, j3⟩ := OwnG.out3 (w := w) (.int .i64 (N : Int)) (.slice (some ⟨bO, 0, none⟩) ps.length qO) (.slice (some ⟨bR, 0, none⟩) rs.length sO) hG.own (Nat.le_succ _) B0.lt (E0.trans hE)
      exact givesHO_some (by rw [HS.out, hsb.out]; rfl) j1 j3 rfl (shR_of hql' (fun i hi => by rw [hqc.out i hi, if_pos (by have := HN.out; omega)]))
theorem specShg_any (t : Int) (pa : Option Addr) (pc : Nat) (ps : List Nat) (ra : Option Addr) (rc : Nat) (rs : List (List Nat)) (da : Option Addr) (dc : Nat) (ds : List Int) (w : World) (hp : FR w pa ps) (hr : RS w ra rs) (hl : ps.length + (rs.length + tot rs) ≤ 1048576) (hd : FRI w da ds) (hdl : ds.length ≤ 1048576) :
    Calls Try.prog 53 #[.agg #[.int .i64 t, .slice pa ps.length pc, .slice ra rs.length rc], .slice da ds.length dc] w (GivesHO (shgO t (cl ps) (cls rs) ds) w) := by
  cases hv : gOk t (cl ps) (cls rs) with
  | false => exact specShg_no1 t _ _ _ _ _ _ _ _ _ w hp hr hl hd hdl hv
  | true =>
    by_cases hne : ds.length = rs.length
    · exact specShg_yes t _ _ _ _ _ _ _ _ _ w hp hr hl hd hdl hv hne
    · exact specShg_no2 t _ _ _ _ _ _ _ _ _ w hp hr hl hd hdl hv hne
end Go.Proofs.Ytnjgcacnfobmiaa
