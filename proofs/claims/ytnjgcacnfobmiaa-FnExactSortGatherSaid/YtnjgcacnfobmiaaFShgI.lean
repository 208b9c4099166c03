/- ShiftGather: the program's. -/
import Derived.Test.YtnjgcacnfobmiaaShg
namespace Go.Proofs.Ytnjgcacnfobmiaa
open Go.RowKit
set_option maxRecDepth 100000
set_option linter.unusedVariables false

theorem shg_step {rs qs : List (List Nat)} {ds : List Int} {k : Nat} {ys : List Nat} (h : cls qs = shR (cls rs) ds k) (h2 : cl ys = tabP (shAt (cl (row rs k)) (elv ds k)) (row rs k).length) : Hid (cls (qs ++ [ys]) = shR (cls rs) ds (k + 1)) := by
  unfold Hid
  rw [shR_succ, ← h, cls_row, cl_length, ← h2]
  simp [cls]
theorem rows_nil (w : World) (base : Nat) : OwnRows w base (.slice none 0 0) [] [] := (ownG_nil w base).2.1
theorem box_a {w7 : World} {b1 base n cp : Nat} {ap : Option Addr} {t : Int} {ps : List Nat} (hO : OwnF w7 b1 (.slice ap n cp) ps) (h1 : base ≤ b1) (h2 : base ≤ w7.heap.size) :
    GBox (w7.alloc (.cells #[.int .i64 t, .slice ap n cp, .slice none 0 0] 25)) base w7.heap.size t (.slice ap n cp) (.slice none 0 0) [] ps [] :=
  ⟨Cells.new w7 _ _, h2, ⟨(hO.mono h1).alloc _, rows_nil _ _, fun q hq => ⟨(fun e => by cases e), fun ⟨i, hi, _⟩ => by simp at hi⟩⟩, fun k hk => by
    rcases hk with e | e | ⟨i, hi, _⟩
    · have := (hO.lt k e).2; omega
    · cases e
    · simp at hi⟩
theorem box_b {w7 : World} {b1 base n cp x : Nat} {ap : Option Addr} {t : Int} {ps : List Nat} {A B C : Value} (hB : Cells w7 x #[A, B, C] 25) (hO : OwnF w7 b1 (.slice ap n cp) ps) (h1 : x < b1) (h2 : base ≤ x) :
    GBox (((w7.setCell ⟨x, 0, none⟩ (.int .i64 t)).setCell ⟨x, 1, none⟩ (.slice ap n cp)).setCell ⟨x, 2, none⟩ (.slice none 0 0)) base x t (.slice ap n cp) (.slice none 0 0) [] ps [] := by
  have hcR := (((chg_setCell w7 x 0 (.int .i64 t)).trans (chg_setCell _ x 1 (.slice ap n cp))).trans (chg_setCell _ x 2 (.slice none 0 0)))
  exact ⟨((hB.set 0 _).set 1 _).set 2 _, h2, ⟨(hO.chg hcR (fun q hq e => by have h3 := (hO.lt q hq).1; have e' : q = x := e; omega)).mono (by omega), rows_nil _ _, fun q hq => ⟨(fun e => by cases e), fun ⟨i, hi, _⟩ => by simp at hi⟩⟩, fun k hk => by
    rcases hk with e | e | ⟨i, hi, _⟩
    · have := (hO.lt k e).1; omega
    · cases e
    · simp at hi⟩
set_option maxHeartbeats 2000000 in
theorem implShg_no1 (t : Int) (pa : Option Addr) (pc : Nat) (ps : List Nat) (ra : Option Addr) (rc : Nat) (rs : List (List Nat)) (da : Option Addr) (dc : Nat) (ds : List Int) (w : World) (hp : FR w pa ps) (hr : RS w ra rs) (hl : ps.length + (rs.length + tot rs) ≤ 1048576) (hd : FRI w da ds) (hdl : ds.length ≤ 1048576) (hv : gOk t (cl ps) (cls rs) = false) :
    Calls Try.prog 55 #[.agg #[.int .i64 t, .slice pa ps.length pc, .slice ra rs.length rc], .slice da ds.length dc] w (GivesHO (shgO t (cl ps) (cls rs) ds) w) := by
  obtain ⟨i0, hi0, hz0, hs0, hb0⟩ := info_parts info32
  obtain ⟨i1, hi1, hz1, hs1, hb24⟩ := info_parts infoS
  generalize hA : (w.alloc (.cells #[.int .i64 t, .slice pa ps.length pc, .slice ra rs.length rc] 25)).alloc (.cells #[.int .i64 0, .slice none 0 0, .slice none 0 0] 25) = w0
  have E0 : Ext w w0 := by rw [← hA]; exact ((Ext.refl w).alloc _).alloc _
  have A0 : Cells w0 w.heap.size #[.int .i64 t, .slice pa ps.length pc, .slice ra rs.length rc] 25 := by rw [← hA]; exact (Cells.new w _ _).alloc _
  have B0 : Cells w0 (w.heap.size + 1) #[.int .i64 0, .slice none 0 0, .slice none 0 0] 25 := by rw [← hA]; exact Cells.new1 w _ _ _
  have hpw := hp.ext E0
  have hrw := hr.ext E0
  have hdw := hd.ext E0
  have HA := Lib.hid hA
  clear hA
  have hn : Hid (shgO t (cl ps) (cls rs) ds = none) := by unfold Hid shgO; rw [hv]; rfl
  have c2 := A0.at 2
  simp only [List.getElem?_toArray, List.getElem?_cons_succ, List.getElem?_cons_zero] at c2
  go_enter Try.func55, Try.ntmps55
  go_wp2_with (first | (refine wpList_load_row rfl _ _ rfl _ rfl _ _ _ _ (Cells.alloc (Cells.new w _ _) _) Try.underlying25 rfl infoG ?_) | (go_at_call 106; (try rw [HA.out]); refine (implValid_any t _ _ _ _ _ _ false _ hpw hrw hl hv).mono ?_; rintro _ w5 ⟨rfl, hE5⟩; (have c2 := hE5.cell c2); obtain ⟨r0, r1, r2, f0, f1, f2⟩ := six (B0.ext hE5)))
  (try simp only [Exit.inBlock, Exit.then])
  refine bodyPost_ret (results_row2 rfl _ _ _ _ _ _ rfl (Cells.set (Cells.set (Cells.set (B0.ext hE5) 0 _) 1 _) 2 _) Try.underlying25 rfl infoG) rfl ?_
  exact givesHO_none hn.out (Ext.setCell (Ext.setCell (Ext.setCell (E0.trans hE5) (Nat.le_succ _) _) (Nat.le_succ _) _) (Nat.le_succ _) _)
set_option maxHeartbeats 2000000 in
theorem implShg_no2 (t : Int) (pa : Option Addr) (pc : Nat) (ps : List Nat) (ra : Option Addr) (rc : Nat) (rs : List (List Nat)) (da : Option Addr) (dc : Nat) (ds : List Int) (w : World) (hp : FR w pa ps) (hr : RS w ra rs) (hl : ps.length + (rs.length + tot rs) ≤ 1048576) (hd : FRI w da ds) (hdl : ds.length ≤ 1048576) (hv : gOk t (cl ps) (cls rs) = true) (hne : ¬ ds.length = rs.length) :
    Calls Try.prog 55 #[.agg #[.int .i64 t, .slice pa ps.length pc, .slice ra rs.length rc], .slice da ds.length dc] w (GivesHO (shgO t (cl ps) (cls rs) ds) w) := by
  obtain ⟨i0, hi0, hz0, hs0, hb0⟩ := info_parts info32
  obtain ⟨i1, hi1, hz1, hs1, hb24⟩ := info_parts infoS
  generalize hA : (w.alloc (.cells #[.int .i64 t, .slice pa ps.length pc, .slice ra rs.length rc] 25)).alloc (.cells #[.int .i64 0, .slice none 0 0, .slice none 0 0] 25) = w0
  have E0 : Ext w w0 := by rw [← hA]; exact ((Ext.refl w).alloc _).alloc _
  have A0 : Cells w0 w.heap.size #[.int .i64 t, .slice pa ps.length pc, .slice ra rs.length rc] 25 := by rw [← hA]; exact (Cells.new w _ _).alloc _
  have B0 : Cells w0 (w.heap.size + 1) #[.int .i64 0, .slice none 0 0, .slice none 0 0] 25 := by rw [← hA]; exact Cells.new1 w _ _ _
  have hpw := hp.ext E0
  have hrw := hr.ext E0
  have hdw := hd.ext E0
  have HA := Lib.hid hA
  clear hA
  have hn : Hid (shgO t (cl ps) (cls rs) ds = none) := by unfold Hid shgO; rw [hv, cls_len, decide_eq_false hne]; rfl
  have hne' : ¬ (ds.length : Int) = (rs.length : Int) := by omega
  have c2 := A0.at 2
  simp only [List.getElem?_toArray, List.getElem?_cons_succ, List.getElem?_cons_zero] at c2
  go_enter Try.func55, Try.ntmps55
  go_wp2_with (first | (refine wpList_load_row rfl _ _ rfl _ rfl _ _ _ _ (Cells.alloc (Cells.new w _ _) _) Try.underlying25 rfl infoG ?_) | (go_at_call 106; (try rw [HA.out]); refine (implValid_any t _ _ _ _ _ _ true _ hpw hrw hl hv).mono ?_; rintro _ w5 ⟨rfl, hE5⟩; (have c2 := hE5.cell c2); obtain ⟨r0, r1, r2, f0, f1, f2⟩ := six (B0.ext hE5)))
  (try simp only [Exit.inBlock, Exit.then])
  refine bodyPost_ret (results_row2 rfl _ _ _ _ _ _ rfl (Cells.set (Cells.set (Cells.set (B0.ext hE5) 0 _) 1 _) 2 _) Try.underlying25 rfl infoG) rfl ?_
  exact givesHO_none hn.out (Ext.setCell (Ext.setCell (Ext.setCell (E0.trans hE5) (Nat.le_succ _) _) (Nat.le_succ _) _) (Nat.le_succ _) _)
set_option maxHeartbeats 2000000 in
theorem implShg_no3 (t : Int) (pa : Option Addr) (pc : Nat) (ps : List Nat) (ra : Option Addr) (rc : Nat) (rs : List (List Nat)) (da : Option Addr) (dc : Nat) (ds : List Int) (w : World) (hp : FR w pa ps) (hr : RS w ra rs) (hl : ps.length + (rs.length + tot rs) ≤ 1048576) (hd : FRI w da ds) (hdl : ds.length ≤ 1048576) (hv : gOk t (cl ps) (cls rs) = true) (hne : ds.length = rs.length) (hq : shB ds ds.length = false) :
    Calls Try.prog 55 #[.agg #[.int .i64 t, .slice pa ps.length pc, .slice ra rs.length rc], .slice da ds.length dc] w (GivesHO (shgO t (cl ps) (cls rs) ds) w) := by
  obtain ⟨i0, hi0, hz0, hs0, hb0⟩ := info_parts info32
  obtain ⟨i1, hi1, hz1, hs1, hb24⟩ := info_parts infoS
  generalize hA : (w.alloc (.cells #[.int .i64 t, .slice pa ps.length pc, .slice ra rs.length rc] 25)).alloc (.cells #[.int .i64 0, .slice none 0 0, .slice none 0 0] 25) = w0
  have E0 : Ext w w0 := by rw [← hA]; exact ((Ext.refl w).alloc _).alloc _
  have A0 : Cells w0 w.heap.size #[.int .i64 t, .slice pa ps.length pc, .slice ra rs.length rc] 25 := by rw [← hA]; exact (Cells.new w _ _).alloc _
  have B0 : Cells w0 (w.heap.size + 1) #[.int .i64 0, .slice none 0 0, .slice none 0 0] 25 := by rw [← hA]; exact Cells.new1 w _ _ _
  have hpw := hp.ext E0
  have hrw := hr.ext E0
  have hdw := hd.ext E0
  have HA := Lib.hid hA
  clear hA
  have hn : Hid (shgO t (cl ps) (cls rs) ds = none) := by unfold Hid shgO; rw [hv, hq]; simp
  have hne' : (ds.length : Int) = (rs.length : Int) := by omega
  replace hq : (!shB ds ds.length) = true := by rw [hq]; rfl
  have HN := Lib.hid hne.symm
  clear hne
  have c2 := A0.at 2
  simp only [List.getElem?_toArray, List.getElem?_cons_succ, List.getElem?_cons_zero] at c2
  go_enter Try.func55, Try.ntmps55
  go_wp2_with (first | (refine wpList_load_row rfl _ _ rfl _ rfl _ _ _ _ (Cells.alloc (Cells.new w _ _) _) Try.underlying25 rfl infoG ?_) | (first | (go_at_call 106; (try rw [HA.out]); refine (implValid_any t _ _ _ _ _ _ true _ hpw hrw hl hv).mono ?_; rintro _ w5 ⟨rfl, hE5⟩; (have c2 := hE5.cell c2); obtain ⟨r0, r1, r2, f0, f1, f2⟩ := six (B0.ext hE5)) | (go_at_call 110; refine (containsInts_any _ _ _ ds true _ (by first | rfl | exact HN.out) (hdw.ext hE5) hdl hq).mono ?_; rintro _ _ ⟨rfl, n1, rfl⟩)))
  (try simp only [Exit.inBlock, Exit.then])
  refine bodyPost_ret (results_row2 rfl _ _ _ _ _ _ rfl (Cells.set (Cells.set (Cells.set (B0.ext (hE5.drewN n1)) 0 _) 1 _) 2 _) Try.underlying25 rfl infoG) rfl ?_
  exact givesHO_none hn.out (Ext.setCell (Ext.setCell (Ext.setCell (E0.trans (hE5.drewN n1)) (Nat.le_succ _) _) (Nat.le_succ _) _) (Nat.le_succ _) _)
set_option maxHeartbeats 4000000 in
theorem implShg_yes (t : Int) (pa : Option Addr) (pc : Nat) (ps : List Nat) (ra : Option Addr) (rc : Nat) (rs : List (List Nat)) (da : Option Addr) (dc : Nat) (ds : List Int) (w : World) (hp : FR w pa ps) (hr : RS w ra rs) (hl : ps.length + (rs.length + tot rs) ≤ 1048576) (hd : FRI w da ds) (hdl : ds.length ≤ 1048576) (hv : gOk t (cl ps) (cls rs) = true) (hne : ds.length = rs.length) (hq : shB ds ds.length = true) :
    Calls Try.prog 55 #[.agg #[.int .i64 t, .slice pa ps.length pc, .slice ra rs.length rc], .slice da ds.length dc] w (GivesHO (shgO t (cl ps) (cls rs) ds) w) := by
  obtain ⟨i0, hi0, hz0, hs0, hb0⟩ := info_parts info32
  obtain ⟨i1, hi1, hz1, hs1, hb24⟩ := info_parts infoS
  generalize hA : (w.alloc (.cells #[.int .i64 t, .slice pa ps.length pc, .slice ra rs.length rc] 25)).alloc (.cells #[.int .i64 0, .slice none 0 0, .slice none 0 0] 25) = w0
  have E0 : Ext w w0 := by rw [← hA]; exact ((Ext.refl w).alloc _).alloc _
  have A0 : Cells w0 w.heap.size #[.int .i64 t, .slice pa ps.length pc, .slice ra rs.length rc] 25 := by rw [← hA]; exact (Cells.new w _ _).alloc _
  have B0 : Cells w0 (w.heap.size + 1) #[.int .i64 0, .slice none 0 0, .slice none 0 0] 25 := by rw [← hA]; exact Cells.new1 w _ _ _
  have hpw := hp.ext E0
  have hrw := hr.ext E0
  have hdw := hd.ext E0
  have HA := Lib.hid hA
  clear hA
  obtain ⟨g1, g2, g3, g4⟩ := gOk_parts hv
  have HS : Hid (shgO t (cl ps) (cls rs) ds = some (t, cl ps, shR (cls rs) ds rs.length)) := by unfold Hid shgO; rw [hv, hq, cls_len, decide_eq_true hne]; rfl
  have HQ := Lib.hid hq
  have hne' : (ds.length : Int) = (rs.length : Int) := by omega
  replace hq : (!shB ds ds.length) = false := by rw [hq]; rfl
  have HN := Lib.hid hne.symm
  have HG4 := Lib.hid g4
  have HG3 := Lib.hid g3
  clear hne g4 g3
  have c2 := A0.at 2
  simp only [List.getElem?_toArray, List.getElem?_cons_succ, List.getElem?_cons_zero] at c2
  go_enter Try.func55, Try.ntmps55
  go_upto_region 3 with (first | (refine wpList_load_row rfl _ _ rfl _ rfl _ _ _ _ (Cells.alloc (Cells.new w _ _) _) Try.underlying25 rfl infoG ?_) | (go_at_call 106; (try rw [HA.out]); refine (implValid_any t _ _ _ _ _ _ true _ hpw hrw hl hv).mono ?_; rintro _ w5 ⟨rfl, hE5⟩; (have c2 := hE5.cell c2); skip) | (go_at_call 110; refine (containsInts_any _ _ _ ds false _ (by first | rfl | exact HN.out) (hdw.ext hE5) hdl hq).mono ?_; rintro _ _ ⟨rfl, n1, rfl⟩))
  have hE6 : Ext w0 (w5.drewN n1) := hE5.drewN n1
  have c2' : (w5.drewN n1).cell? ⟨w.heap.size, 2, none⟩ = some (.slice ra rs.length rc) := c2
  clear c2 hne' hq
  generalize w5.drewN n1 = w6 at hE6 c2' ⊢
  have c0 := (A0.ext hE6).at 0
  have c1 := (A0.ext hE6).at 1
  simp only [List.getElem?_toArray, List.getElem?_cons_succ, List.getElem?_cons_zero] at c0 c1
  have hpw6 := hpw.ext hE6
  have hrw6 := hrw.ext hE6
  have hdw6 := hdw.ext hE6
  have hz06 := hE6.size
  clear hE5 c2
  go_cut [6] from 25 to 30 (fun pp wx => ∃ g pv, pp = .pointer (some ⟨g, 0, none⟩) ∧ GBox wx w6.heap.size g t pv (.slice none 0 0) [] ps [] ∧ Ext w6 wx)
  case first =>
    have S6 : ∀ w', Ext w6 w' → (Ext w6 w' ∧ w'.cell? ⟨w.heap.size, 0, none⟩ = some (.int .i64 t) ∧ w'.cell? ⟨w.heap.size, 1, none⟩ = some (.slice pa ps.length pc)) := fun w' h => ⟨h, h.cell c0, h.cell c1⟩
    go_region_held_law (fun w' => Ext w6 w' ∧ w'.cell? ⟨w.heap.size, 0, none⟩ = some (.int .i64 t) ∧ w'.cell? ⟨w.heap.size, 1, none⟩ = some (.slice pa ps.length pc))
      (first | (refine S6 _ ?_; (repeat (first | assumption | exact Ext.refl _ | apply Ext.drewN | apply Ext.drew | apply Ext.alloc | (refine Ext.setCell ?_ (Nat.le_refl _) _)))))
      (first | (go_at_call 80; refine (clone_any _ _ _ _ (hpw6.ext (by repeat (first | assumption | exact Ext.refl _ | apply Ext.drewN | apply Ext.drew | apply Ext.alloc))) (by omega)).mono ?_; rintro _ w7 ⟨pv, rfl, e7, hO7⟩; obtain ⟨ap, cp, rfl, _⟩ := OwnF.fr hO7; (have e7' : Ext w6 w7 := Ext.trans (by repeat (first | assumption | exact Ext.refl _ | apply Ext.drewN | apply Ext.drew | apply Ext.alloc)) e7); (try (have e8 : Ext (w6.alloc (.cells #[.int .i64 0, .slice none 0 0, .slice none 0 0] 25)) w7 := Ext.of_drewN (n := 1) e7; obtain ⟨r0, r1, r2, f0, f1, f2⟩ := six (Cells.ext (Cells.new w6 #[.int .i64 0, .slice none 0 0, .slice none 0 0] 25) e8)))))
    · go_wp2_with fail
      go_meet
      case rel =>
        have hz7 := e7'.size
        exact ⟨_, _, rfl, box_a (t := t) hO7 (Nat.le_refl _) (by omega), e7'.alloc _⟩
    · go_wp2_with fail
      go_meet
      case rel =>
        have h1 : w6.heap.size < ((w6.alloc (.cells #[.int .i64 0, .slice none 0 0, .slice none 0 0] 25)).drew).heap.size := by rw [size_drew, size_alloc]; omega
        exact ⟨_, _, rfl, box_b (t := t) (Cells.ext (Cells.new w6 _ _) e8) hO7 h1 (Nat.le_refl _), Ext.setCell (Ext.setCell (Ext.setCell e7' (Nat.le_refl _) _) (Nat.le_refl _) _) (Nat.le_refl _) _⟩
  case rest =>
    obtain ⟨g, pv, rfl, hG0, hE0⟩ := hcut
    have k2 := hE0.cell c2'
    go_wp2_with fail
    go_loopw [34] (fun i wr => ∃ (k : Nat) (rv : Value) (vs : List Value) (qs : List (List Nat)), k ≤ rs.length ∧ i = .int .i64 k ∧ GBox wr w6.heap.size g t pv rv vs ps qs ∧ Hid (qs.length = k) ∧ Hid (cls qs = shR (cls rs) ds k) ∧ Ext w6 wr) (fun i _ => rs.length - (intOf i).toNat)
    case atStart => exact ⟨0, _, [], [], Nat.zero_le _, rfl, hG0, rfl, rfl, hE0⟩
    case round =>
      obtain ⟨k, rv, vs, qs, hk, rfl, hG, hql, hqc, hE⟩ := hrel
      clear hG0 hE0 k2
      by_cases hlt : k < rs.length
      · obtain ⟨rb, roff, ka, kc, rfl, hrcell, hfr⟩ := hrw6 k hlt
        have hrl := row_tot rs k hlt
        have hkd : k < ds.length := by have := HN.out; omega
        obtain ⟨db, doff, rfl, hdcell⟩ := hdw6 k hkd
        have hrt : (row rs k).length ≤ 64 := by have := HG4.out k hlt; omega
        have hdi := inB_yes (shB_at hkd HQ.out)
        have yr := hE.cell hrcell
        have yd := hE.cell hdcell
        have g2 := hG.at2
        have hGl := hG.own.lt
        have hgl := hG.lt
        have hzE := hE.size
        have hqk := hql.out
        have hgb := hG.2.1
        replace hql := Lib.hid hqk
        go_wp2_with fail
        clear yr
        go_region_law
          (first
            | (go_simp; go_at_call 112; refine (shifted_any _ _ _ _ _ (hfr.ext (by repeat (first | assumption | exact Ext.refl _ | apply Ext.drewN | apply Ext.drew | apply Ext.alloc))) (by omega) (by omega) (by omega)).mono ?_; rintro _ w1 ⟨uv, ys, rfl, e1, hu1, hcl1⟩; (have HC1 := Lib.hid hcl1); clear hcl1; obtain ⟨ua, uc, rfl, _⟩ := OwnF.fr hu1; (have e1' : Ext wr w1 := Ext.trans (by repeat (first | assumption | exact Ext.refl _ | apply Ext.drewN | apply Ext.drew | apply Ext.alloc)) e1); (have hfu := fresh_of hu1 (N := wr.heap.size) (Nat.le_refl _)); (have k3 := e1'.cell yd); (have k4 := e1'.cell g2); (have k5 : ∀ o, (w1.alloc o).cell? ⟨g, 2, none⟩ = some rv := fun o => (e1'.alloc o).cell g2); (have X1 : ∀ W, Ext w1 W → Ext wr W := fun W h => e1'.trans h); (have X2 : ∀ W, Ext w1 W → OwnF W w6.heap.size (.slice ua ys.length uc) ys := fun W h => (hu1.ext h).mono hE.size))
            | (refine step_appendR rfl (.tmp 40) (.tmp 47) rfl Try.underlying23 hi1 hz1 hs1 hb24 (base := w6.heap.size) (v := rv) (u := .slice ua ys.length uc) (r := ys) (vs := vs) (rs := qs) ?_ ?_ ?_ ?_ ?_ ?_ ?_ ?_ ?_; (exact rfl); (exact ⟨_, rfl, cell_new _ _ _⟩); (refine hG.rows.ext (X1 _ ?_); (repeat (first | assumption | exact Ext.refl _ | apply Ext.drewN | apply Ext.drew | apply Ext.alloc))); (have := hql.out; omega); (refine Nat.le_trans hE.size (X1 _ ?_).size; (repeat (first | assumption | exact Ext.refl _ | apply Ext.drewN | apply Ext.drew | apply Ext.alloc))); (refine X2 _ ?_; (repeat (first | assumption | exact Ext.refl _ | apply Ext.drewN | apply Ext.drew | apply Ext.alloc))); (exact fresh_ne hfu (fun q e => (hGl q (.inr (.inl e))).2)); (exact fresh_d hfu (fun q e => (hGl q (.inr (.inr e))).2)); intro v' wa hR hC hv; obtain ⟨hCa, hbox2⟩ := hG.row (X1 _ (by repeat (first | assumption | exact Ext.refl _ | apply Ext.drewN | apply Ext.drew | apply Ext.alloc))) hR hC hv (fun q hq => ⟨fun e => by have := hfu q hq; omega, fun e => by have h8 := hfu q hq; have h9 := (hGl q (.inl e)).2; omega⟩); (have hEa : Ext w6 wa := Chg.ext (hE.trans (X1 _ (by repeat (first | assumption | exact Ext.refl _ | apply Ext.drewN | apply Ext.drew | apply Ext.alloc)))) hC (fun q e => (hGl q (.inr (.inl e))).1)); (have m1 := hCa.at 2); (have m2 := hCa.fz 2); (obtain ⟨ar, cr, e9, _⟩ := hR.fr); (have hlen : (qs ++ [ys]).length = k + 1 := by simp; exact hql.out); (rw [hlen] at e9); (clear hlen); (subst e9)))
        all_goals
          go_wp2_with fail
          go_roundw
          case rel => exact ⟨k + 1, .slice ar (k + 1) cr, _, qs ++ [ys], by omega, by go_num, hbox2 0 0, by unfold Hid; simp; exact hql.out, shg_step hqc.out HC1.out, Ext.setCell hEa hgb _⟩
          case measure => simp [intOf]; omega
      · obtain rfl : rs.length = k := by omega
        obtain ⟨pa', pc', rfl, _⟩ := hG.places.fr
        obtain ⟨ra', rc', rfl, _⟩ := hG.rows.fr
        have hC := hG.cells
        obtain ⟨r0, r1, r2, f0, f1, f2⟩ := six (B0.ext (hE6.trans hE))
        go_wp2_with (first | (refine wpList_load_row rfl _ _ rfl _ rfl _ _ _ _ hC Try.underlying25 rfl infoG ?_))
        (try simp only [Exit.inBlock, Exit.then])
        refine bodyPost_ret (results_row2 rfl _ _ _ _ _ _ rfl (Cells.set (Cells.set (Cells.set (B0.ext (hE6.trans hE)) 0 _) 1 _) 2 _) Try.underlying25 rfl infoG) rfl ?_
        obtain ⟨j1, j3⟩ := OwnG.out3 (w := w) (.int .i64 t) (.slice pa' ps.length pc') (.slice ra' qs.length rc') hG.own (Nat.le_succ _) (Nat.lt_of_lt_of_le B0.lt hz06) ((E0.trans hE6).trans hE)
        exact givesHO_some HS.out j1 j3 rfl hqc.out
theorem implShg_any (t : Int) (pa : Option Addr) (pc : Nat) (ps : List Nat) (ra : Option Addr) (rc : Nat) (rs : List (List Nat)) (da : Option Addr) (dc : Nat) (ds : List Int) (w : World) (hp : FR w pa ps) (hr : RS w ra rs) (hl : ps.length + (rs.length + tot rs) ≤ 1048576) (hd : FRI w da ds) (hdl : ds.length ≤ 1048576) :
    Calls Try.prog 55 #[.agg #[.int .i64 t, .slice pa ps.length pc, .slice ra rs.length rc], .slice da ds.length dc] w (GivesHO (shgO t (cl ps) (cls rs) ds) w) := by
  cases hv : gOk t (cl ps) (cls rs) with
  | false => exact implShg_no1 t _ _ _ _ _ _ _ _ _ w hp hr hl hd hdl hv
  | true =>
    by_cases hne : ds.length = rs.length
    · cases hq : shB ds ds.length with
      | false => exact implShg_no3 t _ _ _ _ _ _ _ _ _ w hp hr hl hd hdl hv hne hq
      | true => exact implShg_yes t _ _ _ _ _ _ _ _ _ w hp hr hl hd hdl hv hne hq
    · exact implShg_no2 t _ _ _ _ _ _ _ _ _ w hp hr hl hd hdl hv hne
end Go.Proofs.Ytnjgcacnfobmiaa
