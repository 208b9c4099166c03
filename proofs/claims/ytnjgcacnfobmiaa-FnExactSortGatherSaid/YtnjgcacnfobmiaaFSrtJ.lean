/- SortGather: the program's. -/
import Derived.Test.YtnjgcacnfobmiaaFSrtI
import Derived.Test.YtnjgcacnfobmiaaFSrtS
namespace Go.Proofs.Ytnjgcacnfobmiaa
open Go.RowKit
set_option maxRecDepth 100000
set_option linter.unusedVariables false

set_option maxHeartbeats 2000000 in
theorem stableSort_any (B g n c : Nat) (pa : Option Addr) (pc : Nat) (ps L0 : List Nat) (w0 w : World) (hB : w0.cell? ⟨B, 1, none⟩ = some (.slice pa ps.length pc)) (hp : FR w0 pa ps) (hl : ps.length ≤ 16) (hE0 : Ext w0 w) (hO0 : OwnV fN 3 w w0.heap.size (.slice (some ⟨g, 0, none⟩) n c) L0) (hgb : w0.heap.size ≤ g) (hLn : L0.length = n) (hnl : 1 ≤ n ∧ n ≤ 16) (hLb : below L0 ps.length) (hnan : ∀ i, i < ps.length → isNan .f32 (el (cl ps) i) = false) :
    Calls Try.prog 155 #[.slice (some ⟨g, 0, none⟩) n c, .int .i64 (n : Int), .func (.func 114) #[] #[.pointer (some ⟨B, 0, none⟩)]] w fun e w' => e = .returned (.tuple #[]) ∧ OwnV fN 3 w' w0.heap.size (.slice (some ⟨g, 0, none⟩) n c) (sortK (cl ps) L0 n) ∧ Ext w0 w' := by
  have HLN := Lib.hid hLn
  clear hLn
  have h20 : ¬ (20 : Int) ≤ (n : Int) := by omega
  have h21 : ¬ (20 : Int) < (n : Int) := by omega
  go_enter Try.func155, Try.ntmps155
  go_wp2_with fail
  go_loopw [7, 8] (fun a b wr => a = .int .i64 0 ∧ b = .int .i64 20 ∧ wr = w) (fun _ _ _ => 0)
  case atStart => exact ⟨rfl, rfl, rfl⟩
  case round =>
    obtain ⟨rfl, rfl, rfl⟩ := hrel
    go_wp2_with (go_at_call 186; refine (insSort_any B g n c pa pc ps L0 w0 _ hB hp hl hE0 hO0 hgb HLN.out hnl hLb hnan).mono ?_; rintro _ w1 ⟨rfl, hO1, hE1⟩)
    go_loopw [6] (fun a wr => a = .int .i64 20 ∧ wr = w1) (fun _ _ => 0)
    case atStart => exact ⟨rfl, rfl⟩
    case round =>
      obtain ⟨rfl, rfl⟩ := hrel
      go_wp2_with fail
      first | go_end0 | go_ret
      exact ⟨rfl, hO1, hE1⟩
set_option maxHeartbeats 2000000 in
theorem sortStable_any (B g n c : Nat) (pa : Option Addr) (pc : Nat) (ps L0 : List Nat) (w0 w : World) (hB : w0.cell? ⟨B, 1, none⟩ = some (.slice pa ps.length pc)) (hp : FR w0 pa ps) (hl : ps.length ≤ 16) (hE0 : Ext w0 w) (hO0 : OwnV fN 3 w w0.heap.size (.slice (some ⟨g, 0, none⟩) n c) L0) (hgb : w0.heap.size ≤ g) (hLn : L0.length = n) (hnl : 1 ≤ n ∧ n ≤ 16) (hLb : below L0 ps.length) (hnan : ∀ i, i < ps.length → isNan .f32 (el (cl ps) i) = false) :
    Calls Try.prog 113 #[.slice (some ⟨g, 0, none⟩) n c, .func (.func 114) #[] #[.pointer (some ⟨B, 0, none⟩)]] w fun e w' => e = .returned (.tuple #[]) ∧ OwnV fN 3 w' w0.heap.size (.slice (some ⟨g, 0, none⟩) n c) (sortK (cl ps) L0 n) ∧ Ext w0 w' := by
  have HLN := Lib.hid hLn
  clear hLn
  go_enter Try.func113, Try.ntmps113
  go_wp2_with (go_at_call 155; refine (stableSort_any B g n c pa pc ps L0 w0 _ hB hp hl hE0 hO0 hgb HLN.out hnl hLb hnan).mono ?_; rintro _ w1 ⟨rfl, hO1, hE1⟩)
  first | go_end0 | go_ret
  exact ⟨rfl, hO1, hE1⟩
theorem chosenN_any (t : Int) (pa : Option Addr) (pc : Nat) (ps : List Nat) (ra : Option Addr) (rc : Nat) (rs : List (List Nat)) (la : Option Addr) (lc nl : Nat) (l : List Nat) (w : World) (hnl : nl = l.length) (hp : FR w pa ps) (hr : RS w ra rs) (hli : FRV fN w la l) (hl : ps.length + (rs.length + tot rs) ≤ 1048576) (hin : ∀ i, i < l.length → elv l i < ps.length) (hlr : rs.length = ps.length) (hl2 : (pick l ps).length + ((pickR l rs).length + tot (pickR l rs)) ≤ 1048576) :
    Calls Try.prog 107 #[.agg #[.int .i64 t, .slice pa ps.length pc, .slice ra rs.length rc], .slice la nl lc] w (GivesHO (chosenO t (cl ps) (cls rs) l) w) := by
  subst hnl
  exact chosen_any t _ _ _ _ _ _ _ _ _ w hp hr hli hl hin hlr hl2
theorem gOk_nan {t : Int} {ps : List Nat} {rs : List (List Nat)} (h : gOk t (cl ps) (cls rs) = true) : ∀ i, i < ps.length → isNan .f32 (el (cl ps) i) = false := fun i hi => by
  rw [gOk_cl] at h
  simp only [Bool.and_eq_true] at h
  have h2 := allP_at hi h.1.1.2.2
  cases h3 : isNan .f32 (el (cl ps) i) with
  | false => rfl
  | true => rw [finK_nan h3] at h2; cases h2
set_option maxHeartbeats 4000000 in
theorem implSrt_any (t : Int) (pa : Option Addr) (pc : Nat) (ps : List Nat) (ra : Option Addr) (rc : Nat) (rs : List (List Nat)) (w : World) (hp : FR w pa ps) (hr : RS w ra rs) (hl : ps.length + (rs.length + tot rs) ≤ 1048576) :
    Calls Try.prog 57 #[.agg #[.int .i64 t, .slice pa ps.length pc, .slice ra rs.length rc]] w (GivesHO (sortO t (cl ps) (cls rs)) w) := by
  obtain ⟨i0, hi0, hz0, hs0, hb0⟩ := info_parts infoN
  generalize hA : (w.alloc (.cells #[.int .i64 t, .slice pa ps.length pc, .slice ra rs.length rc] 25)).alloc (.cells #[.int .i64 0, .slice none 0 0, .slice none 0 0] 25) = w0
  have E0 : Ext w w0 := by rw [← hA]; exact ((Ext.refl w).alloc _).alloc _
  have A0 : Cells w0 w.heap.size #[.int .i64 t, .slice pa ps.length pc, .slice ra rs.length rc] 25 := by rw [← hA]; exact (Cells.new w _ _).alloc _
  have B0 : Cells w0 (w.heap.size + 1) #[.int .i64 0, .slice none 0 0, .slice none 0 0] 25 := by rw [← hA]; exact Cells.new1 w _ _ _
  have hpw := hp.ext E0
  have hrw := hr.ext E0
  have HA := Lib.hid hA
  clear hA
  cases hv : gOk t (cl ps) (cls rs) with
  | false =>
    go_enter Try.func57, Try.ntmps57
    go_wp2_with (first | (refine wpList_load_row rfl _ _ rfl _ rfl _ _ _ _ (Cells.alloc (Cells.new w _ _) _) Try.underlying25 rfl infoG ?_) | (go_at_call 106; (try rw [HA.out]); refine (implValid_any t _ _ _ _ _ _ false _ hpw hrw hl hv).mono ?_; rintro _ w5 ⟨rfl, hE5⟩; obtain ⟨r0, r1, r2, f0, f1, f2⟩ := six (B0.ext hE5)))
    (try simp only [Exit.inBlock, Exit.then])
    refine bodyPost_ret (results_row2 rfl _ _ _ _ _ _ rfl (Cells.set (Cells.set (Cells.set (B0.ext hE5) 0 _) 1 _) 2 _) Try.underlying25 rfl infoG) rfl ?_
    exact givesHO_none (by unfold sortO; rw [hv]; rfl) (Ext.setCell (Ext.setCell (Ext.setCell (E0.trans hE5) (Nat.le_succ _) _) (Nat.le_succ _) _) (Nat.le_succ _) _)
  | true =>
    obtain ⟨g1, g2, g3, g4⟩ := gOk_parts hv
    have hnan := gOk_nan hv
    have HS : Hid (sortO t (cl ps) (cls rs) = chosenO t (cl ps) (cls rs) (sortK (cl ps) (List.range ps.length) ps.length)) := by unfold Hid; rw [sortO_eq, hv]; unfold ordK; rw [cl_length]; rfl
    have HG3 := Lib.hid g3
    clear g4 g3
    go_enter Try.func57, Try.ntmps57
    go_upto_region 3 with (first | (refine wpList_load_row rfl _ _ rfl _ rfl _ _ _ _ (Cells.alloc (Cells.new w _ _) _) Try.underlying25 rfl infoG ?_) | (go_at_call 106; (try rw [HA.out]); refine (implValid_any t _ _ _ _ _ _ true _ hpw hrw hl hv).mono ?_; rintro _ w5 ⟨rfl, hE5⟩))
    have A5 := A0.ext hE5
    have c1 := A5.at 1
    simp only [List.getElem?_toArray, List.getElem?_cons_succ, List.getElem?_cons_zero] at c1
    go_wp2_with fail
    have hO0 : OwnV fN 3 w5 w5.heap.size (.slice none 0 0) (List.range 0) := OwnV.nil _ _
    go_loopw [4, 13] (fun lv i wr => ∃ k : Nat, k ≤ ps.length ∧ i = .int .i64 k ∧ OwnV fN 3 wr w5.heap.size lv (List.range k) ∧ Ext w5 wr) (fun _ i _ => ps.length - (intOf i).toNat)
    case atStart => exact ⟨0, Nat.zero_le _, rfl, hO0, Ext.refl _⟩
    case round =>
      obtain ⟨k, hk, rfl, hO, hE⟩ := hrel
      clear hO0
      by_cases hlt : k < ps.length
      · have hkl : (List.range k).length = k := List.length_range
        replace hkl := Lib.hid hkl
        go_wp2_with (at_builtin; refine wl_append1V fN_cells w5 rfl underN hi0 hz0 hs0 hb0 (by omega) (by omega) rfl rfl rfl (by repeat (first | assumption | apply OwnV.drewN | apply OwnV.alloc)) (by repeat (first | assumption | exact Ext.refl _ | apply Ext.drewN | apply Ext.alloc | (refine Ext.setCell ?_ (by first | assumption | exact Nat.le_refl _) _))) (by rw [hkl.out]; omega) (by first | exact cell_new _ _ _ | exact cell_newD _ _ _ _) ?_; intro v2 w2 hO2 hE2)
        go_roundw
        case rel => exact ⟨k + 1, by omega, by go_num, by rw [List.range_succ]; exact hO2, (by repeat (first | assumption | exact Ext.refl _ | apply Ext.drewN | apply Ext.alloc | (refine Ext.setCell ?_ (by first | assumption | exact Nat.le_refl _) _)))⟩
        case measure => simp [intOf]; omega
      · obtain rfl : ps.length = k := by omega
        obtain ⟨la, lc, rfl, _⟩ := hO.fr
        obtain ⟨lg, rfl, hlg, _, _, _⟩ := OwnV.at hO (k := 0) (by rw [List.length_range]; omega)
        rw [List.length_range] at hO ⊢
        have hC := A5.ext hE
        go_upto_region 10 with (go_at_call 113; refine (sortStable_any w.heap.size lg ps.length lc pa pc ps (List.range ps.length) w5 _ c1 (hpw.ext hE5) g2.2 hE hO hlg List.length_range ⟨g2.1, g2.2⟩ (below_range _) hnan).mono ?_; rintro _ w6 ⟨rfl, hO6, hE6⟩)
        obtain ⟨SL, hSL⟩ : ∃ S, S = sortK (cl ps) (List.range ps.length) ps.length := ⟨_, rfl⟩
        have hSn : SL.length = ps.length := by rw [hSL, sortK_len, List.length_range]
        have hSb : below SL ps.length := by rw [hSL]; exact below_sortK _ _ _ (below_range _) _ (by rw [List.length_range]; omega)
        rw [← hSL] at hO6 HS
        clear hSL
        have hli : FRV fN w6 (some ⟨lg, 0, none⟩) SL := hO6.toFR
        have hsm := pick_small hv SL (by omega) hSb
        have hC6 := A5.ext hE6
        have hE60 := hE5.trans hE6
        have HSn := Lib.hid hSn.symm
        have hZ := (hE5.trans hE6).size
        have hZ0 : w.heap.size + 1 < w0.heap.size := B0.lt
        clear hSn
        go_wp2_with (first | (refine wpList_load_row rfl _ _ rfl _ rfl _ _ _ _ hC6 Try.underlying25 rfl infoG ?_) | (go_at_call 107; refine (chosenN_any t _ _ _ _ _ _ _ _ _ SL _ HSn.out (hpw.ext hE60) (hrw.ext hE60) hli hl hSb HG3.out hsm).mono ?_; rintro _ w7 ⟨t6, pv, rv, vs, ys, qs, rfl, hE7, hO7, ht6, hy6, hq6⟩; (replace ht6 := Lib.hid ht6); obtain ⟨⟨ap, cp, rfl, _⟩, ⟨ar, cr, rfl, _⟩⟩ := OwnG.fr hO7; obtain ⟨r0, r1, r2, f0, f1, f2⟩ := six (B0.ext (hE60.trans hE7))))
        (try simp only [Exit.inBlock, Exit.then])
        refine bodyPost_ret (results_row2 rfl _ _ _ _ _ _ rfl (Cells.set (Cells.set (Cells.set (B0.ext (hE60.trans hE7)) 0 _) 1 _) 2 _) Try.underlying25 rfl infoG) rfl ?_
        obtain ⟨k1, k3⟩ := OwnG.out3 (w := w) (.int .i64 t6) (.slice ap ys.length cp) (.slice ar qs.length cr) hO7 (Nat.le_succ _) (by omega) ((E0.trans hE60).trans hE7)
        unfold GivesHO
        rw [HS.out]
        exact ⟨t6, _, _, vs, ys, qs, rfl, k1, k3, ht6.out, hy6, hq6⟩
end Go.Proofs.Ytnjgcacnfobmiaa
