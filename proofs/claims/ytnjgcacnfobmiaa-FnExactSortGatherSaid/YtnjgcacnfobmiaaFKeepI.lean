/- KeepPlaces: the program's. -/
import Derived.Test.YtnjgcacnfobmiaaFChoI
namespace Go.Proofs.Ytnjgcacnfobmiaa
open Go.RowKit
set_option maxRecDepth 100000
set_option linter.unusedVariables false

def keepB (ps : List Nat) (s1 s2 : Nat) (i : Nat) : Bool := fcmp .geq .f32 (el ps i) s1 && fcmp .leq .f32 (el ps i) s2
def keepI (ps : List Nat) (s1 s2 n : Nat) : List Nat := (List.range n).filter (keepB ps s1 s2)
theorem keepI_succ (ps : List Nat) (s1 s2 n : Nat) : keepI ps s1 s2 (n + 1) = keepI ps s1 s2 n ++ (if keepB ps s1 s2 n then [n] else []) := by
  unfold keepI
  rw [List.range_succ, List.filter_append]
  congr 1
  cases h : keepB ps s1 s2 n <;> simp [h]
theorem keepI_len (ps : List Nat) (s1 s2 n : Nat) : (keepI ps s1 s2 n).length ≤ n := by
  unfold keepI
  have := List.length_filter_le (keepB ps s1 s2) (List.range n)
  rwa [List.length_range] at this
theorem keepI_lt (ps : List Nat) (s1 s2 n i : Nat) (h : i < (keepI ps s1 s2 n).length) : elv (keepI ps s1 s2 n) i < n := by
  rw [elv_eq h]
  have h1 : (keepI ps s1 s2 n)[i] ∈ keepI ps s1 s2 n := List.getElem_mem h
  unfold keepI at h1
  rw [List.mem_filter, List.mem_range] at h1
  exact h1.1
def keepO (t : Int) (ps : List Nat) (rs : List (List Nat)) (s1 s2 : Nat) : Option (Int × List Nat × List (List Nat)) :=
  if gOk t ps rs then chosenO t ps rs (keepI ps s1 s2 ps.length) else none
theorem tot_pickR (l : List Nat) (rs : List (List Nat)) (m : Nat) (h : ∀ i, i < l.length → (row rs (elv l i)).length ≤ m) : tot (pickR l rs) ≤ l.length * m := by
  induction l with
  | nil => simp [pickR, tot]
  | cons x l ih =>
    have h1 := h 0 (by simp)
    have h2 := ih (fun i hi => h (i + 1) (by simp; omega))
    show (row rs x).length + tot (pickR l rs) ≤ _
    rw [List.length_cons, Nat.succ_mul]
    have h3 : (row rs x).length ≤ m := h1
    omega
theorem pick_small {t : Int} {ps : List Nat} {rs : List (List Nat)} (h : gOk t (cl ps) (cls rs) = true) (l : List Nat) (hl : l.length ≤ 16) (hin : ∀ i, i < l.length → elv l i < ps.length) : (pick l ps).length + ((pickR l rs).length + tot (pickR l rs)) ≤ 1048576 := by
  obtain ⟨h1, h2, h3, h4⟩ := gOk_parts h
  have h5 := tot_pickR l rs 64 (fun i hi => by have := h4 (elv l i) (by rw [h3]; exact hin i hi); omega)
  rw [pick_length, pickR_length]
  omega
theorem OwnG.out3 {w wr : World} {base x : Nat} {pv rv : Value} {vs : List Value} {ps : List Nat} {rs : List (List Nat)} (a b c : Value) (hO : OwnG wr base pv rv vs ps rs) (h1 : w.heap.size ≤ x) (h2 : x < base) (hE : Ext w wr) :
    Ext w (((wr.setCell ⟨x, 0, none⟩ a).setCell ⟨x, 1, none⟩ b).setCell ⟨x, 2, none⟩ c) ∧ OwnG (((wr.setCell ⟨x, 0, none⟩ a).setCell ⟨x, 1, none⟩ b).setCell ⟨x, 2, none⟩ c) w.heap.size pv rv vs ps rs := by
  have hcR := (((chg_setCell wr x 0 a).trans (chg_setCell _ x 1 b)).trans (chg_setCell _ x 2 c))
  have hl := hO.lt
  exact ⟨Ext.setCell (Ext.setCell (Ext.setCell hE h1 _) h1 _) h1 _, (hO.chg hcR (fun q hq e => by have h3 := hl q hq; have e' : q = x := e; omega)).mono (by omega)⟩
set_option maxHeartbeats 4000000 in
theorem implKeep_any (t : Int) (pa : Option Addr) (pc : Nat) (ps : List Nat) (ra : Option Addr) (rc : Nat) (rs : List (List Nat)) (lo s1 hi s2 : Nat) (w : World) (hp : FR w pa ps) (hr : RS w ra rs) (hl : ps.length + (rs.length + tot rs) ≤ 1048576) (hlo : Is .f32 lo s1) (hhi : Is .f32 hi s2) :
    Calls Try.prog 47 #[.agg #[.int .i64 t, .slice pa ps.length pc, .slice ra rs.length rc], .float .f32 lo, .float .f32 hi] w (GivesHO (keepO t (cl ps) (cls rs) s1 s2) w) := by
  obtain ⟨i0, hi0, hz0, hs0, hb0⟩ := info_parts infoN
  generalize hA : (w.alloc (.cells #[.int .i64 t, .slice pa ps.length pc, .slice ra rs.length rc] 25)).alloc (.cells #[.int .i64 0, .slice none 0 0, .slice none 0 0] 25) = w0
  have E0 : Ext w w0 := by rw [← hA]; exact ((Ext.refl w).alloc _).alloc _
  have A0 : Cells w0 w.heap.size #[.int .i64 t, .slice pa ps.length pc, .slice ra rs.length rc] 25 := by rw [← hA]; exact (Cells.new w _ _).alloc _
  have B0 : Cells w0 (w.heap.size + 1) #[.int .i64 0, .slice none 0 0, .slice none 0 0] 25 := by rw [← hA]; exact Cells.new1 w _ _ _
  have hpw := hp.ext E0
  have hrw := hr.ext E0
  have HA := Lib.hid hA
  clear hA
  cases hv : gOk t (cl ps) (cls rs) with
  | false =>
    go_enter Try.func47, Try.ntmps47
    go_wp2_with (first | (refine wpList_load_row rfl _ _ rfl _ rfl _ _ _ _ (Cells.alloc (Cells.new w _ _) _) Try.underlying25 rfl infoG ?_) | (go_at_call 106; (try rw [HA.out]); refine (implValid_any t _ _ _ _ _ _ false _ hpw hrw hl hv).mono ?_; rintro _ w5 ⟨rfl, hE5⟩; obtain ⟨r0, r1, r2, f0, f1, f2⟩ := six (B0.ext hE5)))
    (try simp only [Exit.inBlock, Exit.then])
    refine bodyPost_ret (results_row2 rfl _ _ _ _ _ _ rfl (Cells.set (Cells.set (Cells.set (B0.ext hE5) 0 _) 1 _) 2 _) Try.underlying25 rfl infoG) rfl ?_
    exact givesHO_none (by unfold keepO; rw [hv]; rfl) (Ext.setCell (Ext.setCell (Ext.setCell (E0.trans hE5) (Nat.le_succ _) _) (Nat.le_succ _) _) (Nat.le_succ _) _)
  | true =>
    obtain ⟨g1, g2, g3, g4⟩ := gOk_parts hv
    have HS : Hid (keepO t (cl ps) (cls rs) s1 s2 = chosenO t (cl ps) (cls rs) (keepI (cl ps) s1 s2 ps.length)) := by unfold Hid keepO; rw [hv, cl_length]; rfl
    have HG4 := Lib.hid g4
    have HG3 := Lib.hid g3
    clear g4 g3
    go_enter Try.func47, Try.ntmps47
    go_upto_region 3 with (first | (refine wpList_load_row rfl _ _ rfl _ rfl _ _ _ _ (Cells.alloc (Cells.new w _ _) _) Try.underlying25 rfl infoG ?_) | (go_at_call 106; (try rw [HA.out]); refine (implValid_any t _ _ _ _ _ _ true _ hpw hrw hl hv).mono ?_; rintro _ w5 ⟨rfl, hE5⟩))
    have c1 := (A0.ext hE5).at 1
    simp only [List.getElem?_toArray, List.getElem?_cons_succ, List.getElem?_cons_zero] at c1
    go_wp2_with fail
    have hO0 : OwnV fN 3 w5 w5.heap.size (.slice none 0 0) [] := OwnV.nil _ _
    go_loopw [8, 18] (fun lv i wr => ∃ k : Nat, k ≤ ps.length ∧ i = .int .i64 k ∧ OwnV fN 3 wr w5.heap.size lv (keepI (cl ps) s1 s2 k) ∧ Ext w5 wr) (fun _ i _ => ps.length - (intOf i).toNat)
    case atStart => exact ⟨0, Nat.zero_le _, rfl, hO0, Ext.refl _⟩
    case round =>
      obtain ⟨k, hk, rfl, hO, hE⟩ := hrel
      clear hO0 c1
      by_cases hlt : k < ps.length
      · obtain ⟨b, off, rfl, hcell⟩ := hpw k hlt
        replace hcell := (hE5.trans hE).cell hcell
        have hX : Is .f32 (el ps k) (el (cl ps) k) := is_el hlt
        have hkl := keepI_len (cl ps) s1 s2 k
        cases hk1 : fcmp .geq .f32 (el (cl ps) k) s1 with
        | false =>
          have hb : keepI (cl ps) s1 s2 (k + 1) = keepI (cl ps) s1 s2 k := by rw [keepI_succ]; unfold keepB; rw [hk1]; simp
          replace hb := Lib.hid hb
          go_wp2_with (first | (refine wl_bin rfl rfl rfl rfl rfl (by first | assumption | exact is_ofInt _ _ | exact is_self) (by first | assumption | exact is_ofInt _ _ | exact is_self) ?_; intro r n hr) | (refine wl_cmp rfl rfl rfl rfl rfl (by first | assumption | exact is_ofInt _ _ | exact is_self) (by first | assumption | exact is_ofInt _ _ | exact is_self) (by first | assumption | rfl) ?_) | (refine wl_widen rfl rfl rfl (by first | exact rfl | kernel_rfl) (by kernel_rfl) (by first | assumption | exact is_ofInt _ _ | exact is_self) ?_; intro r n hr) | (refine wl_neg rfl rfl rfl (by first | assumption | exact is_ofInt _ _ | exact is_self) ?_; intro r hr))
          go_roundw
          case rel => exact ⟨k + 1, by omega, by go_num, by rw [hb.out]; exact hO, (by repeat (first | assumption | exact Ext.refl _ | apply Ext.drewN | apply Ext.alloc | (refine Ext.setCell ?_ (by first | assumption | exact Nat.le_refl _) _)))⟩
          case measure => simp [intOf]; omega
        | true =>
          cases hk2 : fcmp .leq .f32 (el (cl ps) k) s2 with
          | false =>
            have hb : keepI (cl ps) s1 s2 (k + 1) = keepI (cl ps) s1 s2 k := by rw [keepI_succ]; unfold keepB; rw [hk1, hk2]; simp
            replace hb := Lib.hid hb
            go_wp2_with (first | (refine wl_bin rfl rfl rfl rfl rfl (by first | assumption | exact is_ofInt _ _ | exact is_self) (by first | assumption | exact is_ofInt _ _ | exact is_self) ?_; intro r n hr) | (refine wl_cmp rfl rfl rfl rfl rfl (by first | assumption | exact is_ofInt _ _ | exact is_self) (by first | assumption | exact is_ofInt _ _ | exact is_self) (by first | assumption | rfl) ?_) | (refine wl_widen rfl rfl rfl (by first | exact rfl | kernel_rfl) (by kernel_rfl) (by first | assumption | exact is_ofInt _ _ | exact is_self) ?_; intro r n hr) | (refine wl_neg rfl rfl rfl (by first | assumption | exact is_ofInt _ _ | exact is_self) ?_; intro r hr))
            go_roundw
            case rel => exact ⟨k + 1, by omega, by go_num, by rw [hb.out]; exact hO, (by repeat (first | assumption | exact Ext.refl _ | apply Ext.drewN | apply Ext.alloc | (refine Ext.setCell ?_ (by first | assumption | exact Nat.le_refl _) _)))⟩
            case measure => simp [intOf]; omega
          | true =>
            have hb : keepI (cl ps) s1 s2 (k + 1) = keepI (cl ps) s1 s2 k ++ [k] := by rw [keepI_succ]; unfold keepB; rw [hk1, hk2]; simp
            replace hb := Lib.hid hb
            go_wp2_with (first | (at_builtin; refine wl_append1V fN_cells w5 rfl underN hi0 hz0 hs0 hb0 (by omega) (by omega) rfl rfl rfl (by repeat (first | assumption | apply OwnV.drewN | apply OwnV.alloc)) (by repeat (first | assumption | exact Ext.refl _ | apply Ext.drewN | apply Ext.alloc | (refine Ext.setCell ?_ (by first | assumption | exact Nat.le_refl _) _))) (by omega) (by first | exact cell_new _ _ _ | exact cell_newD _ _ _ _) ?_; intro v2 w2 hO2 hE2) | (refine wl_bin rfl rfl rfl rfl rfl (by first | assumption | exact is_ofInt _ _ | exact is_self) (by first | assumption | exact is_ofInt _ _ | exact is_self) ?_; intro r n hr) | (refine wl_cmp rfl rfl rfl rfl rfl (by first | assumption | exact is_ofInt _ _ | exact is_self) (by first | assumption | exact is_ofInt _ _ | exact is_self) (by first | assumption | rfl) ?_) | (refine wl_widen rfl rfl rfl (by first | exact rfl | kernel_rfl) (by kernel_rfl) (by first | assumption | exact is_ofInt _ _ | exact is_self) ?_; intro r n hr) | (refine wl_neg rfl rfl rfl (by first | assumption | exact is_ofInt _ _ | exact is_self) ?_; intro r hr))
            go_roundw
            case rel => exact ⟨k + 1, by omega, by go_num, by rw [hb.out]; exact hO2, (by repeat (first | assumption | exact Ext.refl _ | apply Ext.drewN | apply Ext.alloc | (refine Ext.setCell ?_ (by first | assumption | exact Nat.le_refl _) _)))⟩
            case measure => simp [intOf]; omega
      · obtain rfl : ps.length = k := by omega
        obtain ⟨la, lc, rfl, hli⟩ := hO.fr
        have hC := A0.ext (hE5.trans hE)
        have hin : ∀ i, i < (keepI (cl ps) s1 s2 ps.length).length → elv (keepI (cl ps) s1 s2 ps.length) i < ps.length := fun i hi => keepI_lt _ _ _ _ i hi
        have hsm := pick_small hv (keepI (cl ps) s1 s2 ps.length) (Nat.le_trans (keepI_len _ _ _ _) g2.2) hin
        have hZ := (hE5.trans hE).size
        have hZ0 : w.heap.size + 1 < w0.heap.size := B0.lt
        go_wp2_with (first | (refine wpList_load_row rfl _ _ rfl _ rfl _ _ _ _ hC Try.underlying25 rfl infoG ?_) | (go_at_call 107; refine (chosen_any t _ _ _ _ _ _ _ _ _ _ (hpw.ext (hE5.trans hE)) (hrw.ext (hE5.trans hE)) hli hl hin HG3.out hsm).mono ?_; rintro _ w6 ⟨t6, pv, rv, vs, ys, qs, rfl, hE6, hO6, ht6, hy6, hq6⟩; (replace ht6 := Lib.hid ht6); obtain ⟨⟨ap, cp, rfl, _⟩, ⟨ar, cr, rfl, _⟩⟩ := OwnG.fr hO6; obtain ⟨r0, r1, r2, f0, f1, f2⟩ := six (B0.ext ((hE5.trans hE).trans hE6))))
        (try simp only [Exit.inBlock, Exit.then])
        refine bodyPost_ret (results_row2 rfl _ _ _ _ _ _ rfl (Cells.set (Cells.set (Cells.set (B0.ext ((hE5.trans hE).trans hE6)) 0 _) 1 _) 2 _) Try.underlying25 rfl infoG) rfl ?_
        obtain ⟨k1, k3⟩ := OwnG.out3 (w := w) (.int .i64 t6) (.slice ap ys.length cp) (.slice ar qs.length cr) hO6 (Nat.le_succ _) (by omega) (((E0.trans hE5).trans hE).trans hE6)
        unfold GivesHO
        rw [HS.out]
        exact ⟨t6, _, _, vs, ys, qs, rfl, k1, k3, ht6.out, hy6, hq6⟩
end Go.Proofs.Ytnjgcacnfobmiaa
