/- Grounds: sizes, the copy, the comparison. -/
import Derived.Test.YtnjgcacnfobmiaaGrdE
import Derived.Deep.RegionHeld3
namespace Go.Proofs.Ytnjgcacnfobmiaa
open Go.RowKit
set_option maxRecDepth 100000
set_option linter.unusedVariables false

/-! ### Sizes -/
theorem szLayers_ok (ao : Option Addr) (n cap : Nat) (left : Int) (w : World) (h : (n : Int) ≤ left) (hl : left ≤ 1048576) : Calls Try.prog 116 #[.slice ao n cap, .int .i64 left] w fun e w' => e = .returned (.int .i64 (left - n)) ∧ w = w' := by
  have h0 : (0 : Int) ≤ left - n := by omega
  go_enter Try.func116, Try.ntmps116
  go_wp2
  go_ret
  exact ⟨by go_num, rfl⟩
theorem szLayers_no (ao : Option Addr) (n cap : Nat) (left : Int) (w : World) (h : left < (n : Int)) (h0 : 0 ≤ left) (hl : left ≤ 1048576) (hn : n ≤ 9223372036854775807) : Calls Try.prog 116 #[.slice ao n cap, .int .i64 left] w fun e w' => e = .returned (.int .i64 (-1)) ∧ w = w' := by
  have h0 : left - n < 0 := by omega
  go_enter Try.func116, Try.ntmps116
  go_wp2
  go_ret
  exact ⟨rfl, rfl⟩
theorem szGround_ok (la : Option Addr) (lc n sp de : Nat) (left : Int) (w : World) (h : (n : Int) ≤ left) (hl : left ≤ 1048576) :
    Calls Try.prog 58 #[.agg #[.slice la n lc, .float .f32 sp, .float .f32 de], .int .i64 left] w fun e w' => e = .returned (.int .i64 (left - (n : Int))) ∧ Ext w w' := by
  have h0 : (0 : Int) ≤ left - n := by omega
  go_enter Try.func58, Try.ntmps58
  go_wp2_with (go_at_call 116; refine (szLayers_ok _ _ _ _ _ (by omega) (by omega)).mono ?_; rintro _ _ ⟨rfl, rfl⟩)
  go_ret
  exact ⟨rfl, (by repeat (first | assumption | exact Ext.refl _ | apply Ext.drewN | apply Ext.alloc | (refine Ext.setCell ?_ (by first | assumption | exact Nat.le_refl _) _)))⟩
theorem szGround_no (la : Option Addr) (lc n sp de : Nat) (left : Int) (w : World) (h : left < (n : Int)) (hz : 0 ≤ left) (hb : n ≤ 9223372036854775807) (hl : left ≤ 1048576 := by omega) :
    Calls Try.prog 58 #[.agg #[.slice la n lc, .float .f32 sp, .float .f32 de], .int .i64 left] w fun e w' => e = .returned (.int .i64 (-1)) ∧ Ext w w' := by
  go_enter Try.func58, Try.ntmps58
  go_wp2_with (go_at_call 116; refine (szLayers_no _ _ _ _ _ (by omega) (by omega) (by omega) hb).mono ?_; rintro _ _ ⟨rfl, rfl⟩)
  go_ret
  exact ⟨rfl, (by repeat (first | assumption | exact Ext.refl _ | apply Ext.drewN | apply Ext.alloc | (refine Ext.setCell ?_ (by first | assumption | exact Nat.le_refl _) _)))⟩

/-! ### The comparison -/
set_option maxHeartbeats 1000000 in
theorem eqLayer_yes (p q r s : Nat) (w : World) : Calls Try.prog 160 #[.agg #[.float .f32 p, .float .f32 q, .float .f32 r, .float .f32 s], .agg #[.float .f32 p, .float .f32 q, .float .f32 r, .float .f32 s]] w (GivesE (.bool true) w) := by
  go_enter Try.func160, Try.ntmps160
  go_wp2_with (first | (go_at_call 30; refine (sameFloat_yes _ _ _ (by assumption) (by assumption) _).mono ?_; rintro _ _ ⟨rfl, n1, rfl⟩) | (refine wl_bin rfl rfl rfl rfl rfl (by first | assumption | exact is_ofInt _ _ | exact is_self) (by first | assumption | exact is_ofInt _ _ | exact is_self) ?_; intro r n hr) | (refine wl_cmp rfl rfl rfl rfl rfl (by first | assumption | exact is_ofInt _ _ | exact is_self) (by first | assumption | exact is_ofInt _ _ | exact is_self) (by first | assumption | rfl) ?_) | (refine wl_widen rfl rfl rfl (by first | exact rfl | kernel_rfl) (by kernel_rfl) (by first | assumption | exact is_ofInt _ _ | exact is_self) ?_; intro r n hr) | (refine wl_neg rfl rfl rfl (by first | assumption | exact is_ofInt _ _ | exact is_self) ?_; intro r hr))
  go_ret
  exact ⟨rfl, (by repeat (first | assumption | exact Ext.refl _ | apply Ext.drewN | apply Ext.alloc | (refine Ext.setCell ?_ (by first | assumption | exact Nat.le_refl _) _)))⟩
set_option maxHeartbeats 2000000 in
theorem eqLayerS_yes (ao bo : Option Addr) (ca cb n : Nat) (ls : List Nat) (w : World) (hx : LR w ao n ls) (hy : LR w bo n ls) (hl : n ≤ 1048576) :
    Calls Try.prog 123 #[.slice ao n ca, .slice bo n cb] w (GivesE (.bool true) w) := by
  go_enter Try.func123, Try.ntmps123
  go_wp2
  go_loopw [5] (fun i wr => ∃ k : Nat, k ≤ n ∧ i = .int .i64 k ∧ Ext w wr) (fun i _ => n - (intOf i).toNat)
  case atStart => exact ⟨0, Nat.zero_le _, rfl, Ext.refl _⟩
  case round =>
    obtain ⟨k, hk, rfl, hE⟩ := hrel
    by_cases hlt : k < n
    · obtain ⟨b, off, rfl, _, q0, q1, q2, q3⟩ := (hx.ext hE).at hlt
      obtain ⟨b', off', rfl, _, p0, p1, p2, p3⟩ := (hy.ext hE).at hlt
      have S6 : ∀ w', Ext wr w' → (Ext wr w' ∧ w'.cell? ⟨b, off + k * 4, none⟩ = some (.float .f32 (lay ls k 0)) ∧ w'.cell? ⟨b, off + k * 4 + 1, none⟩ = some (.float .f32 (lay ls k 1)) ∧ w'.cell? ⟨b, off + k * 4 + 2, none⟩ = some (.float .f32 (lay ls k 2)) ∧ w'.cell? ⟨b, off + k * 4 + 3, none⟩ = some (.float .f32 (lay ls k 3)) ∧ w'.cell? ⟨b', off' + k * 4, none⟩ = some (.float .f32 (lay ls k 0)) ∧ w'.cell? ⟨b', off' + k * 4 + 1, none⟩ = some (.float .f32 (lay ls k 1)) ∧ w'.cell? ⟨b', off' + k * 4 + 2, none⟩ = some (.float .f32 (lay ls k 2)) ∧ w'.cell? ⟨b', off' + k * 4 + 3, none⟩ = some (.float .f32 (lay ls k 3))) := fun w' h => ⟨h, h.cell q0, h.cell q1, h.cell q2, h.cell q3, h.cell p0, h.cell p1, h.cell p2, h.cell p3⟩
      go_wp2
      go_region_held3 (fun w' => Ext wr w' ∧ w'.cell? ⟨b, off + k * 4, none⟩ = some (.float .f32 (lay ls k 0)) ∧ w'.cell? ⟨b, off + k * 4 + 1, none⟩ = some (.float .f32 (lay ls k 1)) ∧ w'.cell? ⟨b, off + k * 4 + 2, none⟩ = some (.float .f32 (lay ls k 2)) ∧ w'.cell? ⟨b, off + k * 4 + 3, none⟩ = some (.float .f32 (lay ls k 3)) ∧ w'.cell? ⟨b', off' + k * 4, none⟩ = some (.float .f32 (lay ls k 0)) ∧ w'.cell? ⟨b', off' + k * 4 + 1, none⟩ = some (.float .f32 (lay ls k 1)) ∧ w'.cell? ⟨b', off' + k * 4 + 2, none⟩ = some (.float .f32 (lay ls k 2)) ∧ w'.cell? ⟨b', off' + k * 4 + 3, none⟩ = some (.float .f32 (lay ls k 3)))
        (first | (refine S6 _ ?_; repeat (first | assumption | exact Ext.refl _ | apply Ext.drewN | (refine Ext.trans (by assumption) ?_))))
        (first | (go_at_call 160; refine (eqLayer_yes _ _ _ _ _).mono ?_; rintro _ w2 ⟨rfl, E2⟩; (have E2' : Ext wr w2 := Ext.trans (by repeat (first | assumption | exact Ext.refl _ | apply Ext.drewN | (refine Ext.trans (by assumption) ?_))) E2)))
      go_wp2
      go_roundw
      case rel => exact ⟨k + 1, by omega, by go_num, Ext.trans hE (by repeat (first | assumption | exact Ext.refl _ | apply Ext.drewN))⟩
      case measure => simp [intOf]; omega
    · go_wp2
      go_ret
      exact ⟨rfl, hE⟩
set_option maxHeartbeats 1000000 in
theorem eqGround_yes (la : Option Addr) (lc n : Nat) (ls : List Nat) (sp de : Nat) (qa : Option Addr) (qc : Nat) (w : World) (hx : LR w la n ls) (hy : LR w qa n ls) (hl : n ≤ 1048576) :
    Calls Try.prog 62 #[.agg #[.slice la n lc, .float .f32 sp, .float .f32 de], .agg #[.slice qa n qc, .float .f32 sp, .float .f32 de]] w (GivesE (.bool true) w) := by
  go_enter Try.func62, Try.ntmps62
  go_wp2_with (first | (go_at_call 123; refine (eqLayerS_yes _ _ _ _ _ _ _ (hx.ext (by repeat (first | assumption | exact Ext.refl _ | apply Ext.drewN | apply Ext.alloc | (refine Ext.setCell ?_ (by first | assumption | exact Nat.le_refl _) _)))) (hy.ext (by repeat (first | assumption | exact Ext.refl _ | apply Ext.drewN | apply Ext.alloc | (refine Ext.setCell ?_ (by first | assumption | exact Nat.le_refl _) _)))) hl).mono ?_; rintro _ w1 ⟨rfl, E1⟩; (have c0 := E1.cell (boxed (w := w) (cs := #[.slice la n lc, .float .f32 sp, .float .f32 de]) ((Ext.refl _).alloc _) (i := 1) rfl)); (have c1 := E1.cell (boxed (w := w) (cs := #[.slice la n lc, .float .f32 sp, .float .f32 de]) ((Ext.refl _).alloc _) (i := 2) rfl)); (have c2 := E1.cell (boxed (w := w.alloc _) (Ext.refl _) (i := 1) rfl)); (have c3 := E1.cell (boxed (w := w.alloc _) (Ext.refl _) (i := 2) rfl)); simp only [size_alloc] at c0 c1 c2 c3) | (go_at_call 30; refine (sameFloat_yes _ _ _ (by assumption) (by assumption) _).mono ?_; rintro _ _ ⟨rfl, n1, rfl⟩) | (refine wl_bin rfl rfl rfl rfl rfl (by first | assumption | exact is_ofInt _ _ | exact is_self) (by first | assumption | exact is_ofInt _ _ | exact is_self) ?_; intro r n hr) | (refine wl_cmp rfl rfl rfl rfl rfl (by first | assumption | exact is_ofInt _ _ | exact is_self) (by first | assumption | exact is_ofInt _ _ | exact is_self) (by first | assumption | rfl) ?_) | (refine wl_widen rfl rfl rfl (by first | exact rfl | kernel_rfl) (by kernel_rfl) (by first | assumption | exact is_ofInt _ _ | exact is_self) ?_; intro r n hr) | (refine wl_neg rfl rfl rfl (by first | assumption | exact is_ofInt _ _ | exact is_self) ?_; intro r hr))
  go_ret
  exact ⟨rfl, (by repeat (first | assumption | exact Ext.trans (((Ext.refl w).alloc _).alloc _) E1 | apply Ext.drewN))⟩

/-! ### The copy -/
set_option maxHeartbeats 1000000 in
theorem toGround_any (la : Option Addr) (lc n : Nat) (ls : List Nat) (sp de : Nat) (w : World) (hc : LR w la n ls) (hl : n ≤ 1048576) :
    Calls Try.prog 60 #[.agg #[.slice la n lc, .float .f32 sp, .float .f32 de]] w fun e w' => ∃ v, e = .returned (.agg #[v, .float .f32 sp, .float .f32 de]) ∧ Ext w w' ∧ OwnL w' w.heap.size v n ls := by
  go_enter Try.func60, Try.ntmps60
  go_wp2_with fail
  go_at_call 120; refine (toLayerS_any _ _ _ ls _ (hc.ext ((((Ext.refl w).alloc _).alloc _).alloc _)) hl).mono ?_
  rintro _ w1 ⟨pv, rfl, hE1, hP⟩
  have cA : Cells w1 w.heap.size #[.slice la n lc, .float .f32 sp, .float .f32 de] 73 := Cells.ext (((Cells.new _ _ _).alloc _).alloc _) hE1
  have cB : Cells w1 (w.heap.size + 1) #[.slice none 0 0, .float .f32 0, .float .f32 0] 79 := Cells.ext ((Cells.new1 _ _ _ _).alloc _) hE1
  have cC : Cells w1 (w.heap.size + 1 + 1) #[.slice none 0 0, .float .f32 0, .float .f32 0] 79 := Cells.ext (Cells.new2 _ _ _ _ _) hE1
  have hE : Ext w w1 := Ext.trans ((((Ext.refl w).alloc _).alloc _).alloc _) hE1
  have hsz : w.heap.size + 1 + 1 + 1 ≤ w1.heap.size := cC.lt
  have hbs : ∀ k, pv.ownBlock = some k → w.heap.size + 1 + 1 + 1 ≤ k ∧ k < w1.heap.size := fun k hk => by
    have h1 := hP.lt k hk
    refine ⟨Nat.le_trans ?_ h1.1, h1.2⟩
    simp
  have hP0 : OwnL w1 w.heap.size pv n ls := hP.mono (by simp; omega)
  clear hE1 hP
  obtain ⟨ap, cp, rfl, _⟩ := hP0.fr
  have cC3 : Cells (((w1.setCell ⟨w.heap.size + 1 + 1, 0, none⟩ (.slice ap n cp)).setCell ⟨w.heap.size + 1 + 1, 1, none⟩ (.float .f32 sp)).setCell ⟨w.heap.size + 1 + 1, 2, none⟩ (.float .f32 de)) (w.heap.size + 1 + 1) #[.slice ap n cp, .float .f32 sp, .float .f32 de] 79 := ((cC.set 0 _).set 1 _).set 2 _
  have cB3 : Cells (((w1.setCell ⟨w.heap.size + 1 + 1, 0, none⟩ (.slice ap n cp)).setCell ⟨w.heap.size + 1 + 1, 1, none⟩ (.float .f32 sp)).setCell ⟨w.heap.size + 1 + 1, 2, none⟩ (.float .f32 de)) (w.heap.size + 1) #[.slice none 0 0, .float .f32 0, .float .f32 0] 79 := ((cB.other (by omega) _ _).other (by omega) _ _).other (by omega) _ _
  have a1 := cA.at 1
  have a2 := cA.at 2
  have k0 := cC.at 0
  have k1 := cC.at 1
  have k2 := cC.at 2
  have y0 := cC.fz 0
  have y1 := cC.fz 1
  have y2 := cC.fz 2
  have b0 := cB3.at 0
  have b1 := cB3.at 1
  have b2 := cB3.at 2
  have z0 := cB3.fz 0
  have z1 := cB3.fz 1
  have z2 := cB3.fz 2
  simp only [List.getElem?_toArray, List.getElem?_cons_succ, List.getElem?_cons_zero] at a1 a2 k0 k1 k2 b0 b1 b2
  have cB6 := ((cB3.set 0 (.slice ap n cp)).set 1 (.float .f32 sp)).set 2 (.float .f32 de)
  have hc1 := ((chg_setCell w1 (w.heap.size + 1 + 1) 0 (.slice ap n cp)).trans (chg_setCell _ (w.heap.size + 1 + 1) 1 (.float .f32 sp))).trans (chg_setCell _ (w.heap.size + 1 + 1) 2 (.float .f32 de))
  have hc2 := ((chg_setCell (((w1.setCell ⟨w.heap.size + 1 + 1, 0, none⟩ (.slice ap n cp)).setCell ⟨w.heap.size + 1 + 1, 1, none⟩ (.float .f32 sp)).setCell ⟨w.heap.size + 1 + 1, 2, none⟩ (.float .f32 de)) (w.heap.size + 1) 0 (.slice ap n cp)).trans (chg_setCell _ (w.heap.size + 1) 1 (.float .f32 sp))).trans (chg_setCell _ (w.heap.size + 1) 2 (.float .f32 de))
  go_wp2_with (first | (refine wpList_load_row rfl _ _ rfl _ rfl _ _ _ _ cC3 Try.underlying79 rfl infoGr ?_))
  refine bodyPost_ret (results_cell_row rfl _ _ _ _ _ (0, 0) _ rfl cB6 Try.underlying79 rfl infoGr) rfl ?_
  refine ⟨_, rfl, ?_, ?_⟩
  · exact Chg.ext (Chg.ext hE hc1 (fun k hk => by omega)) hc2 (fun k hk => by omega)
  · exact (hP0.chg hc1 (fun k hk e => by have := hbs k hk; omega)).chg hc2 (fun k hk e => by have := hbs k hk; omega)
end Go.Proofs.Ytnjgcacnfobmiaa
