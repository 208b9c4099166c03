/- FirstTime: the reference's and the program's. -/
import Derived.Test.YtnjgcacnfobmiaaFHead
namespace Go.Proofs.Ytnjgcacnfobmiaa
open Go.RowKit
set_option maxRecDepth 100000
set_option linter.unusedVariables false

theorem fstS_no {n : Nat} {l : List Nat} {s y j : Nat} (h : hedG n l s j y = none) : fstS n l s y (j + 1) = fstS n l s y j := by
  show (match hedG n l s j y with | some t => _ | none => _) = _
  rw [h]
theorem fstS_not {n : Nat} {l : List Nat} {s y j t : Nat} (h : hedG n l s j y = some t) (hq : fcmp .lss .f32 t (fstS n l s y j).2 = false) : fstS n l s y (j + 1) = fstS n l s y j := by
  show (match hedG n l s j y with | some t => (if fcmp .lss .f32 t (fstS n l s y j).2 then ((j : Int), t) else fstS n l s y j) | none => _) = _
  rw [h]; simp only [hq]; rfl
theorem fstS_yes {n : Nat} {l : List Nat} {s y j t : Nat} (h : hedG n l s j y = some t) (hq : fcmp .lss .f32 t (fstS n l s y j).2 = true) : fstS n l s y (j + 1) = ((j : Int), t) := by
  show (match hedG n l s j y with | some t => (if fcmp .lss .f32 t (fstS n l s y j).2 then ((j : Int), t) else fstS n l s y j) | none => _) = _
  rw [h]; simp only [hq]; rfl
theorem hedO_eq {n : Nat} {l : List Nat} {s d y j : Nat} (hg : grdB n l s d = true) (hs : wayB y = true) (hj : j < n) : hedO n l s d (j : Int) y = hedG n l s j y := by
  unfold hedO bndB
  rw [hg, hs, inB_mk (by omega) (by omega)]
  rfl
set_option maxHeartbeats 4000000 in
theorem specFirst_any (la : Option Addr) (lc n : Nat) (ls : List Nat) (sp de : Nat) (yb y : Nat) (w : World) (hc : LR w la n ls) (hl : n ≤ 1048576) (hy : Is .f32 yb y) :
    Calls Try.prog 69 #[.agg #[.slice la n lc, .float .f32 sp, .float .f32 de], .float .f32 yb] w (GivesIFE (fstO n (cl ls) (canon .f32 sp) (canon .f32 de) y) w) := by
  generalize hA : w.alloc (.cells #[.slice la n lc, .float .f32 sp, .float .f32 de] 79) = w0
  have E0 : Ext w w0 := by rw [← hA]; exact (Ext.refl w).alloc _
  have c0 : w0.cell? ⟨w.heap.size, 0, none⟩ = some (.slice la n lc) := by rw [← hA]; exact boxed (Ext.refl _) rfl
  have c1 : w0.cell? ⟨w.heap.size, 1, none⟩ = some (.float .f32 sp) := by rw [← hA]; exact boxed (Ext.refl _) rfl
  have c2 : w0.cell? ⟨w.heap.size, 2, none⟩ = some (.float .f32 de) := by rw [← hA]; exact boxed (Ext.refl _) rfl
  have hcw := hc.ext E0
  have HA := Lib.hid hA
  clear hA
  cases hg : grdB n (cl ls) (canon .f32 sp) (canon .f32 de) with
  | false =>
    have h : Hid (fstO n (cl ls) (canon .f32 sp) (canon .f32 de) y = none) := by unfold Hid fstO; rw [hg]; rfl
    go_enter Try.func69, Try.ntmps69
    go_wp2_with fail
    rw [HA.out]
    go_wp2_with (go_at_call 134; refine (l02Is_any _ _ _ _ _ _ _ _ _ c0 c1 c2 hcw hl hg).mono ?_; rintro _ _ ⟨rfl, m1, rfl⟩)
    go_ret3
    exact givesIFE_none h.out (E0.drewN _)
  | true =>
  cases hs : wayB y with
  | false =>
    have h : Hid (fstO n (cl ls) (canon .f32 sp) (canon .f32 de) y = none) := by unfold Hid fstO; rw [hg, hs]; rfl
    go_enter Try.func69, Try.ntmps69
    go_wp2_with fail
    rw [HA.out]
    go_wp2_with (first | (go_at_call 134; refine (l02Is_any _ _ _ _ _ _ _ _ _ c0 c1 c2 hcw hl hg).mono ?_; rintro _ _ ⟨rfl, m1, rfl⟩) | (go_at_call 126; refine (wayG_any _ _ _ hy hs _).mono ?_; rintro _ _ ⟨rfl, m2, rfl⟩))
    go_ret3
    exact givesIFE_none h.out (by repeat (first | assumption | apply Ext.drewN))
  | true =>
    have hn := grd_len hg
    have hO : Hid (fstO n (cl ls) (canon .f32 sp) (canon .f32 de) y = if finK .f32 (fstS n (cl ls) (canon .f32 sp) y n).2 then some (fstS n (cl ls) (canon .f32 sp) y n) else none) := by unfold Hid fstO; rw [hg, hs]; rfl
    have i1 := is_lay hc.1 (show 0 < n by omega) (j := 1) (by omega)
    obtain ⟨b, off, rfl, _, q0, q1, q2, q3⟩ := hcw.at (show 0 < n by omega)
    simp only [Nat.zero_mul, Nat.add_zero] at q0 q1 q2 q3
    go_enter Try.func69, Try.ntmps69
    go_wp2_with fail
    rw [HA.out]
    go_wp2_with (first | (go_at_call 134; refine (l02Is_any _ _ _ _ _ _ _ _ _ c0 c1 c2 hcw hl hg).mono ?_; rintro _ _ ⟨rfl, m1, rfl⟩) | (go_at_call 126; refine (wayG_any _ _ _ hy hs _).mono ?_; rintro _ _ ⟨rfl, m2, rfl⟩) | (refine wl_bin rfl rfl rfl rfl rfl hy i1 ?_; intro lb0 n2 hlb))
    clear q0 q1 q2 q3 i1 hg hs
    go_loopw [7, 8, 9] (fun q t i wr => ∃ (j m lb : Nat), j ≤ n ∧ i = .int .i64 j ∧ q = .int .i64 (fstS n (cl ls) (canon .f32 sp) y j).1 ∧ t = .float .f32 lb ∧ Is .f32 lb (fstS n (cl ls) (canon .f32 sp) y j).2 ∧ wr = w0.drewN m) (fun _ _ i _ => n - (intOf i).toNat)
    case atStart => exact ⟨0, _, lb0, Nat.zero_le _, rfl, rfl, rfl, hlb, (by first | rfl | (simp only [drewN_drewN']; rfl))⟩
    case round =>
      clear hlb
      obtain ⟨j, m, lb, hj, rfl, rfl, rfl, hlb, rfl⟩ := hrel
      by_cases hlt : j < n
      · cases hh : hedG n (cl ls) (canon .f32 sp) j y with
        | none =>
          have HS := Lib.hid (fstS_no hh)
          go_wp2_with (go_at_call 130; refine (l02Head_any _ _ _ _ _ _ _ _ _ _ _ (by exact c0) (by exact c1) (by exact c2) (by exact hcw) hl hlt hy).mono ?_; intro e w2 hg2; obtain ⟨r, m2, rfl, hw2⟩ := GivesFO.no hh hg2; (obtain rfl : w2 = w0.drewN (m + m2) := by rw [hw2]; exact drewN_drewN' _ _ _); clear hg2 hw2)
          go_roundw
          case rel => exact ⟨j + 1, _, _, by omega, by go_num, by rw [HS.out], rfl, by rw [HS.out]; exact hlb, (by first | rfl | (simp only [drewN_drewN']; rfl))⟩
          case measure => simp [intOf]; omega
        | some t =>
          cases hq : fcmp .lss .f32 t (fstS n (cl ls) (canon .f32 sp) y j).2 with
          | false =>
            have HS := Lib.hid (fstS_not hh hq)
            go_wp2_with (first | (go_at_call 130; refine (l02Head_any _ _ _ _ _ _ _ _ _ _ _ (by exact c0) (by exact c1) (by exact c2) (by exact hcw) hl hlt hy).mono ?_; intro e w2 hg2; obtain ⟨r, m2, rfl, hr, hw2⟩ := GivesFO.yes hh hg2; (obtain rfl : w2 = w0.drewN (m + m2) := by rw [hw2]; exact drewN_drewN' _ _ _); clear hg2 hw2) | (refine wl_cmp rfl rfl rfl rfl rfl hr hlb hq ?_))
            go_roundw
            case rel => exact ⟨j + 1, _, _, by omega, by go_num, by rw [HS.out], rfl, by rw [HS.out]; exact hlb, (by first | rfl | (simp only [drewN_drewN']; rfl))⟩
            case measure => simp [intOf]; omega
          | true =>
            have HS := Lib.hid (fstS_yes hh hq)
            go_wp2_with (first | (go_at_call 130; refine (l02Head_any _ _ _ _ _ _ _ _ _ _ _ (by exact c0) (by exact c1) (by exact c2) (by exact hcw) hl hlt hy).mono ?_; intro e w2 hg2; obtain ⟨r, m2, rfl, hr, hw2⟩ := GivesFO.yes hh hg2; (obtain rfl : w2 = w0.drewN (m + m2) := by rw [hw2]; exact drewN_drewN' _ _ _); clear hg2 hw2) | (refine wl_cmp rfl rfl rfl rfl rfl hr hlb hq ?_))
            go_roundw
            case rel => exact ⟨j + 1, _, _, by omega, by go_num, by rw [HS.out], rfl, by rw [HS.out]; exact hr, (by first | rfl | (simp only [drewN_drewN']; rfl))⟩
            case measure => simp [intOf]; omega
      · obtain rfl : j = n := by omega
        cases hf : finK .f32 (fstS j (cl ls) (canon .f32 sp) y j).2 with
        | false =>
          have h : Hid (fstO j (cl ls) (canon .f32 sp) (canon .f32 de) y = none) := by unfold Hid; rw [hO.out, hf]; rfl
          go_wp2_with (go_at_call 97; refine (l01Finite_any _ _ _ hlb hf _).mono ?_; rintro _ _ ⟨rfl, n1, rfl⟩)
          go_ret3
          exact givesIFE_none h.out (by repeat (first | assumption | apply Ext.drewN))
        | true =>
          have h : Hid (fstO j (cl ls) (canon .f32 sp) (canon .f32 de) y = some ((fstS j (cl ls) (canon .f32 sp) y j).1, (fstS j (cl ls) (canon .f32 sp) y j).2)) := by unfold Hid; rw [hO.out, hf]; rfl
          go_wp2_with (go_at_call 97; refine (l01Finite_any _ _ _ hlb hf _).mono ?_; rintro _ _ ⟨rfl, n1, rfl⟩)
          go_ret3
          exact givesIFE_some h.out hlb (by repeat (first | assumption | apply Ext.drewN))
set_option maxHeartbeats 4000000 in
theorem implFirst_any (la : Option Addr) (lc n : Nat) (ls : List Nat) (sp de : Nat) (yb y : Nat) (w : World) (hc : LR w la n ls) (hl : n ≤ 1048576) (hcap : n ≤ lc) (hy : Is .f32 yb y) :
    Calls Try.prog 70 #[.agg #[.slice la n lc, .float .f32 sp, .float .f32 de], .float .f32 yb] w (GivesIFE (fstO n (cl ls) (canon .f32 sp) (canon .f32 de) y) w) := by
  generalize hA : w.alloc (.cells #[.slice la n lc, .float .f32 sp, .float .f32 de] 79) = w0
  have E0 : Ext w w0 := by rw [← hA]; exact (Ext.refl w).alloc _
  have c0 : w0.cell? ⟨w.heap.size, 0, none⟩ = some (.slice la n lc) := by rw [← hA]; exact boxed (Ext.refl _) rfl
  have c1 : w0.cell? ⟨w.heap.size, 1, none⟩ = some (.float .f32 sp) := by rw [← hA]; exact boxed (Ext.refl _) rfl
  have c2 : w0.cell? ⟨w.heap.size, 2, none⟩ = some (.float .f32 de) := by rw [← hA]; exact boxed (Ext.refl _) rfl
  have hcw := hc.ext E0
  have HA := Lib.hid hA
  clear hA
  cases hg : grdB n (cl ls) (canon .f32 sp) (canon .f32 de) with
  | false =>
    have h : Hid (fstO n (cl ls) (canon .f32 sp) (canon .f32 de) y = none) := by unfold Hid fstO; rw [hg]; rfl
    go_enter Try.func70, Try.ntmps70
    go_wp2_with fail
    rw [HA.out]
    go_wp2_with (go_at_call 135; refine (implValidG_any _ _ _ _ _ _ _ _ hcw hl hg).mono ?_; rintro _ w1 ⟨rfl, E1⟩; (have c0 := E1.cell c0); (have c1 := E1.cell c1); (have c2 := E1.cell c2))
    go_ret3
    exact givesIFE_none h.out (E0.trans E1)
  | true =>
  cases hs : wayB y with
  | false =>
    have h : Hid (fstO n (cl ls) (canon .f32 sp) (canon .f32 de) y = none) := by unfold Hid fstO; rw [hg, hs]; rfl
    go_enter Try.func70, Try.ntmps70
    go_wp2_with fail
    rw [HA.out]
    go_wp2_with (first | (go_at_call 135; refine (implValidG_any _ _ _ _ _ _ _ _ hcw hl hg).mono ?_; rintro _ w1 ⟨rfl, E1⟩; (have c0 := E1.cell c0); (have c1 := E1.cell c1); (have c2 := E1.cell c2)) | (go_at_call 129; refine (nonNegG_any _ _ _ hy hs _).mono ?_; rintro _ _ ⟨rfl, m2, rfl⟩))
    go_ret3
    exact givesIFE_none h.out (E0.trans (E1.drewN _))
  | true =>
    have hn := grd_len hg
    have hO : Hid (fstO n (cl ls) (canon .f32 sp) (canon .f32 de) y = if finK .f32 (fstS n (cl ls) (canon .f32 sp) y n).2 then some (fstS n (cl ls) (canon .f32 sp) y n) else none) := by unfold Hid fstO; rw [hg, hs]; rfl
    have HH := Lib.hid (fun j => hedO_eq (j := j) hg hs)
    have i1 := is_lay hc.1 (show 0 < n by omega) (j := 1) (by omega)
    have hcw' := hcw
    obtain ⟨b, off, rfl, _⟩ := hcw'.at (show 0 < n by omega)
    clear hcw'
    go_enter Try.func70, Try.ntmps70
    go_wp2_with fail
    rw [HA.out]
    go_wp2_with (first | (go_at_call 135; refine (implValidG_any _ _ _ _ _ _ _ _ hcw hl hg).mono ?_; rintro _ w1 ⟨rfl, E1⟩; (have c0 := E1.cell c0); (have c1 := E1.cell c1); (have c2 := E1.cell c2)) | (go_at_call 129; refine (nonNegG_any _ _ _ hy hs _).mono ?_; rintro _ _ ⟨rfl, m2, rfl⟩))
    have hcw1 := hcw.ext E1
    clear hcw
    have hcw := hcw1
    obtain ⟨b', off', hbo, _, q0, q1, q2, q3⟩ := hcw1.at (show 0 < n by omega)
    clear hcw1
    simp only [Option.some.injEq, Addr.mk.injEq, and_true] at hbo
    obtain ⟨rfl, rfl⟩ := hbo
    simp only [Nat.zero_mul, Nat.add_zero] at q0 q1 q2 q3
    have e0 : 0 < n := by omega
    have e0' : (0 : Int) < (n : Int) := by omega
    refine wp_region_mix (fun _ => Drawn w1) (fun _ => false) (fun _ _ => True) (by kernel_rfl) (by kernel_rfl) (by kernel_rfl) (fun _ => drawn_more _) (fun _ => (by repeat (first | exact drawn_self _ | apply drawn_more))) (fun n0 => ?_)
    repeat (first
          | (refine lx_nil ?_; intro nq)
          | (refine lx_skip rfl ?_; go_simp)
          | (refine lx_move rfl rfl rfl rfl ?_; go_simp)
          | (refine lx_assign rfl rfl rfl rfl ?_; go_simp)
          | (refine lx_bin rfl rfl rfl rfl rfl rfl (by first | assumption | exact is_ofInt _ _ | exact is_self) (by first | assumption | exact is_ofInt _ _ | exact is_self) ?_; intro r hr; go_simp)
          | (refine lx_cmp rfl rfl rfl rfl rfl rfl (by first | assumption | exact is_ofInt _ _ | exact is_self) (by first | assumption | exact is_ofInt _ _ | exact is_self) (by first | assumption | rfl) ?_; go_simp)
          | (refine lx_widen rfl rfl rfl rfl (by first | exact rfl | kernel_rfl) (by kernel_rfl) (by first | assumption | exact is_ofInt _ _ | exact is_self) ?_; intro r hr; go_simp)
          | (refine lx_valD rfl rfl (fun nn => by go_simp; rfl) ?_; go_simp))
    have hlb := hr
    clear hr
    go_wp2_with (go_at_call 136; refine (lengthL_any _ _ _ _).mono ?_; rintro _ _ ⟨rfl, rfl⟩)
    clear q0 q1 q2 q3 i1 hg hs
    go_loopw [7, 8, 30] (fun q t i wr => ∃ (j lb : Nat), j ≤ n ∧ i = .int .i64 j ∧ q = .int .i64 (fstS n (cl ls) (canon .f32 sp) y j).1 ∧ t = .float .f32 lb ∧ Is .f32 lb (fstS n (cl ls) (canon .f32 sp) y j).2 ∧ Ext w1 wr) (fun _ _ i _ => n - (intOf i).toNat)
    case atStart => exact ⟨0, _, Nat.zero_le _, rfl, rfl, rfl, hlb, (by repeat (first | exact Ext.refl _ | apply Ext.drewN))⟩
    case round =>
      clear hlb
      obtain ⟨j, lb, hj, rfl, rfl, rfl, hlb, hE⟩ := hrel
      have d0 := hE.cell c0
      have d1 := hE.cell c1
      have d2 := hE.cell c2
      by_cases hlt : j < n
      · have hHj := HH.out j hlt
        cases hh0 : hedG n (cl ls) (canon .f32 sp) j y with
        | none =>
          have hh := hHj.trans hh0
          have HS := Lib.hid (fstS_no hh0)
          clear hh0 hHj
          go_wp2_with (go_at_call 68; refine (implHead_any _ _ _ _ _ _ _ _ _ _ (by exact hcw.ext hE) hl hcap (by omega) (by omega) hy).mono ?_; intro e w2 hg2; obtain ⟨r, rfl, E2⟩ := GivesFE.no hh hg2; clear hg2)
          go_roundw
          case rel => exact ⟨j + 1, _, by omega, by go_num, by rw [HS.out], rfl, by rw [HS.out]; exact hlb, hE.trans (by repeat (first | exact E2 | apply Ext.drewN))⟩
          case measure => simp [intOf]; omega
        | some t =>
          have hh := hHj.trans hh0
          cases hq : fcmp .lss .f32 t (fstS n (cl ls) (canon .f32 sp) y j).2 with
          | false =>
            have HS := Lib.hid (fstS_not hh0 hq)
            clear hh0 hHj
            go_wp2_with (first | (go_at_call 68; refine (implHead_any _ _ _ _ _ _ _ _ _ _ (by exact hcw.ext hE) hl hcap (by omega) (by omega) hy).mono ?_; intro e w2 hg2; obtain ⟨r, rfl, hr, E2⟩ := GivesFE.yes hh hg2; clear hg2) | (refine wl_cmp rfl rfl rfl rfl rfl hr hlb hq ?_))
            go_roundw
            case rel => exact ⟨j + 1, _, by omega, by go_num, by rw [HS.out], rfl, by rw [HS.out]; exact hlb, hE.trans (by repeat (first | exact E2 | apply Ext.drewN))⟩
            case measure => simp [intOf]; omega
          | true =>
            have HS := Lib.hid (fstS_yes hh0 hq)
            clear hh0 hHj
            go_wp2_with (first | (go_at_call 68; refine (implHead_any _ _ _ _ _ _ _ _ _ _ (by exact hcw.ext hE) hl hcap (by omega) (by omega) hy).mono ?_; intro e w2 hg2; obtain ⟨r, rfl, hr, E2⟩ := GivesFE.yes hh hg2; clear hg2) | (refine wl_cmp rfl rfl rfl rfl rfl hr hlb hq ?_))
            go_roundw
            case rel => exact ⟨j + 1, _, by omega, by go_num, by rw [HS.out], rfl, by rw [HS.out]; exact hr, hE.trans (by repeat (first | exact E2 | apply Ext.drewN))⟩
            case measure => simp [intOf]; omega
      · obtain rfl : j = n := by omega
        cases hf : finK .f32 (fstS j (cl ls) (canon .f32 sp) y j).2 with
        | false =>
          have h : Hid (fstO j (cl ls) (canon .f32 sp) (canon .f32 de) y = none) := by unfold Hid; rw [hO.out, hf]; rfl
          go_wp2_with (go_at_call 99; refine (isFinite_any _ _ _ hlb hf _).mono ?_; rintro _ _ ⟨rfl, n1, rfl⟩)
          go_ret3
          exact givesIFE_none h.out (E0.trans (E1.trans (hE.drewN _)))
        | true =>
          have h : Hid (fstO j (cl ls) (canon .f32 sp) (canon .f32 de) y = some ((fstS j (cl ls) (canon .f32 sp) y j).1, (fstS j (cl ls) (canon .f32 sp) y j).2)) := by unfold Hid; rw [hO.out, hf]; rfl
          go_wp2_with (go_at_call 99; refine (isFinite_any _ _ _ hlb hf _).mono ?_; rintro _ _ ⟨rfl, n1, rfl⟩)
          go_ret3
          exact givesIFE_some h.out hlb (E0.trans (E1.trans (hE.drewN _)))
end Go.Proofs.Ytnjgcacnfobmiaa
