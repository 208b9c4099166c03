/- ShootRay: the reference's and the program's. -/
import Derived.Test.YtnjgcacnfobmiaaFSteep
namespace Go.Proofs.Ytnjgcacnfobmiaa
open Go.RowKit
set_option maxRecDepth 100000
set_option linter.unusedVariables false

theorem shtS_none {n : Nat} {l : List Nat} {s k y j : Nat} (h : echG n l s k (midG (shtS n l s k y j)) = none) : shtS n l s k y (j + 1) = ((shtS n l s k y j).1, midG (shtS n l s k y j)) := by
  show (if upB n l s k y (midG (shtS n l s k y j)) then _ else _) = _
  unfold upB; rw [h]; rfl
theorem shtS_gt {n : Nat} {l : List Nat} {s k y j : Nat} {x : Nat × Nat} (h : echG n l s k (midG (shtS n l s k y j)) = some x) (hq : fcmp .gtr .f32 x.2 y = true) : shtS n l s k y (j + 1) = ((shtS n l s k y j).1, midG (shtS n l s k y j)) := by
  show (if upB n l s k y (midG (shtS n l s k y j)) then _ else _) = _
  unfold upB; rw [h]; simp only [hq]; rfl
theorem shtS_le {n : Nat} {l : List Nat} {s k y j : Nat} {x : Nat × Nat} (h : echG n l s k (midG (shtS n l s k y j)) = some x) (hq : fcmp .gtr .f32 x.2 y = false) : shtS n l s k y (j + 1) = (midG (shtS n l s k y j), (shtS n l s k y j).2) := by
  show (if upB n l s k y (midG (shtS n l s k y j)) then _ else _) = _
  unfold upB; rw [h]; simp only [hq]; rfl
theorem shtS_nn {n : Nat} {l : List Nat} {s d k y : Nat} (hg : grdB n l s d = true) (hk : k < n) : ∀ j, (shtS n l s k y j).1 ≤ inf .f32 ∧ (shtS n l s k y j).2 ≤ inf .f32 := by
  intro j
  induction j with
  | zero => exact ⟨by show canon .f32 0 ≤ _; decide +kernel, quo_one (mostG_pos hg k hk)⟩
  | succ j ih =>
    have hm : midG (shtS n l s k y j) ≤ inf .f32 := mid_nn ih.1 ih.2
    show (if upB n l s k y (midG (shtS n l s k y j)) then ((shtS n l s k y j).1, midG (shtS n l s k y j)) else (midG (shtS n l s k y j), (shtS n l s k y j).2)).1 ≤ _ ∧ (if upB n l s k y (midG (shtS n l s k y j)) then ((shtS n l s k y j).1, midG (shtS n l s k y j)) else (midG (shtS n l s k y j), (shtS n l s k y j).2)).2 ≤ _
    split
    · exact ⟨ih.1, hm⟩
    · exact ⟨hm, ih.2⟩
theorem ech_fin {n : Nat} {l : List Nat} {s d k p : Nat} {x : Nat × Nat} (hg : grdB n l s d = true) (hk : k < n) (hp : p ≤ inf .f32) (h : echG n l s k p = some x) : finK .f32 p = true ∧ finK .f32 x.1 = true := by
  constructor
  · cases hc : cosO n l s 0 p with
    | none =>
      have h1 := rayS_no hc (k + 1) (by omega)
      unfold echG rayG at h
      rw [h1] at h; cases h
    | some c =>
      unfold cosO at hc
      cases hq : fcmp .lss .f32 (sinG n l s 0 p) (canon .f32 1065353216) with
      | false => rw [hq] at hc; cases hc
      | true =>
        rw [sinG_lay (show 0 < n by omega)] at hq
        have h2 := (sine_small hp (lay_pos hg (show 0 < n by omega)).2 hq).2
        exact mg_finK (by rw [mg_small hp]; exact h2)
  · unfold echG at h
    cases h1 : (rayG n l s k p).map dbl with
    | none => rw [h1] at h; cases h
    | some z =>
      rw [h1] at h
      unfold fin2 at h
      simp only at h
      split at h
      · rename_i h2
        injection h with h
        subst h
        simp only [Bool.and_eq_true] at h2
        exact h2.1
      · cases h
set_option maxHeartbeats 4000000 in
theorem specShoot_any (la : Option Addr) (lc n : Nat) (ls : List Nat) (sp de : Nat) (k : Int) (yb y : Nat) (w : World) (hc : LR w la n ls) (hl : n ≤ 1048576) (hk1 : -9223372036854775808 ≤ k) (hk2 : k ≤ 9223372036854775807) (hy : Is .f32 yb y) :
    Calls Try.prog 65 #[.agg #[.slice la n lc, .float .f32 sp, .float .f32 de], .int .i64 k, .float .f32 yb] w (GivesFFE (shtO n (cl ls) (canon .f32 sp) (canon .f32 de) k y) w) := by
  generalize hA : w.alloc (.cells #[.slice la n lc, .float .f32 sp, .float .f32 de] 79) = w0
  have E0 : Ext w w0 := by rw [← hA]; exact (Ext.refl w).alloc _
  have c0 : w0.cell? ⟨w.heap.size, 0, none⟩ = some (.slice la n lc) := by rw [← hA]; exact boxed (Ext.refl _) rfl
  have c1 : w0.cell? ⟨w.heap.size, 1, none⟩ = some (.float .f32 sp) := by rw [← hA]; exact boxed (Ext.refl _) rfl
  have c2 : w0.cell? ⟨w.heap.size, 2, none⟩ = some (.float .f32 de) := by rw [← hA]; exact boxed (Ext.refl _) rfl
  have hcw := hc.ext E0
  have HA := Lib.hid hA
  clear hA
  cases hb : bndB n (cl ls) (canon .f32 sp) (canon .f32 de) k with
  | false =>
    have h : Hid (shtO n (cl ls) (canon .f32 sp) (canon .f32 de) k y = none) := by unfold Hid shtO; rw [hb]; rfl
    go_enter Try.func65, Try.ntmps65
    go_wp2_with fail
    rw [HA.out]
    go_wp2_with (go_at_call 117; refine (l02Bnd_any _ _ _ _ _ _ _ _ _ _ c0 c1 c2 hcw hl hb).mono ?_; rintro _ w2 ⟨rfl, m, rfl⟩)
    go_ret3
    exact givesFFE_none h.out (E0.drewN _)
  | true =>
  obtain ⟨hgr, hn, hk0, hkn'⟩ := bnd_parts hb
  obtain ⟨k, rfl⟩ := Int.eq_ofNat_of_zero_le hk0
  have hkn : k < n := by omega
  cases hs : wayB y with
  | false =>
    have h : Hid (shtO n (cl ls) (canon .f32 sp) (canon .f32 de) k y = none) := by unfold Hid shtO; rw [hb, hs]; rfl
    go_enter Try.func65, Try.ntmps65
    go_wp2_with fail
    rw [HA.out]
    go_wp2_with (first | (go_at_call 117; refine (l02Bnd_any _ _ _ _ _ _ _ _ _ _ c0 c1 c2 hcw hl hb).mono ?_; rintro _ w2 ⟨rfl, m, rfl⟩) | (go_at_call 126; refine (wayG_any _ _ _ hy hs _).mono ?_; rintro _ _ ⟨rfl, m2, rfl⟩))
    go_ret3
    exact givesFFE_none h.out (by repeat (first | assumption | apply Ext.drewN))
  | true =>
  cases hf : finK .f32 (stpG (cl ls) k) with
  | false =>
    have h : Hid (shtO n (cl ls) (canon .f32 sp) (canon .f32 de) k y = none) := by unfold Hid shtO; rw [hb, hs]; show (if (true && (true && finK .f32 (stpG (cl ls) k))) then _ else _) = _; rw [hf]; rfl
    go_enter Try.func65, Try.ntmps65
    go_wp2_with fail
    rw [HA.out]
    go_wp2_with (first | (go_at_call 117; refine (l02Bnd_any _ _ _ _ _ _ _ _ _ _ c0 c1 c2 hcw hl hb).mono ?_; rintro _ w2 ⟨rfl, m, rfl⟩) | (go_at_call 126; refine (wayG_any _ _ _ hy hs _).mono ?_; rintro _ _ ⟨rfl, m2, rfl⟩) | (go_at_call 127; refine (l02Steep_any _ _ _ _ _ _ _ _ _ (by exact c0) (by exact c1) (by exact c2) (by exact hcw) hl hkn).mono ?_; rintro _ w3 ⟨hb0, m3, rfl, hhb, rfl⟩) | (go_at_call 97; refine (l01Finite_any _ _ _ hhb hf _).mono ?_; rintro _ _ ⟨rfl, n1, rfl⟩))
    go_ret3
    exact givesFFE_none h.out (by repeat (first | assumption | apply Ext.drewN))
  | true =>
    have hO : Hid (shtO n (cl ls) (canon .f32 sp) (canon .f32 de) k y = (echG n (cl ls) (canon .f32 sp) k (shtS n (cl ls) (canon .f32 sp) k y 30).1).map (fun x => ((shtS n (cl ls) (canon .f32 sp) k y 30).1, x.1))) := by unfold Hid shtO; rw [hb, hs]; show (if (true && (true && finK .f32 (stpG (cl ls) k))) then _ else _) = _; rw [hf]; rfl
    go_enter Try.func65, Try.ntmps65
    go_wp2_with fail
    rw [HA.out]
    go_wp2_with (first | (go_at_call 117; refine (l02Bnd_any _ _ _ _ _ _ _ _ _ _ c0 c1 c2 hcw hl hb).mono ?_; rintro _ w2 ⟨rfl, m, rfl⟩) | (go_at_call 126; refine (wayG_any _ _ _ hy hs _).mono ?_; rintro _ _ ⟨rfl, m2, rfl⟩) | (go_at_call 127; refine (l02Steep_any _ _ _ _ _ _ _ _ _ (by exact c0) (by exact c1) (by exact c2) (by exact hcw) hl hkn).mono ?_; rintro _ w3 ⟨hb0, m3, rfl, hhb, rfl⟩) | (go_at_call 97; refine (l01Finite_any _ _ _ hhb hf _).mono ?_; rintro _ _ ⟨rfl, n1, rfl⟩))
    clear hb hs hf hgr
    go_loopw [9, 10, 11] (fun lo hi i wr => ∃ (j m lb hb : Nat), j ≤ 30 ∧ i = .int .i64 j ∧ lo = .float .f32 lb ∧ hi = .float .f32 hb ∧ Is .f32 lb (shtS n (cl ls) (canon .f32 sp) k y j).1 ∧ Is .f32 hb (shtS n (cl ls) (canon .f32 sp) k y j).2 ∧ wr = w0.drewN m) (fun _ _ i _ => 30 - (intOf i).toNat)
    case atStart => exact ⟨0, _, 0, hb0, Nat.zero_le _, rfl, rfl, rfl, is_self, hhb, (by first | rfl | (simp only [drewN_drewN']; rfl))⟩
    case round =>
      clear hhb
      obtain ⟨j, m, lb, hb, hj, rfl, rfl, rfl, hlo, hhi, rfl⟩ := hrel
      by_cases hlt : j < 30
      · have e1 : (j : Int) < 30 := by omega
        cases he : echG n (cl ls) (canon .f32 sp) k (midG (shtS n (cl ls) (canon .f32 sp) k y j)) with
        | none =>
          have HS := Lib.hid (shtS_none he)
          go_wp2_with (first | (go_at_call 124; refine (l02Echo_any _ _ _ _ _ _ _ _ _ _ _ (by exact c0) (by exact c1) (by exact c2) (by exact hcw) hl hkn hp).mono ?_; intro e w3 hg; obtain ⟨r, q, m3, rfl, rfl⟩ := GivesFFQ.no he hg; clear hg) | (refine wl_bin rfl rfl rfl rfl rfl hlo hhi ?_; intro rs n1 hrs) | (refine wl_bin rfl rfl rfl rfl rfl is_self hrs ?_; intro pb n2 hp; clear hrs; (replace hp : Is .f32 pb (midG (shtS n (cl ls) (canon .f32 sp) k y j)) := hp)))
          go_roundw
          case rel => exact ⟨j + 1, _, _, _, by omega, by go_num, rfl, rfl, by rw [HS.out]; exact hlo, by rw [HS.out]; exact hp, (by first | rfl | (simp only [drewN_drewN']; rfl))⟩
          case measure => simp [intOf]; omega
        | some x =>
          cases hq : fcmp .gtr .f32 x.2 y with
          | true =>
            have HS := Lib.hid (shtS_gt he hq)
            go_wp2_with (first | (go_at_call 124; refine (l02Echo_any _ _ _ _ _ _ _ _ _ _ _ (by exact c0) (by exact c1) (by exact c2) (by exact hcw) hl hkn hp).mono ?_; intro e w3 hg; obtain ⟨r, q, m3, rfl, hr1, hr2, rfl⟩ := GivesFFQ.yes he hg; clear hg) | (refine wl_bin rfl rfl rfl rfl rfl hlo hhi ?_; intro rs n1 hrs) | (refine wl_bin rfl rfl rfl rfl rfl is_self hrs ?_; intro pb n2 hp; clear hrs; (replace hp : Is .f32 pb (midG (shtS n (cl ls) (canon .f32 sp) k y j)) := hp)) | (refine wl_cmp rfl rfl rfl rfl rfl hr2 hy hq ?_))
            go_roundw
            case rel => exact ⟨j + 1, _, _, _, by omega, by go_num, rfl, rfl, by rw [HS.out]; exact hlo, by rw [HS.out]; exact hp, (by first | rfl | (simp only [drewN_drewN']; rfl))⟩
            case measure => simp [intOf]; omega
          | false =>
            have HS := Lib.hid (shtS_le he hq)
            go_wp2_with (first | (go_at_call 124; refine (l02Echo_any _ _ _ _ _ _ _ _ _ _ _ (by exact c0) (by exact c1) (by exact c2) (by exact hcw) hl hkn hp).mono ?_; intro e w3 hg; obtain ⟨r, q, m3, rfl, hr1, hr2, rfl⟩ := GivesFFQ.yes he hg; clear hg) | (refine wl_bin rfl rfl rfl rfl rfl hlo hhi ?_; intro rs n1 hrs) | (refine wl_bin rfl rfl rfl rfl rfl is_self hrs ?_; intro pb n2 hp; clear hrs; (replace hp : Is .f32 pb (midG (shtS n (cl ls) (canon .f32 sp) k y j)) := hp)) | (refine wl_cmp rfl rfl rfl rfl rfl hr2 hy hq ?_))
            go_roundw
            case rel => exact ⟨j + 1, _, _, _, by omega, by go_num, rfl, rfl, by rw [HS.out]; exact hp, by rw [HS.out]; exact hhi, (by first | rfl | (simp only [drewN_drewN']; rfl))⟩
            case measure => simp [intOf]; omega
      · obtain rfl : j = 30 := by omega
        have hp := hlo
        cases he : echG n (cl ls) (canon .f32 sp) k (shtS n (cl ls) (canon .f32 sp) k y 30).1 with
        | none =>
          have h : Hid (shtO n (cl ls) (canon .f32 sp) (canon .f32 de) k y = none) := by unfold Hid; rw [hO.out, he]; rfl
          go_wp2_with (go_at_call 124; refine (l02Echo_any _ _ _ _ _ _ _ _ _ _ _ (by exact c0) (by exact c1) (by exact c2) (by exact hcw) hl hkn hp).mono ?_; intro e w3 hg; obtain ⟨r, q, m3, rfl, rfl⟩ := GivesFFQ.no he hg; clear hg)
          go_ret3
          exact givesFFE_none h.out (by repeat (first | assumption | apply Ext.drewN))
        | some x =>
          have h : Hid (shtO n (cl ls) (canon .f32 sp) (canon .f32 de) k y = some ((shtS n (cl ls) (canon .f32 sp) k y 30).1, x.1)) := by unfold Hid; rw [hO.out, he]; rfl
          go_wp2_with (go_at_call 124; refine (l02Echo_any _ _ _ _ _ _ _ _ _ _ _ (by exact c0) (by exact c1) (by exact c2) (by exact hcw) hl hkn hp).mono ?_; intro e w3 hg; obtain ⟨r, q, m3, rfl, hr1, hr2, rfl⟩ := GivesFFQ.yes he hg; clear hg)
          go_ret3
          exact givesFFE_some h.out hlo hr1 (by repeat (first | assumption | apply Ext.drewN))
theorem echRO_eq {n : Nat} {l : List Nat} {s d k p : Nat} (hb : bndB n l s d (k : Int) = true) (hp : p ≤ inf .f32) : echRO n l s d (k : Int) p = echG n l s k p := by
  unfold echRO
  rw [hb, slow_nn hp]; rfl
theorem stpO_no {n : Nat} {l : List Nat} {s d y : Nat} {k : Int} (h : stpO n l s d k = none) : shtO n l s d k y = none := by
  unfold stpO finO1 at h
  unfold shtO
  cases hb : bndB n l s d k with
  | false => rfl
  | true =>
    rw [hb] at h
    cases hf : finK .f32 (stpG l k.toNat) with
    | false => cases wayB y <;> rfl
    | true => rw [hf] at h; cases h
theorem stpO_yes {n : Nat} {l : List Nat} {s d z : Nat} {k : Int} (h : stpO n l s d k = some z) : bndB n l s d k = true ∧ z = stpG l k.toNat ∧ finK .f32 (stpG l k.toNat) = true := by
  unfold stpO finO1 at h
  cases hb : bndB n l s d k with
  | false => rw [hb] at h; cases h
  | true =>
    rw [hb] at h
    cases hf : finK .f32 (stpG l k.toNat) with
    | false => rw [hf] at h; cases h
    | true => rw [hf] at h; injection h with h; exact ⟨rfl, h.symm, rfl⟩
set_option maxHeartbeats 4000000 in
theorem implShoot_any (la : Option Addr) (lc n : Nat) (ls : List Nat) (sp de : Nat) (k : Int) (yb y : Nat) (w : World) (hc : LR w la n ls) (hl : n ≤ 1048576) (hcap : n ≤ lc) (hk1 : -9223372036854775808 ≤ k) (hk2 : k ≤ 9223372036854775807) (hy : Is .f32 yb y) :
    Calls Try.prog 66 #[.agg #[.slice la n lc, .float .f32 sp, .float .f32 de], .int .i64 k, .float .f32 yb] w (GivesFFE (shtO n (cl ls) (canon .f32 sp) (canon .f32 de) k y) w) := by
  generalize hA : w.alloc (.cells #[.slice la n lc, .float .f32 sp, .float .f32 de] 79) = w0
  have E0 : Ext w w0 := by rw [← hA]; exact (Ext.refl w).alloc _
  have c0 : w0.cell? ⟨w.heap.size, 0, none⟩ = some (.slice la n lc) := by rw [← hA]; exact boxed (Ext.refl _) rfl
  have c1 : w0.cell? ⟨w.heap.size, 1, none⟩ = some (.float .f32 sp) := by rw [← hA]; exact boxed (Ext.refl _) rfl
  have c2 : w0.cell? ⟨w.heap.size, 2, none⟩ = some (.float .f32 de) := by rw [← hA]; exact boxed (Ext.refl _) rfl
  have hcw := hc.ext E0
  have HA := Lib.hid hA
  clear hA
  cases hst : stpO n (cl ls) (canon .f32 sp) (canon .f32 de) k with
  | none =>
    have h : Hid (shtO n (cl ls) (canon .f32 sp) (canon .f32 de) k y = none) := by unfold Hid; exact stpO_no hst
    go_enter Try.func66, Try.ntmps66
    go_wp2_with fail
    rw [HA.out]
    go_wp2_with (go_at_call 128; refine (steep_any _ _ _ _ _ _ _ _ hcw hl hcap hk1 hk2).mono ?_; intro e w1 hg; obtain ⟨hb0, rfl, E1⟩ := GivesFE.no hst hg; clear hg)
    go_ret3
    exact givesFFE_none h.out (E0.trans E1)
  | some z =>
  obtain ⟨hb, rfl, hf⟩ := stpO_yes hst
  obtain ⟨hgr, hn, hk0, hkn'⟩ := bnd_parts hb
  obtain ⟨k, rfl⟩ := Int.eq_ofNat_of_zero_le hk0
  have hkn : k < n := by omega
  cases hs : wayB y with
  | false =>
    have h : Hid (shtO n (cl ls) (canon .f32 sp) (canon .f32 de) k y = none) := by unfold Hid shtO; rw [hb, hs]; rfl
    go_enter Try.func66, Try.ntmps66
    go_wp2_with fail
    rw [HA.out]
    go_wp2_with (first | (go_at_call 128; refine (steep_any _ _ _ _ _ _ _ _ hcw hl hcap hk1 hk2).mono ?_; intro e w1 hg; obtain ⟨hb0, rfl, hhb, E1⟩ := GivesFE.yes hst hg; clear hg; (have c0 := E1.cell c0); (have c1 := E1.cell c1); (have c2 := E1.cell c2)) | (go_at_call 129; refine (nonNegG_any _ _ _ hy hs _).mono ?_; rintro _ _ ⟨rfl, m2, rfl⟩))
    go_ret3
    exact givesFFE_none h.out (E0.trans (E1.drewN _))
  | true =>
    have hO : Hid (shtO n (cl ls) (canon .f32 sp) (canon .f32 de) k y = (echG n (cl ls) (canon .f32 sp) k (shtS n (cl ls) (canon .f32 sp) k y 30).1).map (fun x => ((shtS n (cl ls) (canon .f32 sp) k y 30).1, x.1))) := by unfold Hid shtO; rw [hb, hs]; show (if (true && (true && finK .f32 (stpG (cl ls) k))) then _ else _) = _; rw [show finK .f32 (stpG (cl ls) k) = true from hf]; rfl
    have HN := Lib.hid (fun j => shtS_nn (y := y) hgr hkn j)
    have HE := Lib.hid (fun p hp => echRO_eq (p := p) hb hp)
    have HF := Lib.hid (fun p x hp => ech_fin (p := p) (x := x) hgr hkn hp)
    go_enter Try.func66, Try.ntmps66
    go_wp2_with fail
    rw [HA.out]
    go_wp2_with (first | (go_at_call 128; refine (steep_any _ _ _ _ _ _ _ _ hcw hl hcap hk1 hk2).mono ?_; intro e w1 hg; obtain ⟨hb0, rfl, hhb, E1⟩ := GivesFE.yes hst hg; clear hg; (have c0 := E1.cell c0); (have c1 := E1.cell c1); (have c2 := E1.cell c2)) | (go_at_call 129; refine (nonNegG_any _ _ _ hy hs _).mono ?_; rintro _ _ ⟨rfl, m2, rfl⟩))
    have hcw1 := hcw.ext E1
    clear hcw
    have hcw := hcw1
    clear hcw1
    clear hb hs hf hgr hst
    go_loopw [9, 11, 31] (fun hi lo i wr => ∃ (j lb hb : Nat), j ≤ 30 ∧ i = .int .i64 j ∧ lo = .float .f32 lb ∧ hi = .float .f32 hb ∧ Is .f32 lb (shtS n (cl ls) (canon .f32 sp) k y j).1 ∧ Is .f32 hb (shtS n (cl ls) (canon .f32 sp) k y j).2 ∧ Ext w1 wr) (fun _ _ i _ => 30 - (intOf i).toNat)
    case atStart => exact ⟨0, 0, hb0, Nat.zero_le _, rfl, rfl, rfl, is_self, hhb, (by repeat (first | exact Ext.refl _ | apply Ext.drewN))⟩
    case round =>
      clear hhb
      obtain ⟨j, lb, hb, hj, rfl, rfl, rfl, hlo, hhi, hE⟩ := hrel
      have d0 := hE.cell c0
      have d1 := hE.cell c1
      have d2 := hE.cell c2
      by_cases hlt : j < 30
      · have e1 : (j : Int) < 30 := by omega
        have hnn := HN.out j
        have hEp := HE.out (midG (shtS n (cl ls) (canon .f32 sp) k y j)) (mid_nn hnn.1 hnn.2)
        clear hnn
        cases he0 : echG n (cl ls) (canon .f32 sp) k (midG (shtS n (cl ls) (canon .f32 sp) k y j)) with
        | none =>
          have he := hEp.trans he0
          have HS := Lib.hid (shtS_none he0)
          clear hEp he0
          go_wp2_with (first | (go_at_call 64; refine (implEch_any _ _ _ _ _ _ _ _ _ _ (by first | exact hcw.ext hE | exact hcw.ext (hE.drewN _)) hl hcap hk1 hk2 hp).mono ?_; intro e w3 hg; obtain ⟨r, q, rfl, hr1, hr2, E3⟩ := GivesFFE.no he hg; clear hg) | (refine wl_bin rfl rfl rfl rfl rfl hlo hhi ?_; intro rs n1 hrs) | (refine wl_bin rfl rfl rfl rfl rfl hrs is_self ?_; intro pb n2 hp; clear hrs; (rw [half_same] at hp); (replace hp : Is .f32 pb (midG (shtS n (cl ls) (canon .f32 sp) k y j)) := hp)))
          go_roundw
          case rel => exact ⟨j + 1, _, _, by omega, by go_num, rfl, rfl, by rw [HS.out]; exact hlo, by rw [HS.out]; exact hp, hE.trans (Ext.trans (by repeat (first | exact Ext.refl _ | apply Ext.drewN)) E3)⟩
          case measure => simp [intOf]; omega
        | some x =>
          have he := hEp.trans he0
          cases hq : fcmp .gtr .f32 x.2 y with
          | true =>
            have HS := Lib.hid (shtS_gt he0 hq)
            clear hEp he0
            go_wp2_with (first | (go_at_call 64; refine (implEch_any _ _ _ _ _ _ _ _ _ _ (by first | exact hcw.ext hE | exact hcw.ext (hE.drewN _)) hl hcap hk1 hk2 hp).mono ?_; intro e w3 hg; obtain ⟨r, q, rfl, hr1, hr2, E3⟩ := GivesFFE.yes he hg; clear hg) | (refine wl_bin rfl rfl rfl rfl rfl hlo hhi ?_; intro rs n1 hrs) | (refine wl_bin rfl rfl rfl rfl rfl hrs is_self ?_; intro pb n2 hp; clear hrs; (rw [half_same] at hp); (replace hp : Is .f32 pb (midG (shtS n (cl ls) (canon .f32 sp) k y j)) := hp)) | (refine wl_cmp rfl rfl rfl rfl rfl hr2 hy hq ?_))
            go_roundw
            case rel => exact ⟨j + 1, _, _, by omega, by go_num, rfl, rfl, by rw [HS.out]; exact hlo, by rw [HS.out]; exact hp, hE.trans (Ext.trans (by repeat (first | exact Ext.refl _ | apply Ext.drewN)) E3)⟩
            case measure => simp [intOf]; omega
          | false =>
            have HS := Lib.hid (shtS_le he0 hq)
            clear hEp he0
            go_wp2_with (first | (go_at_call 64; refine (implEch_any _ _ _ _ _ _ _ _ _ _ (by first | exact hcw.ext hE | exact hcw.ext (hE.drewN _)) hl hcap hk1 hk2 hp).mono ?_; intro e w3 hg; obtain ⟨r, q, rfl, hr1, hr2, E3⟩ := GivesFFE.yes he hg; clear hg) | (refine wl_bin rfl rfl rfl rfl rfl hlo hhi ?_; intro rs n1 hrs) | (refine wl_bin rfl rfl rfl rfl rfl hrs is_self ?_; intro pb n2 hp; clear hrs; (rw [half_same] at hp); (replace hp : Is .f32 pb (midG (shtS n (cl ls) (canon .f32 sp) k y j)) := hp)) | (refine wl_cmp rfl rfl rfl rfl rfl hr2 hy hq ?_))
            go_roundw
            case rel => exact ⟨j + 1, _, _, by omega, by go_num, rfl, rfl, by rw [HS.out]; exact hp, by rw [HS.out]; exact hhi, hE.trans (Ext.trans (by repeat (first | exact Ext.refl _ | apply Ext.drewN)) E3)⟩
            case measure => simp [intOf]; omega
      · obtain rfl : j = 30 := by omega
        have hp := hlo
        have hnn := HN.out 30
        have hEp := HE.out (shtS n (cl ls) (canon .f32 sp) k y 30).1 hnn.1
        cases he0 : echG n (cl ls) (canon .f32 sp) k (shtS n (cl ls) (canon .f32 sp) k y 30).1 with
        | none =>
          have he := hEp.trans he0
          have h : Hid (shtO n (cl ls) (canon .f32 sp) (canon .f32 de) k y = fin2B false (shtS n (cl ls) (canon .f32 sp) k y 30).1 0) := by unfold Hid; rw [hO.out, he0]; rfl
          clear hEp he0 hnn
          go_wp2_with (first | (go_at_call 64; refine (implEch_any _ _ _ _ _ _ _ _ _ _ (by first | exact hcw.ext hE | exact hcw.ext (hE.drewN _)) hl hcap hk1 hk2 hp).mono ?_; intro e w3 hg; obtain ⟨r, q, rfl, hr1, hr2, E3⟩ := GivesFFE.no he hg; clear hg) | (go_at_call 125; refine (finTwoG_any _ _ _ _ _ hlo hr1 _).mono ?_; rintro _ w4 ⟨r4, q4, rfl, hr4, hq4, E4⟩))
          go_ret3
          exact ⟨r4, q4, by rw [h.out]; rfl, by rw [h.out]; exact hr4, by rw [h.out]; exact hq4, E0.trans (E1.trans (hE.trans (E3.trans E4)))⟩
        | some x =>
          have he := hEp.trans he0
          have hff := HF.out _ x hnn.1 he0
          have h : Hid (shtO n (cl ls) (canon .f32 sp) (canon .f32 de) k y = fin2B true (shtS n (cl ls) (canon .f32 sp) k y 30).1 x.1) := by
            unfold Hid; rw [hO.out, he0]
            show some _ = fin2 (some _)
            unfold fin2
            simp only [hff.1, hff.2]; rfl
          clear hEp he0 hnn hff
          go_wp2_with (first | (go_at_call 64; refine (implEch_any _ _ _ _ _ _ _ _ _ _ (by first | exact hcw.ext hE | exact hcw.ext (hE.drewN _)) hl hcap hk1 hk2 hp).mono ?_; intro e w3 hg; obtain ⟨r, q, rfl, hr1, hr2, E3⟩ := GivesFFE.yes he hg; clear hg) | (go_at_call 125; refine (finTwoG_any _ _ _ _ _ hlo hr1 _).mono ?_; rintro _ w4 ⟨r4, q4, rfl, hr4, hq4, E4⟩))
          go_ret3
          exact ⟨r4, q4, by rw [h.out]; rfl, by rw [h.out]; exact hr4, by rw [h.out]; exact hq4, E0.trans (E1.trans (hE.trans (E3.trans E4)))⟩
end Go.Proofs.Ytnjgcacnfobmiaa
