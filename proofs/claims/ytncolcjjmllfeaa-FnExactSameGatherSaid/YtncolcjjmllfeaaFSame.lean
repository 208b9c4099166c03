/- SameGather: the reference's and the program's. -/
import Derived.Test.YtncolcjjmllfeaaSame
import Derived.Test.YtncolcjjmllfeaaFGat
namespace Go.Proofs.Ytncolcjjmllfeaa
open Go.RowKit
set_option maxRecDepth 100000
set_option linter.unusedVariables false

def bndR (rs : List (List Nat)) : Prop := ∀ i, i < rs.length → bnd (row rs i)
theorem cls_ext {rs qs : List (List Nat)} {n : Nat} (h1 : rs.length = n) (h2 : qs.length = n) (h : ∀ i, i < n → cl (row rs i) = cl (row qs i)) : cls rs = cls qs := by
  apply List.ext_getElem
  · rw [cls_len, cls_len, h1, h2]
  · intro i hi hj
    have hi' : i < rs.length := by rw [cls_len] at hi; exact hi
    have hj' : i < qs.length := by rw [cls_len] at hj; exact hj
    have h3 := h i (by omega)
    rw [row_eq hi', row_eq hj'] at h3
    simpa [cls] using h3
theorem lenR_ne {xs zs : List (List Nat)} (h : ¬ xs.length = zs.length) : decide (cls xs = cls zs) = false := decide_eq_false fun e => h (by rw [← cls_len xs, e, cls_len])
def sameB (t u : Int) (ps qs : List Nat) (rs ss : List (List Nat)) : Bool := decide (t = u) && (decide (cl ps = cl qs) && decide (cls rs = cls ss))
set_option maxHeartbeats 2000000 in
theorem equalRows_any (ao bo : Option Addr) (ca cb n : Nat) (xs zs : List (List Nat)) (v : Bool) (w : World) (hn1 : xs.length = n) (hn2 : zs.length = n) (hx : RS w ao xs) (hz : RS w bo zs) (hbx : bndR xs) (hbz : bndR zs) (hl1 : n + tot xs ≤ 1048576) (hl2 : n + tot zs ≤ 1048576) (hv : decide (cls xs = cls zs) = v) :
    Calls Try.prog 117 #[.slice ao n ca, .slice bo n cb, .func (.func 116) #[] #[]] w (Gives (.bool v) w) := by
  have HV := Lib.hid hv
  have H1 := Lib.hid hn1
  have H2 := Lib.hid hn2
  clear hv hn1 hn2
  have eg : ∀ (args : Array Value) (w : World), (callFunc 116 args).run Try.prog w = .ok (.enter 116 args) w := enters_at Try.func116 (by kernel_rfl) rfl
  go_enter Try.func117, Try.ntmps117
  go_wp2
  go_loopw [17] (fun i wr => ∃ k m : Nat, k ≤ n ∧ i = .int .i64 k ∧ Hid (∀ i, i < k → cl (row xs i) = cl (row zs i)) ∧ wr = w.drewN m) (fun i _ => n - (intOf i).toNat)
  case atStart => exact ⟨0, 0, Nat.zero_le _, rfl, fun i hi => absurd hi (by omega), rfl⟩
  case round =>
    obtain ⟨k, m, hk, rfl, hall, rfl⟩ := hrel
    by_cases hlt : k < n
    · have hltx : k < xs.length := by rw [H1.out]; exact hlt
      have hltz : k < zs.length := by rw [H2.out]; exact hlt
      obtain ⟨b, off, ra, rc, rfl, hcell, hfx⟩ := hx k hltx
      obtain ⟨b', off', ra', rc', rfl, hcell', hfz⟩ := hz k hltz
      have hbxk := hbx k hltx
      have hbzk := hbz k hltz
      have hlx : (row xs k).length ≤ 1048576 := by have := row_tot xs k hltx; omega
      have hlz : (row zs k).length ≤ 1048576 := by have := row_tot zs k hltz; omega
      clear hbx hbz hx hz
      cases hq : decide (cl (row xs k) = cl (row zs k)) with
      | true =>
        have HN : Hid (∀ i, i < k + 1 → cl (row xs i) = cl (row zs i)) := fun i hi => by
          by_cases h : i < k
          · exact hall.out i h
          · obtain rfl : i = k := by omega
            exact of_decide_eq_true hq
        go_wp2_with (go_at_call 116; refine (sameList_any _ _ _ _ _ _ _ _ (FR.drewN hfx _) (FR.drewN hfz _) hbxk hbzk hlx hlz hq).mono ?_; rintro _ _ ⟨rfl, n1, rfl⟩)
        go_roundw
        case rel => exact ⟨k + 1, _, by omega, by go_num, HN, by first | rfl | exact drewN_drewN' _ _ _⟩
        case measure => simp [intOf]; omega
      | false =>
        have HF : Hid (v = false) := by
          unfold Hid
          rw [← HV.out]
          exact decide_eq_false fun e => of_decide_eq_false hq ((cls_rows e).2 k)
        go_wp2_with (go_at_call 116; refine (sameList_any _ _ _ _ _ _ _ _ (FR.drewN hfx _) (FR.drewN hfz _) hbxk hbzk hlx hlz hq).mono ?_; rintro _ _ ⟨rfl, n1, rfl⟩)
        go_ret
        exact ⟨by rw [HF.out]; rfl, _, by first | rfl | exact drewN_drewN' _ _ _⟩
    · obtain rfl : n = k := by omega
      have HT : Hid (v = true) := by unfold Hid; rw [← HV.out]; exact decide_eq_true (cls_ext H1.out H2.out hall.out)
      go_wp2
      go_ret
      exact ⟨by rw [HT.out]; rfl, _, rfl⟩
theorem equalRowsA_any (ao bo : Option Addr) (ca cb : Nat) (xs zs : List (List Nat)) (v : Bool) (w : World) (hx : RS w ao xs) (hz : RS w bo zs) (hbx : bndR xs) (hbz : bndR zs) (hl1 : xs.length + tot xs ≤ 1048576) (hl2 : zs.length + tot zs ≤ 1048576) (hv : decide (cls xs = cls zs) = v) :
    Calls Try.prog 117 #[.slice ao xs.length ca, .slice bo zs.length cb, .func (.func 116) #[] #[]] w (Gives (.bool v) w) := by
  by_cases hlen : xs.length = zs.length
  · rw [hlen]
    exact equalRows_any ao bo ca cb zs.length xs zs v w hlen rfl hx hz hbx hbz (by omega) hl2 hv
  · have h : Hid (v = false) := by unfold Hid; rw [← hv, lenR_ne hlen]
    have hne : ¬ (xs.length : Int) = (zs.length : Int) := by omega
    clear hv hlen
    go_enter Try.func117, Try.ntmps117
    go_wp2
    go_ret
    exact ⟨by rw [h.out]; rfl, 0, rfl⟩
set_option maxHeartbeats 4000000 in
theorem implSame_any (t : Int) (pa : Option Addr) (pc : Nat) (ps : List Nat) (ra : Option Addr) (rc : Nat) (rs : List (List Nat)) (u : Int) (qa : Option Addr) (qc : Nat) (qs : List Nat) (sa : Option Addr) (sc : Nat) (ss : List (List Nat)) (w : World) (hp : FR w pa ps) (hr : RS w ra rs) (hl : ps.length + (rs.length + tot rs) ≤ 1048576) (hp' : FR w qa qs) (hr' : RS w sa ss) (hl' : qs.length + (ss.length + tot ss) ≤ 1048576) (hbp : bnd ps) (hbr : bndR rs) (hbq : bnd qs) (hbs : bndR ss) : Calls Try.prog 44 #[.agg #[.int .i64 t, .slice pa ps.length pc, .slice ra rs.length rc], .agg #[.int .i64 u, .slice qa qs.length qc, .slice sa ss.length sc]] w (GivesE (.bool (sameB t u ps qs rs ss)) w) := by
  generalize hA : (w.alloc (.cells #[.int .i64 t, .slice pa ps.length pc, .slice ra rs.length rc] 47)).alloc (.cells #[.int .i64 u, .slice qa qs.length qc, .slice sa ss.length sc] 47) = w0
  have E0 : Ext w w0 := by rw [← hA]; exact ((Ext.refl w).alloc _).alloc _
  have B0 : Cells w0 w.heap.size #[.int .i64 t, .slice pa ps.length pc, .slice ra rs.length rc] 47 := by rw [← hA]; exact (Cells.new w _ _).alloc _
  have B1 : Cells w0 (w.heap.size + 1) #[.int .i64 u, .slice qa qs.length qc, .slice sa ss.length sc] 47 := by rw [← hA]; exact Cells.new1 w _ _ _
  have c0 : w0.cell? ⟨w.heap.size, 0, none⟩ = some (.int .i64 t) := B0.at 0
  have c1 : w0.cell? ⟨w.heap.size, 1, none⟩ = some (.slice pa ps.length pc) := B0.at 1
  have c2 : w0.cell? ⟨w.heap.size, 2, none⟩ = some (.slice ra rs.length rc) := B0.at 2
  have d0 : w0.cell? ⟨w.heap.size + 1, 0, none⟩ = some (.int .i64 u) := B1.at 0
  have d1 : w0.cell? ⟨w.heap.size + 1, 1, none⟩ = some (.slice qa qs.length qc) := B1.at 1
  have d2 : w0.cell? ⟨w.heap.size + 1, 2, none⟩ = some (.slice sa ss.length sc) := B1.at 2
  have hpw := hp.ext E0
  have hrw := hr.ext E0
  have hqw := hp'.ext E0
  have hsw := hr'.ext E0
  have HA := Lib.hid hA
  clear hA B0 B1
  by_cases htu : t = u
  case neg =>
    have h : Hid (sameB t u ps qs rs ss = false) := by unfold Hid sameB; rw [decide_eq_false htu]; rfl
    go_enter Try.func44, Try.ntmps44
    go_wp2_with fail
    rw [HA.out]
    go_wp2_with (first | (go_at_call 93; refine (within_any _ _ _ _ (by first | assumption | rfl) _).mono ?_; rintro _ _ ⟨rfl, rfl⟩) | (go_at_call 90; refine (l00In_any _ _ _ _ (by first | assumption | rfl) _).mono ?_; rintro _ _ ⟨rfl, rfl⟩) | (go_at_call 101; refine (isCount_any _ _ (by first | assumption | rfl) _).mono ?_; rintro _ _ ⟨rfl, rfl⟩) | (go_at_call 88; refine (isTrace_any _ _ _ _ (by first | assumption | rfl) _).mono ?_; rintro _ _ ⟨rfl, rfl⟩) | (go_at_call 85; refine (l03Is_any _ _ _ _ (by first | assumption | rfl) (by omega) _).mono ?_; rintro _ _ ⟨rfl, rfl⟩) | (go_at_call 94; refine (length32_any _ _ _ _).mono ?_; rintro _ _ ⟨rfl, rfl⟩) | (go_at_call 160; refine (isFinite64_any _ _ _ (by assumption) (by first | assumption | rfl) _).mono ?_; rintro _ _ ⟨rfl, n, rfl⟩) | (go_at_call 111; refine (isFinite_any _ _ _ (by first | assumption | exact is_ofInt _ _ | exact is_self) (by first | assumption | rfl) _).mono ?_; rintro _ _ ⟨rfl, n, rfl⟩) | (go_at_call 107; refine (l01Finite_any _ _ _ (by first | assumption | exact is_ofInt _ _ | exact is_self) (by first | assumption | rfl) _).mono ?_; rintro _ _ ⟨rfl, n, rfl⟩))
    go_ret
    exact ⟨by rw [h.out]; rfl, (by repeat (first | assumption | exact Ext.refl _ | apply Ext.drewN | apply Ext.alloc | (refine Ext.setCell ?_ (by first | assumption | exact Nat.le_refl _) _)))⟩
  subst htu
  cases hP : decide (cl ps = cl qs) with
  | false =>
    have h : Hid (sameB t t ps qs rs ss = false) := by unfold Hid sameB; rw [hP]; simp
    go_enter Try.func44, Try.ntmps44
    go_wp2_with fail
    rw [HA.out]
    go_wp2_with (first | (go_at_call 116; refine (sameList_any _ _ _ _ _ _ _ _ (hpw.ext (by repeat (first | assumption | exact Ext.refl _ | apply Ext.drewN | apply Ext.alloc | (refine Ext.setCell ?_ (by first | assumption | exact Nat.le_refl _) _)))) (hqw.ext (by repeat (first | assumption | exact Ext.refl _ | apply Ext.drewN | apply Ext.alloc | (refine Ext.setCell ?_ (by first | assumption | exact Nat.le_refl _) _)))) hbp hbq (by omega) (by omega) hP).mono ?_; rintro _ _ ⟨rfl, n1, rfl⟩) | (go_at_call 93; refine (within_any _ _ _ _ (by first | assumption | rfl) _).mono ?_; rintro _ _ ⟨rfl, rfl⟩) | (go_at_call 90; refine (l00In_any _ _ _ _ (by first | assumption | rfl) _).mono ?_; rintro _ _ ⟨rfl, rfl⟩) | (go_at_call 101; refine (isCount_any _ _ (by first | assumption | rfl) _).mono ?_; rintro _ _ ⟨rfl, rfl⟩) | (go_at_call 88; refine (isTrace_any _ _ _ _ (by first | assumption | rfl) _).mono ?_; rintro _ _ ⟨rfl, rfl⟩) | (go_at_call 85; refine (l03Is_any _ _ _ _ (by first | assumption | rfl) (by omega) _).mono ?_; rintro _ _ ⟨rfl, rfl⟩) | (go_at_call 94; refine (length32_any _ _ _ _).mono ?_; rintro _ _ ⟨rfl, rfl⟩) | (go_at_call 160; refine (isFinite64_any _ _ _ (by assumption) (by first | assumption | rfl) _).mono ?_; rintro _ _ ⟨rfl, n, rfl⟩) | (go_at_call 111; refine (isFinite_any _ _ _ (by first | assumption | exact is_ofInt _ _ | exact is_self) (by first | assumption | rfl) _).mono ?_; rintro _ _ ⟨rfl, n, rfl⟩) | (go_at_call 107; refine (l01Finite_any _ _ _ (by first | assumption | exact is_ofInt _ _ | exact is_self) (by first | assumption | rfl) _).mono ?_; rintro _ _ ⟨rfl, n, rfl⟩))
    go_ret
    exact ⟨by rw [h.out]; rfl, (by repeat (first | assumption | exact Ext.refl _ | apply Ext.drewN | apply Ext.alloc | (refine Ext.setCell ?_ (by first | assumption | exact Nat.le_refl _) _)))⟩
  | true =>
    cases hR : decide (cls rs = cls ss) with
    | false =>
      have h : Hid (sameB t t ps qs rs ss = false) := by unfold Hid sameB; rw [hP, hR]; simp
      go_enter Try.func44, Try.ntmps44
      go_wp2_with fail
      rw [HA.out]
      go_wp2_with (first | (go_at_call 116; refine (sameList_any _ _ _ _ _ _ _ _ (hpw.ext (by repeat (first | assumption | exact Ext.refl _ | apply Ext.drewN | apply Ext.alloc | (refine Ext.setCell ?_ (by first | assumption | exact Nat.le_refl _) _)))) (hqw.ext (by repeat (first | assumption | exact Ext.refl _ | apply Ext.drewN | apply Ext.alloc | (refine Ext.setCell ?_ (by first | assumption | exact Nat.le_refl _) _)))) hbp hbq (by omega) (by omega) hP).mono ?_; rintro _ _ ⟨rfl, n1, rfl⟩) | (go_at_call 117; refine (equalRowsA_any _ _ _ _ _ _ _ _ (hrw.ext (by repeat (first | assumption | exact Ext.refl _ | apply Ext.drewN | apply Ext.alloc | (refine Ext.setCell ?_ (by first | assumption | exact Nat.le_refl _) _)))) (hsw.ext (by repeat (first | assumption | exact Ext.refl _ | apply Ext.drewN | apply Ext.alloc | (refine Ext.setCell ?_ (by first | assumption | exact Nat.le_refl _) _)))) hbr hbs (by omega) (by omega) hR).mono ?_; rintro _ _ ⟨rfl, n2, rfl⟩) | (go_at_call 93; refine (within_any _ _ _ _ (by first | assumption | rfl) _).mono ?_; rintro _ _ ⟨rfl, rfl⟩) | (go_at_call 90; refine (l00In_any _ _ _ _ (by first | assumption | rfl) _).mono ?_; rintro _ _ ⟨rfl, rfl⟩) | (go_at_call 101; refine (isCount_any _ _ (by first | assumption | rfl) _).mono ?_; rintro _ _ ⟨rfl, rfl⟩) | (go_at_call 88; refine (isTrace_any _ _ _ _ (by first | assumption | rfl) _).mono ?_; rintro _ _ ⟨rfl, rfl⟩) | (go_at_call 85; refine (l03Is_any _ _ _ _ (by first | assumption | rfl) (by omega) _).mono ?_; rintro _ _ ⟨rfl, rfl⟩) | (go_at_call 94; refine (length32_any _ _ _ _).mono ?_; rintro _ _ ⟨rfl, rfl⟩) | (go_at_call 160; refine (isFinite64_any _ _ _ (by assumption) (by first | assumption | rfl) _).mono ?_; rintro _ _ ⟨rfl, n, rfl⟩) | (go_at_call 111; refine (isFinite_any _ _ _ (by first | assumption | exact is_ofInt _ _ | exact is_self) (by first | assumption | rfl) _).mono ?_; rintro _ _ ⟨rfl, n, rfl⟩) | (go_at_call 107; refine (l01Finite_any _ _ _ (by first | assumption | exact is_ofInt _ _ | exact is_self) (by first | assumption | rfl) _).mono ?_; rintro _ _ ⟨rfl, n, rfl⟩))
      go_ret
      exact ⟨by rw [h.out]; rfl, (by repeat (first | assumption | exact Ext.refl _ | apply Ext.drewN | apply Ext.alloc | (refine Ext.setCell ?_ (by first | assumption | exact Nat.le_refl _) _)))⟩
    | true =>
      have h : Hid (sameB t t ps qs rs ss = true) := by unfold Hid sameB; rw [hP, hR]; simp
      go_enter Try.func44, Try.ntmps44
      go_wp2_with fail
      rw [HA.out]
      go_wp2_with (first | (go_at_call 116; refine (sameList_any _ _ _ _ _ _ _ _ (hpw.ext (by repeat (first | assumption | exact Ext.refl _ | apply Ext.drewN | apply Ext.alloc | (refine Ext.setCell ?_ (by first | assumption | exact Nat.le_refl _) _)))) (hqw.ext (by repeat (first | assumption | exact Ext.refl _ | apply Ext.drewN | apply Ext.alloc | (refine Ext.setCell ?_ (by first | assumption | exact Nat.le_refl _) _)))) hbp hbq (by omega) (by omega) hP).mono ?_; rintro _ _ ⟨rfl, n1, rfl⟩) | (go_at_call 117; refine (equalRowsA_any _ _ _ _ _ _ _ _ (hrw.ext (by repeat (first | assumption | exact Ext.refl _ | apply Ext.drewN | apply Ext.alloc | (refine Ext.setCell ?_ (by first | assumption | exact Nat.le_refl _) _)))) (hsw.ext (by repeat (first | assumption | exact Ext.refl _ | apply Ext.drewN | apply Ext.alloc | (refine Ext.setCell ?_ (by first | assumption | exact Nat.le_refl _) _)))) hbr hbs (by omega) (by omega) hR).mono ?_; rintro _ _ ⟨rfl, n2, rfl⟩) | (go_at_call 93; refine (within_any _ _ _ _ (by first | assumption | rfl) _).mono ?_; rintro _ _ ⟨rfl, rfl⟩) | (go_at_call 90; refine (l00In_any _ _ _ _ (by first | assumption | rfl) _).mono ?_; rintro _ _ ⟨rfl, rfl⟩) | (go_at_call 101; refine (isCount_any _ _ (by first | assumption | rfl) _).mono ?_; rintro _ _ ⟨rfl, rfl⟩) | (go_at_call 88; refine (isTrace_any _ _ _ _ (by first | assumption | rfl) _).mono ?_; rintro _ _ ⟨rfl, rfl⟩) | (go_at_call 85; refine (l03Is_any _ _ _ _ (by first | assumption | rfl) (by omega) _).mono ?_; rintro _ _ ⟨rfl, rfl⟩) | (go_at_call 94; refine (length32_any _ _ _ _).mono ?_; rintro _ _ ⟨rfl, rfl⟩) | (go_at_call 160; refine (isFinite64_any _ _ _ (by assumption) (by first | assumption | rfl) _).mono ?_; rintro _ _ ⟨rfl, n, rfl⟩) | (go_at_call 111; refine (isFinite_any _ _ _ (by first | assumption | exact is_ofInt _ _ | exact is_self) (by first | assumption | rfl) _).mono ?_; rintro _ _ ⟨rfl, n, rfl⟩) | (go_at_call 107; refine (l01Finite_any _ _ _ (by first | assumption | exact is_ofInt _ _ | exact is_self) (by first | assumption | rfl) _).mono ?_; rintro _ _ ⟨rfl, n, rfl⟩))
      go_ret
      exact ⟨by rw [h.out]; rfl, (by repeat (first | assumption | exact Ext.refl _ | apply Ext.drewN | apply Ext.alloc | (refine Ext.setCell ?_ (by first | assumption | exact Nat.le_refl _) _)))⟩
set_option maxHeartbeats 4000000 in
theorem specSame_any (t : Int) (pa : Option Addr) (pc : Nat) (ps : List Nat) (ra : Option Addr) (rc : Nat) (rs : List (List Nat)) (u : Int) (qa : Option Addr) (qc : Nat) (qs : List Nat) (sa : Option Addr) (sc : Nat) (ss : List (List Nat)) (w : World) (hp : FR w pa ps) (hr : RS w ra rs) (hl : ps.length + (rs.length + tot rs) ≤ 1048576) (hp' : FR w qa qs) (hr' : RS w sa ss) (hl' : qs.length + (ss.length + tot ss) ≤ 1048576) (hbp : bnd ps) (hbr : bndR rs) (hbq : bnd qs) (hbs : bndR ss) : Calls Try.prog 42 #[.agg #[.int .i64 t, .slice pa ps.length pc, .slice ra rs.length rc], .agg #[.int .i64 u, .slice qa qs.length qc, .slice sa ss.length sc]] w (GivesE (.bool (sameB t u ps qs rs ss)) w) := by
  generalize hA : (w.alloc (.cells #[.int .i64 t, .slice pa ps.length pc, .slice ra rs.length rc] 47)).alloc (.cells #[.int .i64 u, .slice qa qs.length qc, .slice sa ss.length sc] 47) = w0
  have E0 : Ext w w0 := by rw [← hA]; exact ((Ext.refl w).alloc _).alloc _
  have B0 : Cells w0 w.heap.size #[.int .i64 t, .slice pa ps.length pc, .slice ra rs.length rc] 47 := by rw [← hA]; exact (Cells.new w _ _).alloc _
  have B1 : Cells w0 (w.heap.size + 1) #[.int .i64 u, .slice qa qs.length qc, .slice sa ss.length sc] 47 := by rw [← hA]; exact Cells.new1 w _ _ _
  have c0 : w0.cell? ⟨w.heap.size, 0, none⟩ = some (.int .i64 t) := B0.at 0
  have c1 : w0.cell? ⟨w.heap.size, 1, none⟩ = some (.slice pa ps.length pc) := B0.at 1
  have c2 : w0.cell? ⟨w.heap.size, 2, none⟩ = some (.slice ra rs.length rc) := B0.at 2
  have d0 : w0.cell? ⟨w.heap.size + 1, 0, none⟩ = some (.int .i64 u) := B1.at 0
  have d1 : w0.cell? ⟨w.heap.size + 1, 1, none⟩ = some (.slice qa qs.length qc) := B1.at 1
  have d2 : w0.cell? ⟨w.heap.size + 1, 2, none⟩ = some (.slice sa ss.length sc) := B1.at 2
  have hpw := hp.ext E0
  have hrw := hr.ext E0
  have hqw := hp'.ext E0
  have hsw := hr'.ext E0
  have HA := Lib.hid hA
  clear hA B0 B1
  by_cases htu : t = u
  case neg =>
    have h : Hid (sameB t u ps qs rs ss = false) := by unfold Hid sameB; rw [decide_eq_false htu]; rfl
    go_enter Try.func42, Try.ntmps42
    go_wp2_with fail
    rw [HA.out]
    go_wp2_with (first | (go_at_call 93; refine (within_any _ _ _ _ (by first | assumption | rfl) _).mono ?_; rintro _ _ ⟨rfl, rfl⟩) | (go_at_call 90; refine (l00In_any _ _ _ _ (by first | assumption | rfl) _).mono ?_; rintro _ _ ⟨rfl, rfl⟩) | (go_at_call 101; refine (isCount_any _ _ (by first | assumption | rfl) _).mono ?_; rintro _ _ ⟨rfl, rfl⟩) | (go_at_call 88; refine (isTrace_any _ _ _ _ (by first | assumption | rfl) _).mono ?_; rintro _ _ ⟨rfl, rfl⟩) | (go_at_call 85; refine (l03Is_any _ _ _ _ (by first | assumption | rfl) (by omega) _).mono ?_; rintro _ _ ⟨rfl, rfl⟩) | (go_at_call 94; refine (length32_any _ _ _ _).mono ?_; rintro _ _ ⟨rfl, rfl⟩) | (go_at_call 160; refine (isFinite64_any _ _ _ (by assumption) (by first | assumption | rfl) _).mono ?_; rintro _ _ ⟨rfl, n, rfl⟩) | (go_at_call 111; refine (isFinite_any _ _ _ (by first | assumption | exact is_ofInt _ _ | exact is_self) (by first | assumption | rfl) _).mono ?_; rintro _ _ ⟨rfl, n, rfl⟩) | (go_at_call 107; refine (l01Finite_any _ _ _ (by first | assumption | exact is_ofInt _ _ | exact is_self) (by first | assumption | rfl) _).mono ?_; rintro _ _ ⟨rfl, n, rfl⟩))
    go_ret
    exact ⟨by rw [h.out]; rfl, (by repeat (first | assumption | exact Ext.refl _ | apply Ext.drewN | apply Ext.alloc | (refine Ext.setCell ?_ (by first | assumption | exact Nat.le_refl _) _)))⟩
  subst htu
  by_cases hlen : rs.length = ss.length
  case neg =>
    have h : Hid (sameB t t ps qs rs ss = false) := by unfold Hid sameB; rw [lenR_ne hlen]; simp
    have hne : ¬ (rs.length : Int) = (ss.length : Int) := by omega
    clear hlen
    go_enter Try.func42, Try.ntmps42
    go_wp2_with fail
    rw [HA.out]
    go_wp2_with (first | (go_at_call 93; refine (within_any _ _ _ _ (by first | assumption | rfl) _).mono ?_; rintro _ _ ⟨rfl, rfl⟩) | (go_at_call 90; refine (l00In_any _ _ _ _ (by first | assumption | rfl) _).mono ?_; rintro _ _ ⟨rfl, rfl⟩) | (go_at_call 101; refine (isCount_any _ _ (by first | assumption | rfl) _).mono ?_; rintro _ _ ⟨rfl, rfl⟩) | (go_at_call 88; refine (isTrace_any _ _ _ _ (by first | assumption | rfl) _).mono ?_; rintro _ _ ⟨rfl, rfl⟩) | (go_at_call 85; refine (l03Is_any _ _ _ _ (by first | assumption | rfl) (by omega) _).mono ?_; rintro _ _ ⟨rfl, rfl⟩) | (go_at_call 94; refine (length32_any _ _ _ _).mono ?_; rintro _ _ ⟨rfl, rfl⟩) | (go_at_call 160; refine (isFinite64_any _ _ _ (by assumption) (by first | assumption | rfl) _).mono ?_; rintro _ _ ⟨rfl, n, rfl⟩) | (go_at_call 111; refine (isFinite_any _ _ _ (by first | assumption | exact is_ofInt _ _ | exact is_self) (by first | assumption | rfl) _).mono ?_; rintro _ _ ⟨rfl, n, rfl⟩) | (go_at_call 107; refine (l01Finite_any _ _ _ (by first | assumption | exact is_ofInt _ _ | exact is_self) (by first | assumption | rfl) _).mono ?_; rintro _ _ ⟨rfl, n, rfl⟩))
    go_ret
    exact ⟨by rw [h.out]; rfl, (by repeat (first | assumption | exact Ext.refl _ | apply Ext.drewN | apply Ext.alloc | (refine Ext.setCell ?_ (by first | assumption | exact Nat.le_refl _) _)))⟩
  obtain ⟨n, hn⟩ : ∃ n, n = ss.length := ⟨_, rfl⟩
  rw [hlen, ← hn] at c2 HA
  rw [← hn] at d2
  rw [hlen, ← hn] at hl ⊢
  rw [← hn] at hl'
  have H1 := Lib.hid (hlen.trans hn.symm)
  have H2 := Lib.hid hn.symm
  clear hlen hn
  cases hP : decide (cl ps = cl qs) with
  | false =>
    have h : Hid (sameB t t ps qs rs ss = false) := by unfold Hid sameB; rw [hP]; simp
    go_enter Try.func42, Try.ntmps42
    go_wp2_with fail
    rw [HA.out]
    go_wp2_with (first | (go_at_call 114; refine (l01SameAll_any _ _ _ _ _ _ _ _ (hpw.ext (by repeat (first | assumption | exact Ext.refl _ | apply Ext.drewN | apply Ext.alloc | (refine Ext.setCell ?_ (by first | assumption | exact Nat.le_refl _) _)))) (hqw.ext (by repeat (first | assumption | exact Ext.refl _ | apply Ext.drewN | apply Ext.alloc | (refine Ext.setCell ?_ (by first | assumption | exact Nat.le_refl _) _)))) hbp hbq (by omega) (by omega) hP).mono ?_; rintro _ _ ⟨rfl, n1, rfl⟩) | (go_at_call 93; refine (within_any _ _ _ _ (by first | assumption | rfl) _).mono ?_; rintro _ _ ⟨rfl, rfl⟩) | (go_at_call 90; refine (l00In_any _ _ _ _ (by first | assumption | rfl) _).mono ?_; rintro _ _ ⟨rfl, rfl⟩) | (go_at_call 101; refine (isCount_any _ _ (by first | assumption | rfl) _).mono ?_; rintro _ _ ⟨rfl, rfl⟩) | (go_at_call 88; refine (isTrace_any _ _ _ _ (by first | assumption | rfl) _).mono ?_; rintro _ _ ⟨rfl, rfl⟩) | (go_at_call 85; refine (l03Is_any _ _ _ _ (by first | assumption | rfl) (by omega) _).mono ?_; rintro _ _ ⟨rfl, rfl⟩) | (go_at_call 94; refine (length32_any _ _ _ _).mono ?_; rintro _ _ ⟨rfl, rfl⟩) | (go_at_call 160; refine (isFinite64_any _ _ _ (by assumption) (by first | assumption | rfl) _).mono ?_; rintro _ _ ⟨rfl, n, rfl⟩) | (go_at_call 111; refine (isFinite_any _ _ _ (by first | assumption | exact is_ofInt _ _ | exact is_self) (by first | assumption | rfl) _).mono ?_; rintro _ _ ⟨rfl, n, rfl⟩) | (go_at_call 107; refine (l01Finite_any _ _ _ (by first | assumption | exact is_ofInt _ _ | exact is_self) (by first | assumption | rfl) _).mono ?_; rintro _ _ ⟨rfl, n, rfl⟩))
    go_ret
    exact ⟨by rw [h.out]; rfl, (by repeat (first | assumption | exact Ext.refl _ | apply Ext.drewN | apply Ext.alloc | (refine Ext.setCell ?_ (by first | assumption | exact Nat.le_refl _) _)))⟩
  | true =>
    have h : Hid (sameB t t ps qs rs ss = decide (cls rs = cls ss)) := by unfold Hid sameB; rw [hP]; simp
    go_enter Try.func42, Try.ntmps42
    go_wp2_with fail
    rw [HA.out]
    go_wp2_with (first | (go_at_call 114; refine (l01SameAll_any _ _ _ _ _ _ _ _ (hpw.ext (by repeat (first | assumption | exact Ext.refl _ | apply Ext.drewN | apply Ext.alloc | (refine Ext.setCell ?_ (by first | assumption | exact Nat.le_refl _) _)))) (hqw.ext (by repeat (first | assumption | exact Ext.refl _ | apply Ext.drewN | apply Ext.alloc | (refine Ext.setCell ?_ (by first | assumption | exact Nat.le_refl _) _)))) hbp hbq (by omega) (by omega) hP).mono ?_; rintro _ _ ⟨rfl, n1, rfl⟩) | (go_at_call 93; refine (within_any _ _ _ _ (by first | assumption | rfl) _).mono ?_; rintro _ _ ⟨rfl, rfl⟩) | (go_at_call 90; refine (l00In_any _ _ _ _ (by first | assumption | rfl) _).mono ?_; rintro _ _ ⟨rfl, rfl⟩) | (go_at_call 101; refine (isCount_any _ _ (by first | assumption | rfl) _).mono ?_; rintro _ _ ⟨rfl, rfl⟩) | (go_at_call 88; refine (isTrace_any _ _ _ _ (by first | assumption | rfl) _).mono ?_; rintro _ _ ⟨rfl, rfl⟩) | (go_at_call 85; refine (l03Is_any _ _ _ _ (by first | assumption | rfl) (by omega) _).mono ?_; rintro _ _ ⟨rfl, rfl⟩) | (go_at_call 94; refine (length32_any _ _ _ _).mono ?_; rintro _ _ ⟨rfl, rfl⟩) | (go_at_call 160; refine (isFinite64_any _ _ _ (by assumption) (by first | assumption | rfl) _).mono ?_; rintro _ _ ⟨rfl, n, rfl⟩) | (go_at_call 111; refine (isFinite_any _ _ _ (by first | assumption | exact is_ofInt _ _ | exact is_self) (by first | assumption | rfl) _).mono ?_; rintro _ _ ⟨rfl, n, rfl⟩) | (go_at_call 107; refine (l01Finite_any _ _ _ (by first | assumption | exact is_ofInt _ _ | exact is_self) (by first | assumption | rfl) _).mono ?_; rintro _ _ ⟨rfl, n, rfl⟩))
    go_loopw [5] (fun i wr => ∃ k m : Nat, k ≤ n ∧ i = .int .i64 k ∧ Hid (∀ i, i < k → cl (row rs i) = cl (row ss i)) ∧ wr = w0.drewN m) (fun i _ => n - (intOf i).toNat)
    case atStart => exact ⟨0, _, Nat.zero_le _, rfl, fun i hi => absurd hi (by omega), rfl⟩
    case round =>
      obtain ⟨k, m, hk, rfl, hall, rfl⟩ := hrel
      by_cases hlt : k < n
      · have hltx : k < rs.length := by rw [H1.out]; exact hlt
        have hltz : k < ss.length := by rw [H2.out]; exact hlt
        obtain ⟨b, off, xa, xc, rfl, hcell, hfx⟩ := hrw k hltx
        obtain ⟨b', off', xb, xd, rfl, hcell', hfz⟩ := hsw k hltz
        have hbxk := hbr k hltx
        have hbzk := hbs k hltz
        have hlx : (row rs k).length ≤ 1048576 := by have := row_tot rs k hltx; omega
        have hlz : (row ss k).length ≤ 1048576 := by have := row_tot ss k hltz; omega
        go_wp2_with (first | (go_at_call 93; refine (within_any _ _ _ _ (by first | assumption | rfl) _).mono ?_; rintro _ _ ⟨rfl, rfl⟩) | (go_at_call 90; refine (l00In_any _ _ _ _ (by first | assumption | rfl) _).mono ?_; rintro _ _ ⟨rfl, rfl⟩) | (go_at_call 101; refine (isCount_any _ _ (by first | assumption | rfl) _).mono ?_; rintro _ _ ⟨rfl, rfl⟩) | (go_at_call 88; refine (isTrace_any _ _ _ _ (by first | assumption | rfl) _).mono ?_; rintro _ _ ⟨rfl, rfl⟩) | (go_at_call 85; refine (l03Is_any _ _ _ _ (by first | assumption | rfl) (by omega) _).mono ?_; rintro _ _ ⟨rfl, rfl⟩) | (go_at_call 94; refine (length32_any _ _ _ _).mono ?_; rintro _ _ ⟨rfl, rfl⟩) | (go_at_call 160; refine (isFinite64_any _ _ _ (by assumption) (by first | assumption | rfl) _).mono ?_; rintro _ _ ⟨rfl, n, rfl⟩) | (go_at_call 111; refine (isFinite_any _ _ _ (by first | assumption | exact is_ofInt _ _ | exact is_self) (by first | assumption | rfl) _).mono ?_; rintro _ _ ⟨rfl, n, rfl⟩) | (go_at_call 107; refine (l01Finite_any _ _ _ (by first | assumption | exact is_ofInt _ _ | exact is_self) (by first | assumption | rfl) _).mono ?_; rintro _ _ ⟨rfl, n, rfl⟩))
        cases hq : decide (cl (row rs k) = cl (row ss k)) with
        | true =>
          have HN : Hid (∀ i, i < k + 1 → cl (row rs i) = cl (row ss i)) := fun i hi => by
            by_cases h : i < k
            · exact hall.out i h
            · obtain rfl : i = k := by omega
              exact of_decide_eq_true hq
          refine wp_region_lex (fun _ => Drawn w0) (fun _ => false) (fun j u => u = .bool true) (by kernel_rfl) (by kernel_rfl) (by kernel_rfl) (fun _ => drawn_more _) (fun _ => ⟨m, rfl⟩) (fun n0 => ?_)
          (refine lw_valD rfl rfl (fun nn => by go_simp; rfl) ?_; go_simp)
          (refine lw_valD rfl rfl (fun nn => by go_simp; rfl) ?_; go_simp)
          (refine lw_move rfl rfl rfl rfl ?_; go_simp)
          (refine lw_valD rfl rfl (fun nn => by go_simp; rfl) ?_; go_simp)
          (refine lw_valD rfl rfl (fun nn => by go_simp; rfl) ?_; go_simp)
          (refine lw_valD rfl rfl (fun nn => by go_simp; rfl) ?_; go_simp)
          (refine lw_valD rfl rfl (fun nn => by go_simp; rfl) ?_; go_simp)
          (refine lw_move rfl rfl rfl rfl ?_; go_simp)
          (refine lw_valD rfl rfl (fun nn => by go_simp; rfl) ?_; go_simp)
          (refine lw_valD rfl rfl (fun nn => by go_simp; rfl) ?_; go_simp)
          refine lw_call (args := #[.slice xa (row rs k).length xc, .slice xb (row ss k).length xd]) rfl rfl (fun w' hw' => by go_simp; try rfl) (fun w' hw' => (l01SameAll_any _ _ _ _ _ _ _ w' (by obtain ⟨q, rfl⟩ := hw'; exact FR.drewN hfx q) (by obtain ⟨q, rfl⟩ := hw'; exact FR.drewN hfz q) hbxk hbzk hlx hlz hq).mono fun e w'' ⟨h1, n, h2⟩ => ⟨_, h1, rfl, n, h2⟩) ?_
          rintro _ rfl
          go_simp
          (refine lw_not rfl rfl rfl rfl ?_; go_simp)
          (refine lw_nil ?_; intro nq)
          go_wp2
          go_roundw
          case rel => exact ⟨k + 1, _, by omega, by go_num, HN, by first | rfl | exact drewN_drewN' _ _ _⟩
          case measure => simp [intOf]; omega
        | false =>
          have HF : Hid (decide (cls rs = cls ss) = false) := by
            unfold Hid
            exact decide_eq_false fun e => of_decide_eq_false hq ((cls_rows e).2 k)
          refine wp_region_lex (fun _ => Drawn w0) (fun _ => false) (fun j u => u = .bool false) (by kernel_rfl) (by kernel_rfl) (by kernel_rfl) (fun _ => drawn_more _) (fun _ => ⟨m, rfl⟩) (fun n0 => ?_)
          (refine lw_valD rfl rfl (fun nn => by go_simp; rfl) ?_; go_simp)
          (refine lw_valD rfl rfl (fun nn => by go_simp; rfl) ?_; go_simp)
          (refine lw_move rfl rfl rfl rfl ?_; go_simp)
          (refine lw_valD rfl rfl (fun nn => by go_simp; rfl) ?_; go_simp)
          (refine lw_valD rfl rfl (fun nn => by go_simp; rfl) ?_; go_simp)
          (refine lw_valD rfl rfl (fun nn => by go_simp; rfl) ?_; go_simp)
          (refine lw_valD rfl rfl (fun nn => by go_simp; rfl) ?_; go_simp)
          (refine lw_move rfl rfl rfl rfl ?_; go_simp)
          (refine lw_valD rfl rfl (fun nn => by go_simp; rfl) ?_; go_simp)
          (refine lw_valD rfl rfl (fun nn => by go_simp; rfl) ?_; go_simp)
          refine lw_call (args := #[.slice xa (row rs k).length xc, .slice xb (row ss k).length xd]) rfl rfl (fun w' hw' => by go_simp; try rfl) (fun w' hw' => (l01SameAll_any _ _ _ _ _ _ _ w' (by obtain ⟨q, rfl⟩ := hw'; exact FR.drewN hfx q) (by obtain ⟨q, rfl⟩ := hw'; exact FR.drewN hfz q) hbxk hbzk hlx hlz hq).mono fun e w'' ⟨h1, n, h2⟩ => ⟨_, h1, rfl, n, h2⟩) ?_
          rintro _ rfl
          go_simp
          (refine lw_not rfl rfl rfl rfl ?_; go_simp)
          (refine lw_nil ?_; intro nq)
          go_wp2
          go_ret
          exact ⟨by rw [h.out, HF.out]; rfl, (by repeat (first | assumption | exact Ext.refl _ | apply Ext.drewN | apply Ext.alloc | (refine Ext.setCell ?_ (by first | assumption | exact Nat.le_refl _) _)))⟩
      · obtain rfl : n = k := by omega
        have HT : Hid (decide (cls rs = cls ss) = true) := decide_eq_true (cls_ext H1.out H2.out hall.out)
        go_wp2_with (first | (go_at_call 93; refine (within_any _ _ _ _ (by first | assumption | rfl) _).mono ?_; rintro _ _ ⟨rfl, rfl⟩) | (go_at_call 90; refine (l00In_any _ _ _ _ (by first | assumption | rfl) _).mono ?_; rintro _ _ ⟨rfl, rfl⟩) | (go_at_call 101; refine (isCount_any _ _ (by first | assumption | rfl) _).mono ?_; rintro _ _ ⟨rfl, rfl⟩) | (go_at_call 88; refine (isTrace_any _ _ _ _ (by first | assumption | rfl) _).mono ?_; rintro _ _ ⟨rfl, rfl⟩) | (go_at_call 85; refine (l03Is_any _ _ _ _ (by first | assumption | rfl) (by omega) _).mono ?_; rintro _ _ ⟨rfl, rfl⟩) | (go_at_call 94; refine (length32_any _ _ _ _).mono ?_; rintro _ _ ⟨rfl, rfl⟩) | (go_at_call 160; refine (isFinite64_any _ _ _ (by assumption) (by first | assumption | rfl) _).mono ?_; rintro _ _ ⟨rfl, n, rfl⟩) | (go_at_call 111; refine (isFinite_any _ _ _ (by first | assumption | exact is_ofInt _ _ | exact is_self) (by first | assumption | rfl) _).mono ?_; rintro _ _ ⟨rfl, n, rfl⟩) | (go_at_call 107; refine (l01Finite_any _ _ _ (by first | assumption | exact is_ofInt _ _ | exact is_self) (by first | assumption | rfl) _).mono ?_; rintro _ _ ⟨rfl, n, rfl⟩))
        go_ret
        exact ⟨by rw [h.out, HT.out]; rfl, (by repeat (first | assumption | exact Ext.refl _ | apply Ext.drewN | apply Ext.alloc | (refine Ext.setCell ?_ (by first | assumption | exact Nat.le_refl _) _)))⟩
end Go.Proofs.Ytncolcjjmllfeaa
