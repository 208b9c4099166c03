/- ShiftsOf: both sides. -/
import Derived.Test.YtnjgcacnfobmiaaFGat
import Derived.Test.YtnjgcacnfobmiaaInt
import Derived.Test.YtnjgcacnfobmiaaShift
import Derived.Test.YtnjgcacnfobmiaaFirst2
namespace Go.Proofs.Ytnjgcacnfobmiaa
open Go.RowKit
set_option maxRecDepth 100000
set_option linter.unusedVariables false

def shfB (t : Int) (ps : List Nat) (rs : List (List Nat)) (n : Nat) (m : Int) : Bool := gOk t ps rs && (decide ((n : Int) = t) && inB m 0 64)
def shfL (rs : List (List Nat)) (xs : List Nat) (m : Int) : Nat → List Int
  | 0 => []
  | i + 1 => shfL rs xs m i ++ [shfS xs (row rs i) m]
theorem shfL_len (rs : List (List Nat)) (xs : List Nat) (m : Int) (n : Nat) : (shfL rs xs m n).length = n := by
  induction n with
  | zero => rfl
  | succ n ih => simp [shfL, ih]
def shiftsO (t : Int) (ps : List Nat) (rs : List (List Nat)) (xs : List Nat) (m : Int) : Option (List Int) := if shfB t ps rs xs.length m then some (shfL rs xs m rs.length) else none
theorem shiftsO_len (t : Int) (ps : List Nat) (rs : List (List Nat)) (xs : List Nat) (m : Int) : ((shiftsO t ps rs xs m).getD []).length ≤ 1048576 := by
  unfold shiftsO
  cases h : shfB t ps rs xs.length m with
  | false => exact Nat.zero_le _
  | true =>
    unfold shfB gOk plB at h
    simp only [Bool.and_eq_true, decide_eq_true_eq] at h
    have h1 := inB_yes h.1.1.1.2.1
    have h2 := h.1.1.2
    show (shfL rs xs m rs.length).length ≤ 1048576
    rw [shfL_len]
    omega
set_option maxHeartbeats 8000000 in
theorem implShf_any (t : Int) (pa : Option Addr) (pc : Nat) (ps : List Nat) (ra : Option Addr) (rc : Nat) (rs : List (List Nat)) (ao : Option Addr) (cap : Nat) (xs : List Nat) (m : Int) (w : World) (hp : FR w pa ps) (hr : RS w ra rs) (hl : ps.length + (rs.length + tot rs) ≤ 1048576) (hc : FR w ao xs) (hlx : xs.length ≤ 1048576) (b1 : -9223372036854775808 ≤ m) (b2 : m ≤ 9223372036854775807) : Calls Try.prog 49 #[.agg #[.int .i64 t, .slice pa ps.length pc, .slice ra rs.length rc], .slice ao xs.length cap, .int .i64 m] w (GivesIO (shiftsO t (cl ps) (cls rs) (cl xs) m) w) := by
  generalize hA : w.alloc (.cells #[.int .i64 t, .slice pa ps.length pc, .slice ra rs.length rc] 25) = w0
  have E0 : Ext w w0 := by rw [← hA]; exact (Ext.refl w).alloc _
  have c0 : w0.cell? ⟨w.heap.size, 0, none⟩ = some (.int .i64 t) := by rw [← hA]; exact boxed (Ext.refl _) rfl
  have c1 : w0.cell? ⟨w.heap.size, 1, none⟩ = some (.slice pa ps.length pc) := by rw [← hA]; exact boxed (Ext.refl _) rfl
  have c2 : w0.cell? ⟨w.heap.size, 2, none⟩ = some (.slice ra rs.length rc) := by rw [← hA]; exact boxed (Ext.refl _) rfl
  have hpw := hp.ext E0
  have hrw := hr.ext E0
  have hcw := hc.ext E0
  have HA := Lib.hid hA
  clear hA
  cases hg : gOk t (cl ps) (cls rs) with
  | false =>
    have h : Hid (shiftsO t (cl ps) (cls rs) (cl xs) m = none) := by unfold Hid shiftsO shfB; rw [hg]; rfl
    go_enter Try.func49, Try.ntmps49
    go_wp2_with fail
    rw [HA.out]
    refine wp_region_first2 (fun k v => (k = 5 → v = .int .i64 (xs.length : Int)) ∧ (k = 12 → v = .bool false)) (by kernel_rfl) (by kernel_rfl) (by kernel_rfl) (by kernel_rfl) (by kernel_rfl) (by kernel_rfl) rfl (v0 := .agg #[.int .i64 t, .slice pa ps.length pc, .slice ra rs.length rc]) (fun n => by go_simp; try rfl) rfl (f := 106) (args := #[.agg #[.int .i64 t, .slice pa ps.length pc, .slice ra rs.length rc]]) (fun n => by go_simp; try rfl) (fun n => ?_)
    refine (implValid_any _ _ _ _ _ _ _ _ _ (hpw.drewN n) (hrw.ext ((Ext.refl _).drewN n)) hl hg).mono ?_
    rintro _ w1 ⟨rfl, E1⟩
    refine ⟨_, rfl, ?_⟩
    have E1' : Ext w0 w1 := E1.of_drewN
    have d0 := E1'.cell c0
    have d1 := E1'.cell c1
    have d2 := E1'.cell c2
    clear c0 c1 c2
    go_simp
    (refine lw_not rfl rfl rfl rfl ?_; go_simp)
    (refine lw_move rfl rfl rfl rfl ?_; go_simp)
    (refine lw_skip rfl ?_; go_simp)
    (refine lw_skip rfl ?_; go_simp)
    (refine lw_skip rfl ?_; go_simp)
    (refine lw_skip rfl ?_; go_simp)
    (refine lw_skip rfl ?_; go_simp)
    (refine lw_valD rfl rfl (fun nn => by go_simp; rfl) ?_; go_simp)
    (refine lw_move rfl rfl rfl rfl ?_; go_simp)
    (refine lw_skip rfl ?_; go_simp)
    (refine lw_skip rfl ?_; go_simp)
    (refine lw_skip rfl ?_; go_simp)
    (refine lw_valD rfl rfl (fun nn => by go_simp; rfl) ?_; go_simp)
    (refine lw_nil ?_; intro nq)
    go_wp2
    go_ret2
    exact givesIO_none h.out (E0.trans (E1'.drewN _))
  | true =>
    obtain ⟨ht, hpl, hlen, hrow⟩ := gOk_parts hg
    have HR := Lib.hid hrow
    have HL := Lib.hid hlen
    clear hrow hlen
    by_cases hne : (xs.length : Int) = t
    · subst hne
      cases hm : inB m 0 64 with
      | false =>
        have h : Hid (shiftsO (xs.length : Int) (cl ps) (cls rs) (cl xs) m = none) := by unfold Hid shiftsO shfB; rw [hg, hm]; simp
        go_enter Try.func49, Try.ntmps49
        go_wp2_with fail
        rw [HA.out]
        refine wp_region_first2 (fun k v => (k = 5 → v = .int .i64 (xs.length : Int)) ∧ (k = 12 → v = .bool false)) (by kernel_rfl) (by kernel_rfl) (by kernel_rfl) (by kernel_rfl) (by kernel_rfl) (by kernel_rfl) rfl (v0 := .agg #[.int .i64 (xs.length : Int), .slice pa ps.length pc, .slice ra rs.length rc]) (fun n => by go_simp; try rfl) rfl (f := 106) (args := #[.agg #[.int .i64 (xs.length : Int), .slice pa ps.length pc, .slice ra rs.length rc]]) (fun n => by go_simp; try rfl) (fun n => ?_)
        refine (implValid_any _ _ _ _ _ _ _ _ _ (hpw.drewN n) (hrw.ext ((Ext.refl _).drewN n)) hl hg).mono ?_
        rintro _ w1 ⟨rfl, E1⟩
        refine ⟨_, rfl, ?_⟩
        have E1' : Ext w0 w1 := E1.of_drewN
        have d0 := E1'.cell c0
        have d1 := E1'.cell c1
        have d2 := E1'.cell c2
        clear c0 c1 c2
        go_simp
        (refine lw_not rfl rfl rfl rfl ?_; go_simp)
        (refine lw_move rfl rfl rfl rfl ?_; go_simp)
        (refine lw_move rfl rfl rfl rfl ?_; go_simp)
        refine lw_call (args := #[.slice ao xs.length cap]) rfl rfl (fun w' hw' => by go_simp; try rfl) (fun w' hw' => (length32_any _ _ _ w').mono fun e w'' ⟨h1, h2⟩ => ⟨_, h1, ⟨fun _ => rfl, fun h => absurd h (by decide)⟩, 0, h2.symm⟩) ?_
        rintro vL ⟨hvL, _⟩
        obtain rfl := hvL rfl
        go_simp
        (refine lw_valD rfl rfl (fun nn => by go_simp; rfl) ?_; go_simp)
        (refine lw_valD rfl rfl (fun nn => by go_simp; rfl) ?_; go_simp)
        (refine lw_valD rfl rfl (v := .bool false) (fun nn => by go_simp; try simp) ?_; go_simp)
        (refine lw_valD rfl rfl (fun nn => by go_simp; rfl) ?_; go_simp)
        (refine lw_move rfl rfl rfl rfl ?_; go_simp)
        (refine lw_move rfl rfl rfl rfl ?_; go_simp)
        refine lw_call (args := #[.int .i64 m, .int .i64 0, .int .i64 64]) rfl rfl (fun w' hw' => by go_simp; try rfl) (fun w' hw' => (within_any _ _ _ _ hm w').mono fun e w'' ⟨h1, h2⟩ => ⟨_, h1, ⟨fun h => absurd h (by decide), fun _ => rfl⟩, 0, h2.symm⟩) ?_
        rintro vM ⟨_, hvM⟩
        obtain rfl := hvM rfl
        go_simp
        (refine lw_not rfl rfl rfl rfl ?_; go_simp)
        (refine lw_valD rfl rfl (fun nn => by go_simp; rfl) ?_; go_simp)
        (refine lw_nil ?_; intro nq)
        go_wp2
        go_ret2
        exact givesIO_none h.out (E0.trans (E1'.drewN _))
      | true =>
        obtain ⟨mm, rfl⟩ : ∃ mm : Nat, m = (mm : Int) := ⟨m.toNat, by have := inB_yes hm; omega⟩
        have hmm : mm ≤ 64 := by have := inB_yes hm; omega
        have hx64 : xs.length ≤ 64 := by omega
        have h : Hid (shiftsO (xs.length : Int) (cl ps) (cls rs) (cl xs) (mm : Int) = some (shfL (cls rs) (cl xs) (mm : Int) rs.length)) := by unfold Hid shiftsO shfB; rw [cl_length, hg, hm, cls_len]; simp
        obtain ⟨i1, hi1, hz1, hs1, hb8⟩ := info_parts info64
        go_enter Try.func49, Try.ntmps49
        go_wp2_with fail
        rw [HA.out]
        refine wp_region_first2 (fun k v => (k = 5 → v = .int .i64 (xs.length : Int)) ∧ (k = 12 → v = .bool true)) (by kernel_rfl) (by kernel_rfl) (by kernel_rfl) (by kernel_rfl) (by kernel_rfl) (by kernel_rfl) rfl (v0 := .agg #[.int .i64 (xs.length : Int), .slice pa ps.length pc, .slice ra rs.length rc]) (fun n => by go_simp; try rfl) rfl (f := 106) (args := #[.agg #[.int .i64 (xs.length : Int), .slice pa ps.length pc, .slice ra rs.length rc]]) (fun n => by go_simp; try rfl) (fun n => ?_)
        refine (implValid_any _ _ _ _ _ _ _ _ _ (hpw.drewN n) (hrw.ext ((Ext.refl _).drewN n)) hl hg).mono ?_
        rintro _ w1 ⟨rfl, E1⟩
        refine ⟨_, rfl, ?_⟩
        have E1' : Ext w0 w1 := E1.of_drewN
        have d0 := E1'.cell c0
        have d1 := E1'.cell c1
        have d2 := E1'.cell c2
        clear c0 c1 c2
        go_simp
        (refine lw_not rfl rfl rfl rfl ?_; go_simp)
        (refine lw_move rfl rfl rfl rfl ?_; go_simp)
        (refine lw_move rfl rfl rfl rfl ?_; go_simp)
        refine lw_call (args := #[.slice ao xs.length cap]) rfl rfl (fun w' hw' => by go_simp; try rfl) (fun w' hw' => (length32_any _ _ _ w').mono fun e w'' ⟨h1, h2⟩ => ⟨_, h1, ⟨fun _ => rfl, fun h => absurd h (by decide)⟩, 0, h2.symm⟩) ?_
        rintro vL ⟨hvL, _⟩
        obtain rfl := hvL rfl
        go_simp
        (refine lw_valD rfl rfl (fun nn => by go_simp; rfl) ?_; go_simp)
        (refine lw_valD rfl rfl (fun nn => by go_simp; rfl) ?_; go_simp)
        (refine lw_valD rfl rfl (v := .bool false) (fun nn => by go_simp; try simp) ?_; go_simp)
        (refine lw_valD rfl rfl (fun nn => by go_simp; rfl) ?_; go_simp)
        (refine lw_move rfl rfl rfl rfl ?_; go_simp)
        (refine lw_move rfl rfl rfl rfl ?_; go_simp)
        refine lw_call (args := #[.int .i64 (mm : Int), .int .i64 0, .int .i64 64]) rfl rfl (fun w' hw' => by go_simp; try rfl) (fun w' hw' => (within_any _ _ _ _ hm w').mono fun e w'' ⟨h1, h2⟩ => ⟨_, h1, ⟨fun h => absurd h (by decide), fun _ => rfl⟩, 0, h2.symm⟩) ?_
        rintro vM ⟨_, hvM⟩
        obtain rfl := hvM rfl
        go_simp
        (refine lw_not rfl rfl rfl rfl ?_; go_simp)
        (refine lw_valD rfl rfl (fun nn => by go_simp; rfl) ?_; go_simp)
        (refine lw_nil ?_; intro nq)
        clear hm hg
        have hxw := hcw.ext E1'
        have hrw1 := hrw.ext E1'
        go_wp2
        go_loopw [8, 32] (fun v i wr => ∃ (k : Nat) (vs : List Int), k ≤ rs.length ∧ i = .int .i64 k ∧ OwnI wr w1.heap.size v vs ∧ Hid (vs = shfL (cls rs) (cl xs) (mm : Int) k) ∧ Ext w1 wr) (fun _ i _ => rs.length - (intOf i).toNat)
        case atStart => exact ⟨0, [], Nat.zero_le _, rfl, OwnV.nil _ _, rfl, (by repeat (first | exact Ext.refl _ | apply Ext.drewN))⟩
        case round =>
          obtain ⟨k, vs, hk, rfl, hO, hvs, hE⟩ := hrel
          by_cases hlt : k < rs.length
          · have hrk : (row rs k).length ≤ 64 := by have := HR.out k hlt; omega
            obtain ⟨b, off, rb, rd, rfl, hcell, hf⟩ := hrw1.ext hE k hlt
            have hvl : vs.length ≤ 1048576 := by rw [hvs.out, shfL_len]; omega
            go_wp2_with fail
            go_at_call 109; refine (shiftBetween_any _ _ _ _ _ _ _ _ (hxw.ext hE) hf hx64 hrk hmm).mono ?_; rintro _ w2 ⟨v1, v2, d, rfl, hd, E2⟩
            have hO2 := hO.ext E2
            have hE2 := hE.trans E2
            rw [← cls_row] at hd
            clear hO hcell hf
            go_wp2_with (at_builtin; refine wl_append1V (f := Value.int .i64) (t := 2) (ts := 60) (z := 0) intCells w1 rfl Try.underlying60 hi1 hz1 hs1 hb8 (by decide) (by decide) rfl rfl rfl (by first | exact hO2.alloc _ | exact (hO2.drewN _).alloc _) (by first | exact hE2.alloc _ | exact (hE2.drewN _).alloc _) (by omega) (by first | exact cell_new _ _ _ | exact cell_newD _ _ _ _) ?_; intro v5 w5 hO5 hE5)
            go_roundw
            case rel => exact ⟨k + 1, _, by omega, by go_num, hO5, by unfold Hid; rw [hvs.out, hd.out]; rfl, hE5⟩
            case measure => simp [intOf]; omega
          · obtain rfl : k = rs.length := by omega
            go_wp2
            go_ret2
            exact givesIO_some h.out (E0.trans (E1'.trans hE)) (by rw [← hvs.out]; exact hO.mono (E0.trans E1').size)
    · have h : Hid (shiftsO t (cl ps) (cls rs) (cl xs) m = none) := by unfold Hid shiftsO shfB; rw [hg, cl_length, decide_eq_false hne]; simp
      go_enter Try.func49, Try.ntmps49
      go_wp2_with fail
      rw [HA.out]
      refine wp_region_first2 (fun k v => (k = 5 → v = .int .i64 (xs.length : Int)) ∧ (k = 12 → v = .bool false)) (by kernel_rfl) (by kernel_rfl) (by kernel_rfl) (by kernel_rfl) (by kernel_rfl) (by kernel_rfl) rfl (v0 := .agg #[.int .i64 t, .slice pa ps.length pc, .slice ra rs.length rc]) (fun n => by go_simp; try rfl) rfl (f := 106) (args := #[.agg #[.int .i64 t, .slice pa ps.length pc, .slice ra rs.length rc]]) (fun n => by go_simp; try rfl) (fun n => ?_)
      refine (implValid_any _ _ _ _ _ _ _ _ _ (hpw.drewN n) (hrw.ext ((Ext.refl _).drewN n)) hl hg).mono ?_
      rintro _ w1 ⟨rfl, E1⟩
      refine ⟨_, rfl, ?_⟩
      have E1' : Ext w0 w1 := E1.of_drewN
      have d0 := E1'.cell c0
      have d1 := E1'.cell c1
      have d2 := E1'.cell c2
      clear c0 c1 c2
      go_simp
      (refine lw_not rfl rfl rfl rfl ?_; go_simp)
      (refine lw_move rfl rfl rfl rfl ?_; go_simp)
      (refine lw_move rfl rfl rfl rfl ?_; go_simp)
      refine lw_call (args := #[.slice ao xs.length cap]) rfl rfl (fun w' hw' => by go_simp; try rfl) (fun w' hw' => (length32_any _ _ _ w').mono fun e w'' ⟨h1, h2⟩ => ⟨_, h1, ⟨fun _ => rfl, fun h => absurd h (by decide)⟩, 0, h2.symm⟩) ?_
      rintro vL ⟨hvL, _⟩
      obtain rfl := hvL rfl
      go_simp
      (refine lw_valD rfl rfl (fun nn => by go_simp; rfl) ?_; go_simp)
      (refine lw_valD rfl rfl (fun nn => by go_simp; rfl) ?_; go_simp)
      (refine lw_valD rfl rfl (v := .bool true) (fun nn => by go_simp; try simp [hne]) ?_; go_simp)
      (refine lw_valD rfl rfl (fun nn => by go_simp; rfl) ?_; go_simp)
      (refine lw_move rfl rfl rfl rfl ?_; go_simp)
      (refine lw_skip rfl ?_; go_simp)
      (refine lw_skip rfl ?_; go_simp)
      (refine lw_skip rfl ?_; go_simp)
      (refine lw_valD rfl rfl (fun nn => by go_simp; rfl) ?_; go_simp)
      (refine lw_nil ?_; intro nq)
      go_wp2
      go_ret2
      exact givesIO_none h.out (E0.trans (E1'.drewN _))
set_option maxHeartbeats 8000000 in
theorem specShf_any (t : Int) (pa : Option Addr) (pc : Nat) (ps : List Nat) (ra : Option Addr) (rc : Nat) (rs : List (List Nat)) (ao : Option Addr) (cap : Nat) (xs : List Nat) (m : Int) (w : World) (hp : FR w pa ps) (hr : RS w ra rs) (hl : ps.length + (rs.length + tot rs) ≤ 1048576) (hc : FR w ao xs) (hlx : xs.length ≤ 1048576) (b1 : -9223372036854775808 ≤ m) (b2 : m ≤ 9223372036854775807) : Calls Try.prog 48 #[.agg #[.int .i64 t, .slice pa ps.length pc, .slice ra rs.length rc], .slice ao xs.length cap, .int .i64 m] w (GivesIO (shiftsO t (cl ps) (cls rs) (cl xs) m) w) := by
  generalize hA : w.alloc (.cells #[.int .i64 t, .slice pa ps.length pc, .slice ra rs.length rc] 25) = w0
  have E0 : Ext w w0 := by rw [← hA]; exact (Ext.refl w).alloc _
  have c0 : w0.cell? ⟨w.heap.size, 0, none⟩ = some (.int .i64 t) := by rw [← hA]; exact boxed (Ext.refl _) rfl
  have c1 : w0.cell? ⟨w.heap.size, 1, none⟩ = some (.slice pa ps.length pc) := by rw [← hA]; exact boxed (Ext.refl _) rfl
  have c2 : w0.cell? ⟨w.heap.size, 2, none⟩ = some (.slice ra rs.length rc) := by rw [← hA]; exact boxed (Ext.refl _) rfl
  have hpw := hp.ext E0
  have hrw := hr.ext E0
  have hcw := hc.ext E0
  have HA := Lib.hid hA
  clear hA
  cases hg : gOk t (cl ps) (cls rs) with
  | false =>
    have h : Hid (shiftsO t (cl ps) (cls rs) (cl xs) m = none) := by unfold Hid shiftsO shfB; rw [hg]; rfl
    go_enter Try.func48, Try.ntmps48
    go_wp2_with fail
    rw [HA.out]
    go_at_call 103; refine (l04Is_any _ _ _ _ _ _ _ _ _ _ c0 c1 c2 hpw hrw hl hg).mono ?_; rintro _ _ ⟨rfl, n1, rfl⟩
    go_wp2
    go_ret2
    exact givesIO_none h.out (E0.drewN _)
  | true =>
    obtain ⟨ht, hpl, hlen, hrow⟩ := gOk_parts hg
    have HR := Lib.hid hrow
    have HL := Lib.hid hlen
    clear hrow hlen
    by_cases hne : (xs.length : Int) = t
    · subst hne
      cases hm : inB m 0 64 with
      | false =>
        have h : Hid (shiftsO (xs.length : Int) (cl ps) (cls rs) (cl xs) m = none) := by unfold Hid shiftsO shfB; rw [hg, hm]; simp
        go_enter Try.func48, Try.ntmps48
        go_wp2_with fail
        rw [HA.out]
        go_at_call 103; refine (l04Is_any _ _ _ _ _ _ _ _ _ _ c0 c1 c2 hpw hrw hl hg).mono ?_; rintro _ _ ⟨rfl, n1, rfl⟩
        clear hg
        go_wp2_with (first | (go_at_call 77; refine (within_any _ _ _ _ (by first | assumption | rfl) _).mono ?_; rintro _ _ ⟨rfl, rfl⟩) | (go_at_call 90; refine (l00In_any _ _ _ _ (by first | assumption | rfl) _).mono ?_; rintro _ _ ⟨rfl, rfl⟩) | (go_at_call 96; refine (isCount_any _ _ (by first | assumption | rfl) _).mono ?_; rintro _ _ ⟨rfl, rfl⟩) | (go_at_call 88; refine (isTrace_any _ _ _ _ (by first | assumption | rfl) _).mono ?_; rintro _ _ ⟨rfl, rfl⟩) | (go_at_call 85; refine (l03Is_any _ _ _ _ (by first | assumption | rfl) (by omega) _).mono ?_; rintro _ _ ⟨rfl, rfl⟩) | (go_at_call 78; refine (length32_any _ _ _ _).mono ?_; rintro _ _ ⟨rfl, rfl⟩) | (go_at_call 148; refine (isFinite64_any _ _ _ (by assumption) (by first | assumption | rfl) _).mono ?_; rintro _ _ ⟨rfl, n, rfl⟩) | (go_at_call 99; refine (isFinite_any _ _ _ (by first | assumption | exact is_ofInt _ _ | exact is_self) (by first | assumption | rfl) _).mono ?_; rintro _ _ ⟨rfl, n, rfl⟩) | (go_at_call 97; refine (l01Finite_any _ _ _ (by first | assumption | exact is_ofInt _ _ | exact is_self) (by first | assumption | rfl) _).mono ?_; rintro _ _ ⟨rfl, n, rfl⟩))
        go_ret2
        exact givesIO_none h.out (E0.drewN _)
      | true =>
        obtain ⟨mm, rfl⟩ : ∃ mm : Nat, m = (mm : Int) := ⟨m.toNat, by have := inB_yes hm; omega⟩
        have hmm : mm ≤ 64 := by have := inB_yes hm; omega
        have hx64 : xs.length ≤ 64 := by omega
        have h : Hid (shiftsO (xs.length : Int) (cl ps) (cls rs) (cl xs) (mm : Int) = some (shfL (cls rs) (cl xs) (mm : Int) rs.length)) := by unfold Hid shiftsO shfB; rw [cl_length, hg, hm, cls_len]; simp
        obtain ⟨i1, hi1, hz1, hs1, hb8⟩ := info_parts info64
        go_enter Try.func48, Try.ntmps48
        go_wp2_with fail
        rw [HA.out]
        go_at_call 103; refine (l04Is_any _ _ _ _ _ _ _ _ _ _ c0 c1 c2 hpw hrw hl hg).mono ?_; rintro _ _ ⟨rfl, n1, rfl⟩
        clear hg
        go_wp2_with (first | (go_at_call 77; refine (within_any _ _ _ _ (by first | assumption | rfl) _).mono ?_; rintro _ _ ⟨rfl, rfl⟩) | (go_at_call 90; refine (l00In_any _ _ _ _ (by first | assumption | rfl) _).mono ?_; rintro _ _ ⟨rfl, rfl⟩) | (go_at_call 96; refine (isCount_any _ _ (by first | assumption | rfl) _).mono ?_; rintro _ _ ⟨rfl, rfl⟩) | (go_at_call 88; refine (isTrace_any _ _ _ _ (by first | assumption | rfl) _).mono ?_; rintro _ _ ⟨rfl, rfl⟩) | (go_at_call 85; refine (l03Is_any _ _ _ _ (by first | assumption | rfl) (by omega) _).mono ?_; rintro _ _ ⟨rfl, rfl⟩) | (go_at_call 78; refine (length32_any _ _ _ _).mono ?_; rintro _ _ ⟨rfl, rfl⟩) | (go_at_call 148; refine (isFinite64_any _ _ _ (by assumption) (by first | assumption | rfl) _).mono ?_; rintro _ _ ⟨rfl, n, rfl⟩) | (go_at_call 99; refine (isFinite_any _ _ _ (by first | assumption | exact is_ofInt _ _ | exact is_self) (by first | assumption | rfl) _).mono ?_; rintro _ _ ⟨rfl, n, rfl⟩) | (go_at_call 97; refine (l01Finite_any _ _ _ (by first | assumption | exact is_ofInt _ _ | exact is_self) (by first | assumption | rfl) _).mono ?_; rintro _ _ ⟨rfl, n, rfl⟩))
        clear hm
        go_loopw [8, 9] (fun v i wr => ∃ (k : Nat) (vs : List Int), k ≤ rs.length ∧ i = .int .i64 k ∧ OwnI wr w0.heap.size v vs ∧ Hid (vs = shfL (cls rs) (cl xs) (mm : Int) k) ∧ Ext w0 wr) (fun _ i _ => rs.length - (intOf i).toNat)
        case atStart => exact ⟨0, [], Nat.zero_le _, rfl, ownV_empty _ _ (by repeat (first | exact Ext.refl _ | apply Ext.drewN)), rfl, (by repeat (first | exact Ext.refl _ | apply Ext.drewN | apply Ext.alloc))⟩
        case round =>
          obtain ⟨k, vs, hk, rfl, hO, hvs, hE⟩ := hrel
          have d2 := hE.cell c2
          by_cases hlt : k < rs.length
          · have hrk : (row rs k).length ≤ 64 := by have := HR.out k hlt; omega
            obtain ⟨b, off, rb, rd, rfl, hcell, hf⟩ := hrw.ext hE k hlt
            have hxw := hcw.ext hE
            have hvl : vs.length ≤ 1048576 := by rw [hvs.out, shfL_len]; omega
            have HL1 : Hid (vs.length = k) := by unfold Hid; rw [hvs.out, shfL_len]
            go_wp2_with (go_at_call 108; refine (l04Match_any _ _ _ _ _ _ _ _ hxw hf hx64 hrk (by omega) (by omega)).mono ?_; rintro _ _ ⟨mb0, n2, rfl, hmb0, rfl⟩)
            have hmb1 : Is .f32 mb0 (curP (cl xs) (cl (row rs k)) (mm : Int) 0) := by unfold curP; rw [cl_length]; simpa using hmb0
            clear hmb0
            rename World => wo
            go_loopw [10, 11, 12] (fun bv vv dv wr => ∃ (j n0 bb : Nat) (q d : Int), j ≤ 2 * mm ∧ dv = .int .i64 d ∧ Hid (d = -(mm : Int) + 1 + (j : Int)) ∧ bv = .int .i64 q ∧ Hid (q = (runP (cl xs) (cl (row rs k)) (mm : Int) j).1) ∧ vv = .float .f32 bb ∧ Is .f32 bb (runP (cl xs) (cl (row rs k)) (mm : Int) j).2 ∧ wr = wo.drewN n0) (fun _ _ dv _ => ((mm : Int) + 1 - intOf dv).toNat)
            case atStart => exact ⟨0, _, _, _, _, Nat.zero_le _, rfl, by unfold Hid; simp, rfl, rfl, rfl, hmb1, rfl⟩
            case round =>
              obtain ⟨j, n0, bb, q, d, hj, rfl, hd, rfl, hq, rfl, hbb, rfl⟩ := hrel
              have hd0 : -(mm : Int) + 1 ≤ d ∧ d ≤ (mm : Int) + 1 := by rw [hd.out]; omega
              by_cases hle : d ≤ (mm : Int)
              · have hcur : curP (cl xs) (cl (row rs k)) (mm : Int) (j + 1) = matP (cl xs) (cl (row rs k)) d xs.length := by unfold curP; rw [cl_length, hd.out]; congr 1; push_cast; omega
                have HN : Hid (runP (cl xs) (cl (row rs k)) (mm : Int) (j + 1) = if shB (matP (cl xs) (cl (row rs k)) d xs.length) (runP (cl xs) (cl (row rs k)) (mm : Int) j).2 then (d, matP (cl xs) (cl (row rs k)) d xs.length) else runP (cl xs) (cl (row rs k)) (mm : Int) j) := by
                  unfold Hid
                  rw [← hcur, hd.out]
                  show (if shB _ _ then (-(mm : Int) + ((j + 1 : Nat) : Int), _) else _) = _
                  rw [show -(mm : Int) + ((j + 1 : Nat) : Int) = -(mm : Int) + 1 + (j : Int) by omega]
                generalize hX : matP (cl xs) (cl (row rs k)) d xs.length = X at HN
                generalize hV : runP (cl xs) (cl (row rs k)) (mm : Int) j = V at HN hbb hq
                have HX := Lib.hid hX
                have HV := Lib.hid hV
                clear hX hV hcur
                have fin : ∀ B : Bool, shB X V.2 = B → Hid (runP (cl xs) (cl (row rs k)) (mm : Int) (j + 1) = if B then (d, X) else V) := fun B hB => by unfold Hid; rw [HN.out, hB]
                have FIN := Lib.hid fin
                clear fin HN
                cases hg1 : fcmp .gtr .f32 X V.2 with
                | true =>
                  have hN := FIN.out true (by unfold shB; rw [hg1]; rfl)
                  go_wp2_with (first | (go_at_call 108; refine (l04Match_any _ _ _ _ _ _ _ _ (hxw.drewN n0) (hf.drewN n0) hx64 hrk (by omega) (by omega)).mono ?_; rintro _ _ ⟨mb, n2, rfl, hmb, rfl⟩; (rw [HX.out] at hmb)) | (refine wl_cmp rfl rfl rfl rfl rfl hmb hbb hg1 ?_) | (refine wl_cmp rfl rfl rfl rfl rfl hmb hmb hg2 ?_) | (refine wl_cmp rfl rfl rfl rfl rfl hbb hbb hg3 ?_))
                  go_roundw
                  case rel => exact ⟨j + 1, _, _, _, _, by have := hd.out; omega, by go_num, by unfold Hid; rw [hd.out]; omega, rfl, by unfold Hid; rw [hN.out]; rfl, rfl, by rw [hN.out]; exact hmb, rfl⟩
                  case measure => simp [intOf]; omega
                | false =>
                  cases hg2 : fcmp .eql .f32 X X with
                  | false =>
                    have hN := FIN.out false (by unfold shB; rw [hg1, hg2]; rfl)
                    go_wp2_with (first | (go_at_call 108; refine (l04Match_any _ _ _ _ _ _ _ _ (hxw.drewN n0) (hf.drewN n0) hx64 hrk (by omega) (by omega)).mono ?_; rintro _ _ ⟨mb, n2, rfl, hmb, rfl⟩; (rw [HX.out] at hmb)) | (refine wl_cmp rfl rfl rfl rfl rfl hmb hbb hg1 ?_) | (refine wl_cmp rfl rfl rfl rfl rfl hmb hmb hg2 ?_) | (refine wl_cmp rfl rfl rfl rfl rfl hbb hbb hg3 ?_))
                    go_roundw
                    case rel => exact ⟨j + 1, _, _, _, _, by have := hd.out; omega, by go_num, by unfold Hid; rw [hd.out]; omega, rfl, by unfold Hid; rw [hN.out]; exact hq.out, rfl, by rw [hN.out]; exact hbb, rfl⟩
                    case measure => simp [intOf]; omega
                  | true =>
                    cases hg3 : fcmp .neq .f32 V.2 V.2 with
                    | false =>
                      have hN := FIN.out false (by unfold shB; rw [hg1, hg2, hg3]; rfl)
                      go_wp2_with (first | (go_at_call 108; refine (l04Match_any _ _ _ _ _ _ _ _ (hxw.drewN n0) (hf.drewN n0) hx64 hrk (by omega) (by omega)).mono ?_; rintro _ _ ⟨mb, n2, rfl, hmb, rfl⟩; (rw [HX.out] at hmb)) | (refine wl_cmp rfl rfl rfl rfl rfl hmb hbb hg1 ?_) | (refine wl_cmp rfl rfl rfl rfl rfl hmb hmb hg2 ?_) | (refine wl_cmp rfl rfl rfl rfl rfl hbb hbb hg3 ?_))
                      go_roundw
                      case rel => exact ⟨j + 1, _, _, _, _, by have := hd.out; omega, by go_num, by unfold Hid; rw [hd.out]; omega, rfl, by unfold Hid; rw [hN.out]; exact hq.out, rfl, by rw [hN.out]; exact hbb, rfl⟩
                      case measure => simp [intOf]; omega
                    | true =>
                      have hN := FIN.out true (by unfold shB; rw [hg1, hg2, hg3]; rfl)
                      go_wp2_with (first | (go_at_call 108; refine (l04Match_any _ _ _ _ _ _ _ _ (hxw.drewN n0) (hf.drewN n0) hx64 hrk (by omega) (by omega)).mono ?_; rintro _ _ ⟨mb, n2, rfl, hmb, rfl⟩; (rw [HX.out] at hmb)) | (refine wl_cmp rfl rfl rfl rfl rfl hmb hbb hg1 ?_) | (refine wl_cmp rfl rfl rfl rfl rfl hmb hmb hg2 ?_) | (refine wl_cmp rfl rfl rfl rfl rfl hbb hbb hg3 ?_))
                      go_roundw
                      case rel => exact ⟨j + 1, _, _, _, _, by have := hd.out; omega, by go_num, by unfold Hid; rw [hd.out]; omega, rfl, by unfold Hid; rw [hN.out]; rfl, rfl, by rw [hN.out]; exact hmb, rfl⟩
                      case measure => simp [intOf]; omega
              · have hjm : j = 2 * mm := by have := hd.out; omega
                have hqs : Hid (q = shfS (cl xs) (row (cls rs) k) (mm : Int)) := by unfold Hid shfS; rw [cls_row, show (2 * (mm : Int)).toNat = 2 * mm by omega, ← hjm]; exact hq.out
                go_wp2_with (at_builtin; refine wl_append1V (f := Value.int .i64) (t := 2) (ts := 60) (z := 0) intCells w0 rfl Try.underlying60 hi1 hz1 hs1 hb8 (by decide) (by decide) rfl rfl rfl (by exact (hO.drewN _).alloc _) (by exact (hE.drewN _).alloc _) (by omega) (by first | exact cell_new _ _ _ | exact cell_newD _ _ _ _) ?_; intro v5 w5 hO5 hE5)
                go_roundw
                case rel => exact ⟨k + 1, _, by omega, by go_num, hO5, by unfold Hid; rw [hvs.out, hqs.out]; rfl, hE5⟩
                case measure => simp [intOf]; omega
          · obtain rfl : k = rs.length := by omega
            go_wp2
            go_ret2
            exact givesIO_some h.out (E0.trans hE) (by rw [← hvs.out]; exact hO.mono E0.size)
    · have h : Hid (shiftsO t (cl ps) (cls rs) (cl xs) m = none) := by unfold Hid shiftsO shfB; rw [hg, cl_length, decide_eq_false hne]; simp
      go_enter Try.func48, Try.ntmps48
      go_wp2_with fail
      rw [HA.out]
      go_at_call 103; refine (l04Is_any _ _ _ _ _ _ _ _ _ _ c0 c1 c2 hpw hrw hl hg).mono ?_; rintro _ _ ⟨rfl, n1, rfl⟩
      clear hg
      go_wp2_with (first | (go_at_call 77; refine (within_any _ _ _ _ (by first | assumption | rfl) _).mono ?_; rintro _ _ ⟨rfl, rfl⟩) | (go_at_call 90; refine (l00In_any _ _ _ _ (by first | assumption | rfl) _).mono ?_; rintro _ _ ⟨rfl, rfl⟩) | (go_at_call 96; refine (isCount_any _ _ (by first | assumption | rfl) _).mono ?_; rintro _ _ ⟨rfl, rfl⟩) | (go_at_call 88; refine (isTrace_any _ _ _ _ (by first | assumption | rfl) _).mono ?_; rintro _ _ ⟨rfl, rfl⟩) | (go_at_call 85; refine (l03Is_any _ _ _ _ (by first | assumption | rfl) (by omega) _).mono ?_; rintro _ _ ⟨rfl, rfl⟩) | (go_at_call 78; refine (length32_any _ _ _ _).mono ?_; rintro _ _ ⟨rfl, rfl⟩) | (go_at_call 148; refine (isFinite64_any _ _ _ (by assumption) (by first | assumption | rfl) _).mono ?_; rintro _ _ ⟨rfl, n, rfl⟩) | (go_at_call 99; refine (isFinite_any _ _ _ (by first | assumption | exact is_ofInt _ _ | exact is_self) (by first | assumption | rfl) _).mono ?_; rintro _ _ ⟨rfl, n, rfl⟩) | (go_at_call 97; refine (l01Finite_any _ _ _ (by first | assumption | exact is_ofInt _ _ | exact is_self) (by first | assumption | rfl) _).mono ?_; rintro _ _ ⟨rfl, n, rfl⟩))
      go_ret2
      exact givesIO_none h.out (E0.drewN _)
end Go.Proofs.Ytnjgcacnfobmiaa
