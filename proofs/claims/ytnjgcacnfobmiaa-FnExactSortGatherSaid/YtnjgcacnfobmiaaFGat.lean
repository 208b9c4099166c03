/- Is it a gather? The reference's and the program's. -/
import Derived.Test.YtnjgcacnfobmiaaGath
import Derived.Test.YtnjgcacnfobmiaaAre
import Derived.Test.YtnjgcacnfobmiaaSamp
import Derived.Test.YtnjgcacnfobmiaaLexw
namespace Go.Proofs.Ytnjgcacnfobmiaa
open Go.RowKit
set_option maxRecDepth 100000
set_option linter.unusedVariables false

def plB (ps : List Nat) : Bool := inB (ps.length : Int) 1 16 && allP (finK .f32) ps ps.length
def lenB (t : Int) (rs : List (List Nat)) (n : Nat) : Bool := (List.range n).all fun i => decide (((row rs i).length : Int) = t)
theorem lenB_succ (t : Int) (rs : List (List Nat)) (n : Nat) : lenB t rs (n + 1) = (lenB t rs n && decide (((row rs n).length : Int) = t)) := by unfold lenB; rw [List.range_succ, List.all_append]; simp
theorem lenB_not {t : Int} {rs : List (List Nat)} {k n : Nat} (hk : k < n) (h : ¬ ((row rs k).length : Int) = t) : lenB t rs n = false := by
  unfold lenB
  rw [List.all_eq_false]
  exact ⟨k, List.mem_range.2 hk, by simp [h]⟩
theorem lenB_at {t : Int} {rs : List (List Nat)} {k n : Nat} (hk : k < n) (h : lenB t rs n = true) : ((row rs k).length : Int) = t := by
  unfold lenB at h
  exact of_decide_eq_true (List.all_eq_true.1 h k (List.mem_range.2 hk))
theorem lenB_cls (t : Int) (rs : List (List Nat)) (n : Nat) : lenB t (cls rs) n = lenB t rs n := by
  unfold lenB
  congr 1
  funext i
  rw [cls_row, cl_length]
def gOk (t : Int) (ps : List Nat) (rs : List (List Nat)) : Bool := inB t 1 64 && plB ps && decide (rs.length = ps.length) && lenB t rs rs.length
theorem gOk_cl (t : Int) (ps : List Nat) (rs : List (List Nat)) : gOk t (cl ps) (cls rs) = (inB t 1 64 && (inB (ps.length : Int) 1 16 && allP (finK .f32) (cl ps) ps.length) && decide (rs.length = ps.length) && lenB t rs rs.length) := by
  unfold gOk plB
  rw [cl_length, cls_len, lenB_cls]
/-- What a gather is good for. -/
theorem gOk_parts {t : Int} {ps : List Nat} {rs : List (List Nat)} (h : gOk t (cl ps) (cls rs) = true) : (1 ≤ t ∧ t ≤ 64) ∧ (1 ≤ ps.length ∧ ps.length ≤ 16) ∧ rs.length = ps.length ∧ ∀ i, i < rs.length → ((row rs i).length : Int) = t := by
  rw [gOk_cl] at h
  simp only [Bool.and_eq_true] at h
  obtain ⟨⟨⟨a, b, _⟩, c⟩, d⟩ := h
  have h1 := inB_yes a
  have h2 := inB_yes b
  exact ⟨h1, by omega, of_decide_eq_true c, fun i hi => lenB_at hi d⟩

set_option maxHeartbeats 2000000 in
theorem l04Places_any (ao : Option Addr) (cap : Nat) (xs : List Nat) (v : Bool) (w : World) (hc : FR w ao xs) (hl : xs.length ≤ 1048576) (hv : (inB (xs.length : Int) 1 16 && allP (finK .f32) (cl xs) xs.length) = v) : Calls Try.prog 76 #[.slice ao xs.length cap] w (Gives (.bool v) w) := by
  have HV := Lib.hid hv
  clear hv
  by_cases h1 : 1 ≤ xs.length
  · by_cases h16 : xs.length ≤ 16
    · have hI : Hid (v = allP (finK .f32) (cl xs) xs.length) := by unfold Hid; rw [← HV.out, inB_mk (by omega) (by omega)]; rfl
      have e1 : ¬ (xs.length : Int) < 1 := by omega
      have e2 : ¬ (16 : Int) < xs.length := by omega
      go_enter Try.func76, Try.ntmps76
      go_wp2
      clear e1 e2
      go_loopw [3] (fun i wr => ∃ k n : Nat, k ≤ xs.length ∧ i = .int .i64 k ∧ Hid (allP (finK .f32) (cl xs) k = true) ∧ wr = w.drewN n) (fun i _ => xs.length - (intOf i).toNat)
      case atStart => exact ⟨0, 0, Nat.zero_le _, rfl, rfl, rfl⟩
      case round =>
        obtain ⟨k, n, hk, rfl, hall, rfl⟩ := hrel
        by_cases hlt : k < xs.length
        · obtain ⟨b, off, rfl, hcell⟩ := hc k hlt
          have hel := is_el hlt
          cases hf : finK .f32 (el (cl xs) k) with
          | false =>
            have h : Hid (v = false) := by unfold Hid; rw [hI.out, allP_not hlt hf]
            go_wp2_with (go_at_call 97; refine (l01Finite_any _ _ _ hel hf _).mono ?_; rintro _ _ ⟨rfl, n1, rfl⟩)
            go_ret
            exact ⟨by rw [h.out]; rfl, _, by first | rfl | exact drewN_drewN' _ _ _⟩
          | true =>
            have HN : Hid (allP (finK .f32) (cl xs) (k + 1) = true) := by unfold Hid; rw [allP_succ, hall.out, hf]; rfl
            go_wp2_with (go_at_call 97; refine (l01Finite_any _ _ _ hel hf _).mono ?_; rintro _ _ ⟨rfl, n1, rfl⟩)
            go_roundw
            case rel => exact ⟨k + 1, _, by omega, by go_num, HN, rfl⟩
            case measure => simp [intOf]; omega
        · obtain rfl : xs.length = k := by omega
          have h : Hid (v = true) := by unfold Hid; rw [hI.out, hall.out]
          go_wp2
          go_ret
          exact ⟨by rw [h.out]; rfl, _, by first | rfl | exact drewN_drewN' _ _ _⟩
    · have h : Hid (v = false) := by unfold Hid; rw [← HV.out, inB_not (by omega)]; rfl
      have e1 : ¬ (xs.length : Int) < 1 := by omega
      have e2 : (16 : Int) < xs.length := by omega
      go_enter Try.func76, Try.ntmps76
      go_wp2
      go_ret
      exact ⟨by rw [h.out]; rfl, 0, rfl⟩
  · have h : Hid (v = false) := by unfold Hid; rw [← HV.out, inB_not (by omega)]; rfl
    have e1 : (xs.length : Int) < 1 := by omega
    go_enter Try.func76, Try.ntmps76
    go_wp2
    go_ret
    exact ⟨by rw [h.out]; rfl, 0, rfl⟩
set_option maxHeartbeats 4000000 in
theorem l04Is_any (B : Nat) (t : Int) (pa : Option Addr) (pc : Nat) (ps : List Nat) (ra : Option Addr) (rc : Nat) (rs : List (List Nat)) (v : Bool) (w : World) (h0 : w.cell? ⟨B, 0, none⟩ = some (.int .i64 t)) (h1 : w.cell? ⟨B, 1, none⟩ = some (.slice pa ps.length pc)) (h2 : w.cell? ⟨B, 2, none⟩ = some (.slice ra rs.length rc)) (hp : FR w pa ps) (hr : RS w ra rs) (hl : ps.length + (rs.length + tot rs) ≤ 1048576) (hv : gOk t (cl ps) (cls rs) = v) :
    Calls Try.prog 103 #[.pointer (some ⟨B, 0, none⟩)] w (Gives (.bool v) w) := by
  rw [gOk_cl] at hv
  have HV := Lib.hid hv
  clear hv
  cases ht : inB t 1 64 with
  | false =>
    have h : Hid (v = false) := by unfold Hid; rw [← HV.out, ht]; rfl
    go_enter Try.func103, Try.ntmps103
    go_wp2
    refine wp_region_lex (fun _ => Drawn w) (fun _ => false) (fun j v => (j = 4 → v = .bool false) ∧ (j = 11 → v = .bool false)) (by kernel_rfl) (by kernel_rfl) (by kernel_rfl) (fun _ => drawn_more _) (fun _ => ⟨0, rfl⟩) (fun n0 => ?_)
    (refine lw_move rfl rfl rfl rfl ?_; go_simp)
    (refine lw_valD rfl rfl (fun nn => by go_simp; rfl) ?_; go_simp)
    (refine lw_valD rfl rfl (fun nn => by go_simp; rfl) ?_; go_simp)
    (refine lw_valD rfl rfl (fun nn => by go_simp; rfl) ?_; go_simp)
    refine lw_call (args := #[.int .i64 t]) rfl rfl (fun w' hw' => by go_simp; try rfl) (fun w' hw' => (l04Ticks_any _ _ ht w').mono fun e w'' ⟨h1, h2⟩ => ⟨_, h1, ⟨fun _ => rfl, fun h => absurd h (by decide)⟩, 0, h2.symm⟩) ?_
    rintro v1 ⟨hv1, _⟩
    obtain rfl := hv1 (by decide)
    go_simp
    (refine lw_not rfl rfl rfl rfl ?_; go_simp)
    (refine lw_move rfl rfl rfl rfl ?_; go_simp)
    (refine lw_skip rfl ?_; go_simp)
    (refine lw_skip rfl ?_; go_simp)
    (refine lw_skip rfl ?_; go_simp)
    (refine lw_skip rfl ?_; go_simp)
    (refine lw_skip rfl ?_; go_simp)
    (refine lw_skip rfl ?_; go_simp)
    (refine lw_valD rfl rfl (fun nn => by go_simp; rfl) ?_; go_simp)
    (refine lw_move rfl rfl rfl rfl ?_; go_simp)
    (refine lw_skip rfl ?_; go_simp)
    (refine lw_skip rfl ?_; go_simp)
    (refine lw_skip rfl ?_; go_simp)
    (refine lw_skip rfl ?_; go_simp)
    (refine lw_skip rfl ?_; go_simp)
    (refine lw_skip rfl ?_; go_simp)
    (refine lw_skip rfl ?_; go_simp)
    (refine lw_skip rfl ?_; go_simp)
    (refine lw_skip rfl ?_; go_simp)
    (refine lw_skip rfl ?_; go_simp)
    (refine lw_skip rfl ?_; go_simp)
    (refine lw_valD rfl rfl (fun nn => by go_simp; rfl) ?_; go_simp)
    (refine lw_nil ?_; intro nq)
    go_wp2
    go_ret
    exact ⟨by rw [h.out]; rfl, _, by first | rfl | exact drewN_drewN' _ _ _⟩
  | true =>
  cases hpl : (inB (ps.length : Int) 1 16 && allP (finK .f32) (cl ps) ps.length) with
  | false =>
    have h : Hid (v = false) := by unfold Hid; rw [← HV.out, ht, hpl]; rfl
    go_enter Try.func103, Try.ntmps103
    go_wp2
    refine wp_region_lex (fun _ => Drawn w) (fun _ => false) (fun j v => (j = 4 → v = .bool true) ∧ (j = 11 → v = .bool false)) (by kernel_rfl) (by kernel_rfl) (by kernel_rfl) (fun _ => drawn_more _) (fun _ => ⟨0, rfl⟩) (fun n0 => ?_)
    (refine lw_move rfl rfl rfl rfl ?_; go_simp)
    (refine lw_valD rfl rfl (fun nn => by go_simp; rfl) ?_; go_simp)
    (refine lw_valD rfl rfl (fun nn => by go_simp; rfl) ?_; go_simp)
    (refine lw_valD rfl rfl (fun nn => by go_simp; rfl) ?_; go_simp)
    refine lw_call (args := #[.int .i64 t]) rfl rfl (fun w' hw' => by go_simp; try rfl) (fun w' hw' => (l04Ticks_any _ _ ht w').mono fun e w'' ⟨h1, h2⟩ => ⟨_, h1, ⟨fun _ => rfl, fun h => absurd h (by decide)⟩, 0, h2.symm⟩) ?_
    rintro v1 ⟨hv1, _⟩
    obtain rfl := hv1 (by decide)
    go_simp
    (refine lw_not rfl rfl rfl rfl ?_; go_simp)
    (refine lw_move rfl rfl rfl rfl ?_; go_simp)
    (refine lw_move rfl rfl rfl rfl ?_; go_simp)
    (refine lw_valD rfl rfl (fun nn => by go_simp; rfl) ?_; go_simp)
    (refine lw_valD rfl rfl (fun nn => by go_simp; rfl) ?_; go_simp)
    (refine lw_valD rfl rfl (fun nn => by go_simp; rfl) ?_; go_simp)
    refine lw_call (args := #[.slice pa ps.length pc]) rfl rfl (fun w' hw' => by go_simp; try rfl) (fun w' hw' => (l04Places_any _ _ _ _ w' (by obtain ⟨m', rfl⟩ := hw'; exact hp.drewN _) (by omega) hpl).mono fun e w'' ⟨h1, m, h2⟩ => ⟨_, h1, ⟨fun h => absurd h (by decide), fun _ => rfl⟩, m, h2⟩) ?_
    rintro v2 ⟨_, hv2⟩
    obtain rfl := hv2 (by decide)
    go_simp
    (refine lw_not rfl rfl rfl rfl ?_; go_simp)
    (refine lw_valD rfl rfl (fun nn => by go_simp; rfl) ?_; go_simp)
    (refine lw_move rfl rfl rfl rfl ?_; go_simp)
    (refine lw_skip rfl ?_; go_simp)
    (refine lw_skip rfl ?_; go_simp)
    (refine lw_skip rfl ?_; go_simp)
    (refine lw_skip rfl ?_; go_simp)
    (refine lw_skip rfl ?_; go_simp)
    (refine lw_skip rfl ?_; go_simp)
    (refine lw_skip rfl ?_; go_simp)
    (refine lw_skip rfl ?_; go_simp)
    (refine lw_skip rfl ?_; go_simp)
    (refine lw_skip rfl ?_; go_simp)
    (refine lw_skip rfl ?_; go_simp)
    (refine lw_valD rfl rfl (fun nn => by go_simp; rfl) ?_; go_simp)
    (refine lw_nil ?_; intro nq)
    go_wp2
    go_ret
    exact ⟨by rw [h.out]; rfl, _, by first | rfl | exact drewN_drewN' _ _ _⟩
  | true =>
  by_cases hlen : rs.length = ps.length
  case neg =>
    have h : Hid (v = false) := by unfold Hid; rw [← HV.out, ht, hpl, decide_eq_false hlen]; rfl
    have hlen2 : ¬ (rs.length : Int) = (ps.length : Int) := by omega
    clear hlen
    go_enter Try.func103, Try.ntmps103
    go_wp2
    refine wp_region_lex (fun _ => Drawn w) (fun _ => false) (fun j v => (j = 4 → v = .bool true) ∧ (j = 11 → v = .bool true)) (by kernel_rfl) (by kernel_rfl) (by kernel_rfl) (fun _ => drawn_more _) (fun _ => ⟨0, rfl⟩) (fun n0 => ?_)
    (refine lw_move rfl rfl rfl rfl ?_; go_simp)
    (refine lw_valD rfl rfl (fun nn => by go_simp; rfl) ?_; go_simp)
    (refine lw_valD rfl rfl (fun nn => by go_simp; rfl) ?_; go_simp)
    (refine lw_valD rfl rfl (fun nn => by go_simp; rfl) ?_; go_simp)
    refine lw_call (args := #[.int .i64 t]) rfl rfl (fun w' hw' => by go_simp; try rfl) (fun w' hw' => (l04Ticks_any _ _ ht w').mono fun e w'' ⟨h1, h2⟩ => ⟨_, h1, ⟨fun _ => rfl, fun h => absurd h (by decide)⟩, 0, h2.symm⟩) ?_
    rintro v1 ⟨hv1, _⟩
    obtain rfl := hv1 (by decide)
    go_simp
    (refine lw_not rfl rfl rfl rfl ?_; go_simp)
    (refine lw_move rfl rfl rfl rfl ?_; go_simp)
    (refine lw_move rfl rfl rfl rfl ?_; go_simp)
    (refine lw_valD rfl rfl (fun nn => by go_simp; rfl) ?_; go_simp)
    (refine lw_valD rfl rfl (fun nn => by go_simp; rfl) ?_; go_simp)
    (refine lw_valD rfl rfl (fun nn => by go_simp; rfl) ?_; go_simp)
    refine lw_call (args := #[.slice pa ps.length pc]) rfl rfl (fun w' hw' => by go_simp; try rfl) (fun w' hw' => (l04Places_any _ _ _ _ w' (by obtain ⟨m', rfl⟩ := hw'; exact hp.drewN _) (by omega) hpl).mono fun e w'' ⟨h1, m, h2⟩ => ⟨_, h1, ⟨fun h => absurd h (by decide), fun _ => rfl⟩, m, h2⟩) ?_
    rintro v2 ⟨_, hv2⟩
    obtain rfl := hv2 (by decide)
    go_simp
    (refine lw_not rfl rfl rfl rfl ?_; go_simp)
    (refine lw_valD rfl rfl (fun nn => by go_simp; rfl) ?_; go_simp)
    (refine lw_move rfl rfl rfl rfl ?_; go_simp)
    (refine lw_move rfl rfl rfl rfl ?_; go_simp)
    (refine lw_valD rfl rfl (fun nn => by go_simp; rfl) ?_; go_simp)
    (refine lw_valD rfl rfl (fun nn => by go_simp; rfl) ?_; go_simp)
    (refine lw_valD rfl rfl (fun nn => by go_simp; rfl) ?_; go_simp)
    (refine lw_valD rfl rfl (fun nn => by go_simp; rfl) ?_; go_simp)
    (refine lw_move rfl rfl rfl rfl ?_; go_simp)
    (refine lw_valD rfl rfl (fun nn => by go_simp; rfl) ?_; go_simp)
    (refine lw_valD rfl rfl (fun nn => by go_simp; rfl) ?_; go_simp)
    (refine lw_valD rfl rfl (fun nn => by go_simp; rfl) ?_; go_simp)
    (refine lw_valD rfl rfl (fun nn => by go_simp; rfl) ?_; go_simp)
    (refine lw_valD rfl rfl (fun nn => by go_simp; rfl) ?_; go_simp)
    (refine lw_valD rfl rfl (fun nn => by go_simp; rfl) ?_; go_simp)
    (refine lw_nil ?_; intro nq)
    go_wp2
    go_ret
    exact ⟨by rw [h.out]; rfl, _, by first | rfl | exact drewN_drewN' _ _ _⟩
  case pos =>
    have hv : Hid (v = lenB t rs rs.length) := by unfold Hid; rw [← HV.out, ht, hpl, decide_eq_true hlen]; rfl
    rw [hlen] at h2
    have HL := Lib.hid hlen
    clear HV hlen
    go_enter Try.func103, Try.ntmps103
    go_wp2
    refine wp_region_lex (fun _ => Drawn w) (fun _ => false) (fun j v => (j = 4 → v = .bool true) ∧ (j = 11 → v = .bool true)) (by kernel_rfl) (by kernel_rfl) (by kernel_rfl) (fun _ => drawn_more _) (fun _ => ⟨0, rfl⟩) (fun n0 => ?_)
    (refine lw_move rfl rfl rfl rfl ?_; go_simp)
    (refine lw_valD rfl rfl (fun nn => by go_simp; rfl) ?_; go_simp)
    (refine lw_valD rfl rfl (fun nn => by go_simp; rfl) ?_; go_simp)
    (refine lw_valD rfl rfl (fun nn => by go_simp; rfl) ?_; go_simp)
    refine lw_call (args := #[.int .i64 t]) rfl rfl (fun w' hw' => by go_simp; try rfl) (fun w' hw' => (l04Ticks_any _ _ ht w').mono fun e w'' ⟨h1, h2⟩ => ⟨_, h1, ⟨fun _ => rfl, fun h => absurd h (by decide)⟩, 0, h2.symm⟩) ?_
    rintro v1 ⟨hv1, _⟩
    obtain rfl := hv1 (by decide)
    go_simp
    (refine lw_not rfl rfl rfl rfl ?_; go_simp)
    (refine lw_move rfl rfl rfl rfl ?_; go_simp)
    (refine lw_move rfl rfl rfl rfl ?_; go_simp)
    (refine lw_valD rfl rfl (fun nn => by go_simp; rfl) ?_; go_simp)
    (refine lw_valD rfl rfl (fun nn => by go_simp; rfl) ?_; go_simp)
    (refine lw_valD rfl rfl (fun nn => by go_simp; rfl) ?_; go_simp)
    refine lw_call (args := #[.slice pa ps.length pc]) rfl rfl (fun w' hw' => by go_simp; try rfl) (fun w' hw' => (l04Places_any _ _ _ _ w' (by obtain ⟨m', rfl⟩ := hw'; exact hp.drewN _) (by omega) hpl).mono fun e w'' ⟨h1, m, h2⟩ => ⟨_, h1, ⟨fun h => absurd h (by decide), fun _ => rfl⟩, m, h2⟩) ?_
    rintro v2 ⟨_, hv2⟩
    obtain rfl := hv2 (by decide)
    go_simp
    (refine lw_not rfl rfl rfl rfl ?_; go_simp)
    (refine lw_valD rfl rfl (fun nn => by go_simp; rfl) ?_; go_simp)
    (refine lw_move rfl rfl rfl rfl ?_; go_simp)
    (refine lw_move rfl rfl rfl rfl ?_; go_simp)
    (refine lw_valD rfl rfl (fun nn => by go_simp; rfl) ?_; go_simp)
    (refine lw_valD rfl rfl (fun nn => by go_simp; rfl) ?_; go_simp)
    (refine lw_valD rfl rfl (fun nn => by go_simp; rfl) ?_; go_simp)
    (refine lw_valD rfl rfl (fun nn => by go_simp; rfl) ?_; go_simp)
    (refine lw_move rfl rfl rfl rfl ?_; go_simp)
    (refine lw_valD rfl rfl (fun nn => by go_simp; rfl) ?_; go_simp)
    (refine lw_valD rfl rfl (fun nn => by go_simp; rfl) ?_; go_simp)
    (refine lw_valD rfl rfl (fun nn => by go_simp; rfl) ?_; go_simp)
    (refine lw_valD rfl rfl (fun nn => by go_simp; rfl) ?_; go_simp)
    (refine lw_valD rfl rfl (fun nn => by go_simp; rfl) ?_; go_simp)
    (refine lw_valD rfl rfl (fun nn => by go_simp; rfl) ?_; go_simp)
    (refine lw_nil ?_; intro nq)
    clear hpl ht
    go_wp2
    go_loopw [3] (fun i wr => ∃ k n : Nat, k ≤ ps.length ∧ i = .int .i64 k ∧ Hid (lenB t rs k = true) ∧ wr = w.drewN n) (fun i _ => ps.length - (intOf i).toNat)
    case atStart => exact ⟨0, _, Nat.zero_le _, rfl, rfl, rfl⟩
    case round =>
      obtain ⟨k, n, hk, rfl, hall, rfl⟩ := hrel
      by_cases hlt : k < ps.length
      · have hlt' : k < rs.length := by rw [HL.out]; exact hlt
        obtain ⟨b, off, rb, rd, rfl, hcell, hf⟩ := hr k hlt'
        have hbd := row_tot rs k hlt'
        by_cases hq : ((row rs k).length : Int) = t
        · have HN : Hid (lenB t rs (k + 1) = true) := by unfold Hid; rw [lenB_succ, hall.out, decide_eq_true hq]; rfl
          go_wp2
          refine wp_region_lex (fun _ => Drawn w) (fun _ => false) (fun _ _ => True) (by kernel_rfl) (by kernel_rfl) (by kernel_rfl) (fun _ => drawn_more _) (fun _ => ⟨n, rfl⟩) (fun n0 => ?_)
          (refine lw_move rfl rfl rfl rfl ?_; go_simp)
          (refine lw_valD rfl rfl (fun nn => by go_simp; rfl) ?_; go_simp)
          (refine lw_valD rfl rfl (fun nn => by go_simp; rfl) ?_; go_simp)
          (refine lw_valD rfl rfl (fun nn => by go_simp; rfl) ?_; go_simp)
          (refine lw_move rfl rfl rfl rfl ?_; go_simp)
          (refine lw_valD rfl rfl (fun nn => by go_simp; rfl) ?_; go_simp)
          (refine lw_valD rfl rfl (fun nn => by go_simp; rfl) ?_; go_simp)
          (refine lw_valD rfl rfl (fun nn => by go_simp; rfl) ?_; go_simp)
          (refine lw_move rfl rfl rfl rfl ?_; go_simp)
          (refine lw_valD rfl rfl (fun nn => by go_simp; rfl) ?_; go_simp)
          (refine lw_valD rfl rfl (fun nn => by go_simp; rfl) ?_; go_simp)
          (refine lw_valD rfl rfl (fun nn => by go_simp; rfl) ?_; go_simp)
          (refine lw_valD rfl rfl (fun nn => by go_simp; rfl) ?_; go_simp)
          (refine lw_nil ?_; intro nq)
          go_wp2
          go_roundw
          case rel => exact ⟨k + 1, _, by omega, by go_num, HN, rfl⟩
          case measure => simp [intOf]; omega
        · have h : Hid (v = false) := by unfold Hid; rw [hv.out, lenB_not hlt' hq]
          go_wp2
          refine wp_region_lex (fun _ => Drawn w) (fun _ => false) (fun _ _ => True) (by kernel_rfl) (by kernel_rfl) (by kernel_rfl) (fun _ => drawn_more _) (fun _ => ⟨n, rfl⟩) (fun n0 => ?_)
          (refine lw_move rfl rfl rfl rfl ?_; go_simp)
          (refine lw_valD rfl rfl (fun nn => by go_simp; rfl) ?_; go_simp)
          (refine lw_valD rfl rfl (fun nn => by go_simp; rfl) ?_; go_simp)
          (refine lw_valD rfl rfl (fun nn => by go_simp; rfl) ?_; go_simp)
          (refine lw_move rfl rfl rfl rfl ?_; go_simp)
          (refine lw_valD rfl rfl (fun nn => by go_simp; rfl) ?_; go_simp)
          (refine lw_valD rfl rfl (fun nn => by go_simp; rfl) ?_; go_simp)
          (refine lw_valD rfl rfl (fun nn => by go_simp; rfl) ?_; go_simp)
          (refine lw_move rfl rfl rfl rfl ?_; go_simp)
          (refine lw_valD rfl rfl (fun nn => by go_simp; rfl) ?_; go_simp)
          (refine lw_valD rfl rfl (fun nn => by go_simp; rfl) ?_; go_simp)
          (refine lw_valD rfl rfl (fun nn => by go_simp; rfl) ?_; go_simp)
          (refine lw_valD rfl rfl (fun nn => by go_simp; rfl) ?_; go_simp)
          (refine lw_nil ?_; intro nq)
          go_wp2
          go_ret
          exact ⟨by rw [h.out]; rfl, _, by first | rfl | exact drewN_drewN' _ _ _⟩
      · obtain rfl : ps.length = k := by omega
        have h : Hid (v = true) := by unfold Hid; rw [hv.out, HL.out, hall.out]
        go_wp2
        go_ret
        exact ⟨by rw [h.out]; rfl, _, by first | rfl | exact drewN_drewN' _ _ _⟩
theorem validClo_any (B n rc : Nat) (ra : Option Addr) (t : Int) (v : Bool) (w : World) (h0 : w.cell? ⟨B, 0, none⟩ = some (.int .i64 t)) (hn : n ≤ 1048576) (hv : (!decide ((n : Int) = t)) = v) : Calls Try.prog 152 #[.slice ra n rc, .pointer (some ⟨B, 0, none⟩)] w (Gives (.bool v) w) := by
  subst hv
  by_cases hq : (n : Int) = t
  · subst hq
    go_enter Try.func152, Try.ntmps152
    go_wp2
    refine wp_region_lex (fun _ => Drawn w) (fun _ => false) (fun j v => v = .int .i64 (n : Int)) (by kernel_rfl) (by kernel_rfl) (by kernel_rfl) (fun _ => drawn_more _) (fun _ => ⟨0, rfl⟩) (fun n0 => ?_)
    (refine lw_move rfl rfl rfl rfl ?_; go_simp)
    refine lw_call (args := #[.slice ra n rc]) rfl rfl (fun w' hw' => by go_simp; try rfl) (fun w' hw' => (length32_any _ _ _ w').mono fun e w'' ⟨h1, h2⟩ => ⟨_, h1, rfl, 0, h2.symm⟩) ?_
    rintro _ rfl
    go_simp
    (refine lw_valD rfl rfl (fun nn => by go_simp; rfl) ?_; go_simp)
    (refine lw_valD rfl rfl (fun nn => by go_simp; rfl) ?_; go_simp)
    (refine lw_valD rfl rfl (fun nn => by go_simp; rfl) ?_; go_simp)
    (refine lw_assign rfl rfl rfl rfl ?_; go_simp)
    (refine lw_nil ?_; intro nq)
    go_wp2
    go_ret
    exact ⟨by first | rfl | simp, _, drewN_drewN' _ _ _⟩
  · go_enter Try.func152, Try.ntmps152
    go_wp2
    refine wp_region_lex (fun _ => Drawn w) (fun _ => false) (fun j v => v = .int .i64 (n : Int)) (by kernel_rfl) (by kernel_rfl) (by kernel_rfl) (fun _ => drawn_more _) (fun _ => ⟨0, rfl⟩) (fun n0 => ?_)
    (refine lw_move rfl rfl rfl rfl ?_; go_simp)
    refine lw_call (args := #[.slice ra n rc]) rfl rfl (fun w' hw' => by go_simp; try rfl) (fun w' hw' => (length32_any _ _ _ w').mono fun e w'' ⟨h1, h2⟩ => ⟨_, h1, rfl, 0, h2.symm⟩) ?_
    rintro _ rfl
    go_simp
    (refine lw_valD rfl rfl (fun nn => by go_simp; rfl) ?_; go_simp)
    (refine lw_valD rfl rfl (fun nn => by go_simp; rfl) ?_; go_simp)
    (refine lw_valD rfl rfl (fun nn => by go_simp; rfl) ?_; go_simp)
    (refine lw_assign rfl rfl rfl rfl ?_; go_simp)
    (refine lw_nil ?_; intro nq)
    go_wp2
    go_ret
    exact ⟨by first | rfl | simp [hq], _, drewN_drewN' _ _ _⟩
set_option maxHeartbeats 2000000 in
theorem indexRows_any (g : FuncId) (eg : ∀ (args : Array Value) (w : World), (callFunc g args).run Try.prog w = .ok (.enter g args) w) (c : Value) (t : Int) (ao : Option Addr) (cap : Nat) (rs : List (List Nat)) (w : World) (hr : RS w ao rs) (hl : rs.length + tot rs ≤ 1048576)
    (hp : ∀ (ra : Option Addr) (n rc m : Nat) (v : Bool), n ≤ 1048576 → (!decide ((n : Int) = t)) = v → Calls Try.prog g #[.slice ra n rc, c] (w.drewN m) (Gives (.bool v) (w.drewN m))) :
    Calls Try.prog 185 #[.slice ao rs.length cap, .func (.func g) #[] #[c]] w (GivesIdx (!lenB t rs rs.length) w) := by
  go_enter Try.func185, Try.ntmps185
  go_wp2
  go_loopw [8] (fun i wr => ∃ k n : Nat, k ≤ rs.length ∧ i = .int .i64 k ∧ Hid (lenB t rs k = true) ∧ wr = w.drewN n) (fun i _ => rs.length - (intOf i).toNat)
  case atStart => exact ⟨0, 0, Nat.zero_le _, rfl, rfl, rfl⟩
  case round =>
    obtain ⟨k, n, hk, rfl, hall, rfl⟩ := hrel
    by_cases hlt : k < rs.length
    · obtain ⟨b, off, rb, rd, rfl, hcell, hf⟩ := hr k hlt
      have hbd := row_tot rs k hlt
      by_cases hq : ((row rs k).length : Int) = t
      · have HN : Hid (lenB t rs (k + 1) = true) := by unfold Hid; rw [lenB_succ, hall.out, decide_eq_true hq]; rfl
        have hv' : (!decide (((row rs k).length : Int) = t)) = false := by rw [decide_eq_true hq]; rfl
        clear hq
        go_wp2_with ((with_reducible refine (hp _ _ _ _ _ (by omega) hv').mono ?_); rintro _ _ ⟨rfl, n1, rfl⟩)
        go_roundw
        case rel => exact ⟨k + 1, _, by omega, by go_num, HN, rfl⟩
        case measure => simp [intOf]; omega
      · have HN := Lib.hid (lenB_not hlt hq)
        have hv' : (!decide (((row rs k).length : Int) = t)) = true := by rw [decide_eq_false hq]; rfl
        clear hq
        go_wp2_with ((with_reducible refine (hp _ _ _ _ _ (by omega) hv').mono ?_); rintro _ _ ⟨rfl, n1, rfl⟩)
        go_ret
        exact ⟨_, rfl, by rw [HN.out]; simp, _, rfl⟩
    · go_wp2
      go_ret
      obtain rfl : k = rs.length := by omega
      exact ⟨_, rfl, by rw [hall.out]; rfl, _, rfl⟩
theorem containsRows_any (g : FuncId) (eg : ∀ (args : Array Value) (w : World), (callFunc g args).run Try.prog w = .ok (.enter g args) w) (c : Value) (t : Int) (ao : Option Addr) (cap : Nat) (rs : List (List Nat)) (v : Bool) (w : World) (hr : RS w ao rs) (hl : rs.length + tot rs ≤ 1048576)
    (hp : ∀ (ra : Option Addr) (n rc m : Nat) (v : Bool), n ≤ 1048576 → (!decide ((n : Int) = t)) = v → Calls Try.prog g #[.slice ra n rc, c] (w.drewN m) (Gives (.bool v) (w.drewN m))) (hv : (!lenB t rs rs.length) = v) :
    Calls Try.prog 151 #[.slice ao rs.length cap, .func (.func g) #[] #[c]] w (Gives (.bool v) w) := by
  have HV := Lib.hid hv
  clear hv
  go_enter Try.func151, Try.ntmps151
  go_wp2_with (go_at_call 185; refine (indexRows_any g eg c t _ _ _ _ hr hl hp).mono ?_; rintro _ _ ⟨n, rfl, hn, m, rfl⟩; have HN := Lib.hid hn; clear hn)
  go_ret
  exact ⟨by rw [← HV.out, ← HN.out]; first | rfl | simp, _, rfl⟩
theorem containsRowsN_any (g : FuncId) (eg : ∀ (args : Array Value) (w : World), (callFunc g args).run Try.prog w = .ok (.enter g args) w) (c : Value) (t : Int) (ao : Option Addr) (cap n : Nat) (rs : List (List Nat)) (v : Bool) (w : World) (hn : n = rs.length) (hr : RS w ao rs) (hl : rs.length + tot rs ≤ 1048576)
    (hp : ∀ (ra : Option Addr) (n rc m : Nat) (v : Bool), n ≤ 1048576 → (!decide ((n : Int) = t)) = v → Calls Try.prog g #[.slice ra n rc, c] (w.drewN m) (Gives (.bool v) (w.drewN m))) (hv : (!lenB t rs rs.length) = v) :
    Calls Try.prog 151 #[.slice ao n cap, .func (.func g) #[] #[c]] w (Gives (.bool v) w) := by
  subst hn
  exact containsRows_any g eg c t ao cap rs v w hr hl hp hv
set_option maxHeartbeats 4000000 in
theorem implValid_any (t : Int) (pa : Option Addr) (pc : Nat) (ps : List Nat) (ra : Option Addr) (rc : Nat) (rs : List (List Nat)) (v : Bool) (w : World) (hp : FR w pa ps) (hr : RS w ra rs) (hl : ps.length + (rs.length + tot rs) ≤ 1048576) (hv : gOk t (cl ps) (cls rs) = v) : Calls Try.prog 106 #[.agg #[.int .i64 t, .slice pa ps.length pc, .slice ra rs.length rc]] w (GivesE (.bool v) w) := by
  rw [gOk_cl] at hv
  have HV := Lib.hid hv
  clear hv
  have eg : ∀ (args : Array Value) (w : World), (callFunc 152 args).run Try.prog w = .ok (.enter 152 args) w := enters_at Try.func152 (by kernel_rfl) rfl
  have EG := Lib.hid eg
  clear eg
  generalize hA : w.alloc (.cells #[.int .i64 t, .slice pa ps.length pc, .slice ra rs.length rc] 25) = w0
  have E0 : Ext w w0 := by rw [← hA]; exact (Ext.refl w).alloc _
  have c0 : w0.cell? ⟨w.heap.size, 0, none⟩ = some (.int .i64 t) := by rw [← hA]; exact boxed (Ext.refl _) rfl
  have c1 : w0.cell? ⟨w.heap.size, 1, none⟩ = some (.slice pa ps.length pc) := by rw [← hA]; exact boxed (Ext.refl _) rfl
  have c2 : w0.cell? ⟨w.heap.size, 2, none⟩ = some (.slice ra rs.length rc) := by rw [← hA]; exact boxed (Ext.refl _) rfl
  have hpw := hp.ext E0
  have hrw := hr.ext E0
  have HA := Lib.hid hA
  clear hA
  cases ht : inB t 1 64 with
  | false =>
    have h : Hid (v = false) := by unfold Hid; rw [← HV.out, ht]; rfl
    go_enter Try.func106, Try.ntmps106
    go_wp2_with fail
    rw [HA.out]
    go_wp2_with (first | (go_at_call 79; refine (areFinite_any _ _ _ _ _ (hpw.ext (by repeat (first | assumption | exact Ext.refl _ | apply Ext.drewN | apply Ext.alloc | (refine Ext.setCell ?_ (by first | assumption | exact Nat.le_refl _) _)))) (by omega) hfi).mono ?_; rintro _ _ ⟨rfl, n1, rfl⟩) | (go_at_call 151; refine (containsRowsN_any _ EG.out _ t _ _ _ _ _ _ HL.out.symm (hrw.ext (by repeat (first | assumption | exact Ext.refl _ | apply Ext.drewN | apply Ext.alloc | (refine Ext.setCell ?_ (by first | assumption | exact Nat.le_refl _) _)))) (by omega) (fun ra n rc m v h1 h2 => validClo_any _ _ _ _ _ _ _ (by exact c0) h1 h2) hb').mono ?_; rintro _ _ ⟨rfl, n2, rfl⟩) | (go_at_call 77; refine (within_any _ _ _ _ (by first | assumption | rfl) _).mono ?_; rintro _ _ ⟨rfl, rfl⟩) | (go_at_call 90; refine (l00In_any _ _ _ _ (by first | assumption | rfl) _).mono ?_; rintro _ _ ⟨rfl, rfl⟩) | (go_at_call 96; refine (isCount_any _ _ (by first | assumption | rfl) _).mono ?_; rintro _ _ ⟨rfl, rfl⟩) | (go_at_call 88; refine (isTrace_any _ _ _ _ (by first | assumption | rfl) _).mono ?_; rintro _ _ ⟨rfl, rfl⟩) | (go_at_call 85; refine (l03Is_any _ _ _ _ (by first | assumption | rfl) (by omega) _).mono ?_; rintro _ _ ⟨rfl, rfl⟩) | (go_at_call 78; refine (length32_any _ _ _ _).mono ?_; rintro _ _ ⟨rfl, rfl⟩) | (go_at_call 148; refine (isFinite64_any _ _ _ (by assumption) (by first | assumption | rfl) _).mono ?_; rintro _ _ ⟨rfl, n, rfl⟩) | (go_at_call 99; refine (isFinite_any _ _ _ (by first | assumption | exact is_ofInt _ _ | exact is_self) (by first | assumption | rfl) _).mono ?_; rintro _ _ ⟨rfl, n, rfl⟩) | (go_at_call 97; refine (l01Finite_any _ _ _ (by first | assumption | exact is_ofInt _ _ | exact is_self) (by first | assumption | rfl) _).mono ?_; rintro _ _ ⟨rfl, n, rfl⟩))
    go_ret
    exact ⟨by rw [h.out]; rfl, (by repeat (first | assumption | exact Ext.refl _ | apply Ext.drewN | apply Ext.alloc | (refine Ext.setCell ?_ (by first | assumption | exact Nat.le_refl _) _)))⟩
  | true =>
  cases hpl : inB (ps.length : Int) 1 16 with
  | false =>
    have h : Hid (v = false) := by unfold Hid; rw [← HV.out, ht, hpl]; rfl
    go_enter Try.func106, Try.ntmps106
    go_wp2_with fail
    rw [HA.out]
    go_wp2_with (first | (go_at_call 79; refine (areFinite_any _ _ _ _ _ (hpw.ext (by repeat (first | assumption | exact Ext.refl _ | apply Ext.drewN | apply Ext.alloc | (refine Ext.setCell ?_ (by first | assumption | exact Nat.le_refl _) _)))) (by omega) hfi).mono ?_; rintro _ _ ⟨rfl, n1, rfl⟩) | (go_at_call 151; refine (containsRowsN_any _ EG.out _ t _ _ _ _ _ _ HL.out.symm (hrw.ext (by repeat (first | assumption | exact Ext.refl _ | apply Ext.drewN | apply Ext.alloc | (refine Ext.setCell ?_ (by first | assumption | exact Nat.le_refl _) _)))) (by omega) (fun ra n rc m v h1 h2 => validClo_any _ _ _ _ _ _ _ (by exact c0) h1 h2) hb').mono ?_; rintro _ _ ⟨rfl, n2, rfl⟩) | (go_at_call 77; refine (within_any _ _ _ _ (by first | assumption | rfl) _).mono ?_; rintro _ _ ⟨rfl, rfl⟩) | (go_at_call 90; refine (l00In_any _ _ _ _ (by first | assumption | rfl) _).mono ?_; rintro _ _ ⟨rfl, rfl⟩) | (go_at_call 96; refine (isCount_any _ _ (by first | assumption | rfl) _).mono ?_; rintro _ _ ⟨rfl, rfl⟩) | (go_at_call 88; refine (isTrace_any _ _ _ _ (by first | assumption | rfl) _).mono ?_; rintro _ _ ⟨rfl, rfl⟩) | (go_at_call 85; refine (l03Is_any _ _ _ _ (by first | assumption | rfl) (by omega) _).mono ?_; rintro _ _ ⟨rfl, rfl⟩) | (go_at_call 78; refine (length32_any _ _ _ _).mono ?_; rintro _ _ ⟨rfl, rfl⟩) | (go_at_call 148; refine (isFinite64_any _ _ _ (by assumption) (by first | assumption | rfl) _).mono ?_; rintro _ _ ⟨rfl, n, rfl⟩) | (go_at_call 99; refine (isFinite_any _ _ _ (by first | assumption | exact is_ofInt _ _ | exact is_self) (by first | assumption | rfl) _).mono ?_; rintro _ _ ⟨rfl, n, rfl⟩) | (go_at_call 97; refine (l01Finite_any _ _ _ (by first | assumption | exact is_ofInt _ _ | exact is_self) (by first | assumption | rfl) _).mono ?_; rintro _ _ ⟨rfl, n, rfl⟩))
    go_ret
    exact ⟨by rw [h.out]; rfl, (by repeat (first | assumption | exact Ext.refl _ | apply Ext.drewN | apply Ext.alloc | (refine Ext.setCell ?_ (by first | assumption | exact Nat.le_refl _) _)))⟩
  | true =>
  cases hfi : allP (finK .f32) (cl ps) ps.length with
  | false =>
    have h : Hid (v = false) := by unfold Hid; rw [← HV.out, ht, hpl, hfi]; rfl
    go_enter Try.func106, Try.ntmps106
    go_wp2_with fail
    rw [HA.out]
    go_wp2_with (first | (go_at_call 79; refine (areFinite_any _ _ _ _ _ (hpw.ext (by repeat (first | assumption | exact Ext.refl _ | apply Ext.drewN | apply Ext.alloc | (refine Ext.setCell ?_ (by first | assumption | exact Nat.le_refl _) _)))) (by omega) hfi).mono ?_; rintro _ _ ⟨rfl, n1, rfl⟩) | (go_at_call 151; refine (containsRowsN_any _ EG.out _ t _ _ _ _ _ _ HL.out.symm (hrw.ext (by repeat (first | assumption | exact Ext.refl _ | apply Ext.drewN | apply Ext.alloc | (refine Ext.setCell ?_ (by first | assumption | exact Nat.le_refl _) _)))) (by omega) (fun ra n rc m v h1 h2 => validClo_any _ _ _ _ _ _ _ (by exact c0) h1 h2) hb').mono ?_; rintro _ _ ⟨rfl, n2, rfl⟩) | (go_at_call 77; refine (within_any _ _ _ _ (by first | assumption | rfl) _).mono ?_; rintro _ _ ⟨rfl, rfl⟩) | (go_at_call 90; refine (l00In_any _ _ _ _ (by first | assumption | rfl) _).mono ?_; rintro _ _ ⟨rfl, rfl⟩) | (go_at_call 96; refine (isCount_any _ _ (by first | assumption | rfl) _).mono ?_; rintro _ _ ⟨rfl, rfl⟩) | (go_at_call 88; refine (isTrace_any _ _ _ _ (by first | assumption | rfl) _).mono ?_; rintro _ _ ⟨rfl, rfl⟩) | (go_at_call 85; refine (l03Is_any _ _ _ _ (by first | assumption | rfl) (by omega) _).mono ?_; rintro _ _ ⟨rfl, rfl⟩) | (go_at_call 78; refine (length32_any _ _ _ _).mono ?_; rintro _ _ ⟨rfl, rfl⟩) | (go_at_call 148; refine (isFinite64_any _ _ _ (by assumption) (by first | assumption | rfl) _).mono ?_; rintro _ _ ⟨rfl, n, rfl⟩) | (go_at_call 99; refine (isFinite_any _ _ _ (by first | assumption | exact is_ofInt _ _ | exact is_self) (by first | assumption | rfl) _).mono ?_; rintro _ _ ⟨rfl, n, rfl⟩) | (go_at_call 97; refine (l01Finite_any _ _ _ (by first | assumption | exact is_ofInt _ _ | exact is_self) (by first | assumption | rfl) _).mono ?_; rintro _ _ ⟨rfl, n, rfl⟩))
    go_ret
    exact ⟨by rw [h.out]; rfl, (by repeat (first | assumption | exact Ext.refl _ | apply Ext.drewN | apply Ext.alloc | (refine Ext.setCell ?_ (by first | assumption | exact Nat.le_refl _) _)))⟩
  | true =>
  by_cases hlen : rs.length = ps.length
  case neg =>
    have h : Hid (v = false) := by unfold Hid; rw [← HV.out, ht, hpl, hfi, decide_eq_false hlen]; rfl
    have hlen2 : ¬ (rs.length : Int) = (ps.length : Int) := by omega
    clear hlen
    go_enter Try.func106, Try.ntmps106
    go_wp2_with fail
    rw [HA.out]
    go_wp2_with (first | (go_at_call 79; refine (areFinite_any _ _ _ _ _ (hpw.ext (by repeat (first | assumption | exact Ext.refl _ | apply Ext.drewN | apply Ext.alloc | (refine Ext.setCell ?_ (by first | assumption | exact Nat.le_refl _) _)))) (by omega) hfi).mono ?_; rintro _ _ ⟨rfl, n1, rfl⟩) | (go_at_call 151; refine (containsRowsN_any _ EG.out _ t _ _ _ _ _ _ HL.out.symm (hrw.ext (by repeat (first | assumption | exact Ext.refl _ | apply Ext.drewN | apply Ext.alloc | (refine Ext.setCell ?_ (by first | assumption | exact Nat.le_refl _) _)))) (by omega) (fun ra n rc m v h1 h2 => validClo_any _ _ _ _ _ _ _ (by exact c0) h1 h2) hb').mono ?_; rintro _ _ ⟨rfl, n2, rfl⟩) | (go_at_call 77; refine (within_any _ _ _ _ (by first | assumption | rfl) _).mono ?_; rintro _ _ ⟨rfl, rfl⟩) | (go_at_call 90; refine (l00In_any _ _ _ _ (by first | assumption | rfl) _).mono ?_; rintro _ _ ⟨rfl, rfl⟩) | (go_at_call 96; refine (isCount_any _ _ (by first | assumption | rfl) _).mono ?_; rintro _ _ ⟨rfl, rfl⟩) | (go_at_call 88; refine (isTrace_any _ _ _ _ (by first | assumption | rfl) _).mono ?_; rintro _ _ ⟨rfl, rfl⟩) | (go_at_call 85; refine (l03Is_any _ _ _ _ (by first | assumption | rfl) (by omega) _).mono ?_; rintro _ _ ⟨rfl, rfl⟩) | (go_at_call 78; refine (length32_any _ _ _ _).mono ?_; rintro _ _ ⟨rfl, rfl⟩) | (go_at_call 148; refine (isFinite64_any _ _ _ (by assumption) (by first | assumption | rfl) _).mono ?_; rintro _ _ ⟨rfl, n, rfl⟩) | (go_at_call 99; refine (isFinite_any _ _ _ (by first | assumption | exact is_ofInt _ _ | exact is_self) (by first | assumption | rfl) _).mono ?_; rintro _ _ ⟨rfl, n, rfl⟩) | (go_at_call 97; refine (l01Finite_any _ _ _ (by first | assumption | exact is_ofInt _ _ | exact is_self) (by first | assumption | rfl) _).mono ?_; rintro _ _ ⟨rfl, n, rfl⟩))
    go_ret
    exact ⟨by rw [h.out]; rfl, (by repeat (first | assumption | exact Ext.refl _ | apply Ext.drewN | apply Ext.alloc | (refine Ext.setCell ?_ (by first | assumption | exact Nat.le_refl _) _)))⟩
  case pos =>
    have HL := Lib.hid hlen
    rw [hlen] at c2
    cases hb : lenB t rs rs.length with
    | false =>
      have h : Hid (v = false) := by unfold Hid; rw [← HV.out, ht, hpl, hfi, decide_eq_true hlen, hb]; rfl
      have hb' : (!lenB t rs rs.length) = true := by rw [hb]; rfl
      clear hlen hb
      go_enter Try.func106, Try.ntmps106
      go_wp2_with fail
      rw [HA.out]
      go_wp2_with (first | (go_at_call 79; refine (areFinite_any _ _ _ _ _ (hpw.ext (by repeat (first | assumption | exact Ext.refl _ | apply Ext.drewN | apply Ext.alloc | (refine Ext.setCell ?_ (by first | assumption | exact Nat.le_refl _) _)))) (by omega) hfi).mono ?_; rintro _ _ ⟨rfl, n1, rfl⟩) | (go_at_call 151; refine (containsRowsN_any _ EG.out _ t _ _ _ _ _ _ HL.out.symm (hrw.ext (by repeat (first | assumption | exact Ext.refl _ | apply Ext.drewN | apply Ext.alloc | (refine Ext.setCell ?_ (by first | assumption | exact Nat.le_refl _) _)))) (by omega) (fun ra n rc m v h1 h2 => validClo_any _ _ _ _ _ _ _ (by exact c0) h1 h2) hb').mono ?_; rintro _ _ ⟨rfl, n2, rfl⟩) | (go_at_call 77; refine (within_any _ _ _ _ (by first | assumption | rfl) _).mono ?_; rintro _ _ ⟨rfl, rfl⟩) | (go_at_call 90; refine (l00In_any _ _ _ _ (by first | assumption | rfl) _).mono ?_; rintro _ _ ⟨rfl, rfl⟩) | (go_at_call 96; refine (isCount_any _ _ (by first | assumption | rfl) _).mono ?_; rintro _ _ ⟨rfl, rfl⟩) | (go_at_call 88; refine (isTrace_any _ _ _ _ (by first | assumption | rfl) _).mono ?_; rintro _ _ ⟨rfl, rfl⟩) | (go_at_call 85; refine (l03Is_any _ _ _ _ (by first | assumption | rfl) (by omega) _).mono ?_; rintro _ _ ⟨rfl, rfl⟩) | (go_at_call 78; refine (length32_any _ _ _ _).mono ?_; rintro _ _ ⟨rfl, rfl⟩) | (go_at_call 148; refine (isFinite64_any _ _ _ (by assumption) (by first | assumption | rfl) _).mono ?_; rintro _ _ ⟨rfl, n, rfl⟩) | (go_at_call 99; refine (isFinite_any _ _ _ (by first | assumption | exact is_ofInt _ _ | exact is_self) (by first | assumption | rfl) _).mono ?_; rintro _ _ ⟨rfl, n, rfl⟩) | (go_at_call 97; refine (l01Finite_any _ _ _ (by first | assumption | exact is_ofInt _ _ | exact is_self) (by first | assumption | rfl) _).mono ?_; rintro _ _ ⟨rfl, n, rfl⟩))
      go_ret
      exact ⟨by rw [h.out]; rfl, (by repeat (first | assumption | exact Ext.refl _ | apply Ext.drewN | apply Ext.alloc | (refine Ext.setCell ?_ (by first | assumption | exact Nat.le_refl _) _)))⟩
    | true =>
      have h : Hid (v = true) := by unfold Hid; rw [← HV.out, ht, hpl, hfi, decide_eq_true hlen, hb]; rfl
      have hb' : (!lenB t rs rs.length) = false := by rw [hb]; rfl
      clear hlen hb
      go_enter Try.func106, Try.ntmps106
      go_wp2_with fail
      rw [HA.out]
      go_wp2_with (first | (go_at_call 79; refine (areFinite_any _ _ _ _ _ (hpw.ext (by repeat (first | assumption | exact Ext.refl _ | apply Ext.drewN | apply Ext.alloc | (refine Ext.setCell ?_ (by first | assumption | exact Nat.le_refl _) _)))) (by omega) hfi).mono ?_; rintro _ _ ⟨rfl, n1, rfl⟩) | (go_at_call 151; refine (containsRowsN_any _ EG.out _ t _ _ _ _ _ _ HL.out.symm (hrw.ext (by repeat (first | assumption | exact Ext.refl _ | apply Ext.drewN | apply Ext.alloc | (refine Ext.setCell ?_ (by first | assumption | exact Nat.le_refl _) _)))) (by omega) (fun ra n rc m v h1 h2 => validClo_any _ _ _ _ _ _ _ (by exact c0) h1 h2) hb').mono ?_; rintro _ _ ⟨rfl, n2, rfl⟩) | (go_at_call 77; refine (within_any _ _ _ _ (by first | assumption | rfl) _).mono ?_; rintro _ _ ⟨rfl, rfl⟩) | (go_at_call 90; refine (l00In_any _ _ _ _ (by first | assumption | rfl) _).mono ?_; rintro _ _ ⟨rfl, rfl⟩) | (go_at_call 96; refine (isCount_any _ _ (by first | assumption | rfl) _).mono ?_; rintro _ _ ⟨rfl, rfl⟩) | (go_at_call 88; refine (isTrace_any _ _ _ _ (by first | assumption | rfl) _).mono ?_; rintro _ _ ⟨rfl, rfl⟩) | (go_at_call 85; refine (l03Is_any _ _ _ _ (by first | assumption | rfl) (by omega) _).mono ?_; rintro _ _ ⟨rfl, rfl⟩) | (go_at_call 78; refine (length32_any _ _ _ _).mono ?_; rintro _ _ ⟨rfl, rfl⟩) | (go_at_call 148; refine (isFinite64_any _ _ _ (by assumption) (by first | assumption | rfl) _).mono ?_; rintro _ _ ⟨rfl, n, rfl⟩) | (go_at_call 99; refine (isFinite_any _ _ _ (by first | assumption | exact is_ofInt _ _ | exact is_self) (by first | assumption | rfl) _).mono ?_; rintro _ _ ⟨rfl, n, rfl⟩) | (go_at_call 97; refine (l01Finite_any _ _ _ (by first | assumption | exact is_ofInt _ _ | exact is_self) (by first | assumption | rfl) _).mono ?_; rintro _ _ ⟨rfl, n, rfl⟩))
      go_ret
      exact ⟨by rw [h.out]; rfl, (by repeat (first | assumption | exact Ext.refl _ | apply Ext.drewN | apply Ext.alloc | (refine Ext.setCell ?_ (by first | assumption | exact Nat.le_refl _) _)))⟩
theorem implValid_law (t : Int) (pa : Option Addr) (pc : Nat) (ps : List Nat) (ra : Option Addr) (rc : Nat) (rs : List (List Nat)) (w : World) (hp : FR w pa ps) (hr : RS w ra rs) (hl : ps.length + (rs.length + tot rs) ≤ 1048576) : Calls Try.prog 106 #[.agg #[.int .i64 t, .slice pa ps.length pc, .slice ra rs.length rc]] w (GivesE (.bool (gOk t (cl ps) (cls rs))) w) := implValid_any _ _ _ _ _ _ _ _ _ hp hr hl rfl
end Go.Proofs.Ytnjgcacnfobmiaa
