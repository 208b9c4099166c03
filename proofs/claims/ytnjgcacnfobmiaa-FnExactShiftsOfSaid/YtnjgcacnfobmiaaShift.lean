/- The best shift of a list against a pilot: the reference's and the program's. -/
import Derived.Test.YtnjgcacnfobmiaaPeak
import Derived.Test.YtnjgcacnfobmiaaApp
import Derived.Test.YtnjgcacnfobmiaaVal
namespace Go.Proofs.Ytnjgcacnfobmiaa
open Go.RowKit
set_option maxRecDepth 100000
set_option linter.unusedVariables false

def matP (a b : List Nat) (d : Int) : Nat → Nat
  | 0 => canon .f32 0
  | k + 1 => if inB ((k : Int) + d) 0 ((b.length : Int) - 1) then fop .add .f32 (matP a b d k) (fop .mul .f32 (el a k) (el b ((k : Int) + d).toNat)) else matP a b d k
def curP (a b : List Nat) (m : Int) (j : Nat) : Nat := matP a b (-m + (j : Int)) a.length
def shB (x y : Nat) : Bool := fcmp .gtr .f32 x y || (fcmp .eql .f32 x x && fcmp .neq .f32 y y)
def runP (a b : List Nat) (m : Int) : Nat → Int × Nat
  | 0 => (-m, curP a b m 0)
  | j + 1 => if shB (curP a b m (j + 1)) (runP a b m j).2 then (-m + ((j + 1 : Nat) : Int), curP a b m (j + 1)) else runP a b m j
def shfS (a b : List Nat) (m : Int) : Int := (runP a b m (2 * m).toNat).1
theorem run_best (a b : List Nat) (m : Int) (n j : Nat) (hj : j < n) :
    (bestP (tabP (curP a b m) n) (j + 1) < 0 → (runP a b m j).1 = -m ∧ isNan .f32 (runP a b m j).2 = true) ∧
    (0 ≤ bestP (tabP (curP a b m) n) (j + 1) → (runP a b m j).1 = bestP (tabP (curP a b m) n) (j + 1) - m ∧ (runP a b m j).2 = el (tabP (curP a b m) n) (bestP (tabP (curP a b m) n) (j + 1)).toNat ∧ isNan .f32 (runP a b m j).2 = false) := by
  generalize hL : tabP (curP a b m) n = L
  have hel : ∀ i, i < n → el L i = curP a b m i := fun i hi => by rw [← hL]; exact el_tabP _ _ _ hi
  clear hL
  induction j with
  | zero =>
    have e : bestP L (0 + 1) = if isNan .f32 (curP a b m 0) then -1 else 0 := by
      unfold bestP
      show (if (decide ((-1 : Int) < 0) && _) || (decide (0 ≤ (-1 : Int)) && _) then ((0 : Nat) : Int) else -1) = _
      rw [hel 0 hj, fcmp_eql_self]
      cases isNan .f32 (curP a b m 0) <;> rfl
    have e2 : runP a b m 0 = (-m, curP a b m 0) := rfl
    rw [e, e2]
    cases h : isNan .f32 (curP a b m 0) with
    | true => exact ⟨fun _ => ⟨rfl, rfl⟩, fun h2 => by simp at h2⟩
    | false => exact ⟨fun h2 => by simp at h2, fun _ => ⟨by simp, (hel 0 hj).symm, rfl⟩⟩
  | succ j ih =>
    have hj' : j < n := by omega
    obtain ⟨h1, h2⟩ := ih hj'
    have hb := bestP_lt L (j + 1)
    have e : bestP L (j + 1 + 1) = if (decide (bestP L (j + 1) < 0) && fcmp .eql .f32 (curP a b m (j + 1)) (curP a b m (j + 1))) || (decide (0 ≤ bestP L (j + 1)) && fcmp .gtr .f32 (curP a b m (j + 1)) (el L (bestP L (j + 1)).toNat)) then ((j + 1 : Nat) : Int) else bestP L (j + 1) := by
      rw [← hel (j + 1) hj]; rfl
    have e2 : runP a b m (j + 1) = if shB (curP a b m (j + 1)) (runP a b m j).2 then (-m + ((j + 1 : Nat) : Int), curP a b m (j + 1)) else runP a b m j := rfl
    have hx := hel (j + 1) hj
    rw [e, e2]
    generalize curP a b m (j + 1) = x at *
    generalize hr : runP a b m j = r at *
    by_cases ho : bestP L (j + 1) < 0
    · obtain ⟨h3, h4⟩ := h1 ho
      have ho2 : ¬ 0 ≤ bestP L (j + 1) := by omega
      have e3 : shB x r.2 = !isNan .f32 x := by
        unfold shB; rw [fcmp_nan (.inr h4), fcmp_eql_self, fcmp_neq_self, h4]; cases isNan .f32 x <;> rfl
      rw [decide_eq_true ho, decide_eq_false ho2, fcmp_eql_self, e3]
      cases hx2 : isNan .f32 x with
      | true =>
        simp only [Bool.not_true, Bool.and_false, Bool.false_and, Bool.or_false, Bool.false_eq_true, if_false]
        exact ⟨fun _ => ⟨h3, h4⟩, fun h => absurd h ho2⟩
      | false =>
        simp only [Bool.not_false, Bool.and_true, Bool.false_and, Bool.or_false, if_true]
        exact ⟨fun h => by omega, fun _ => ⟨by omega, by rw [Int.toNat_natCast]; exact hx.symm, hx2⟩⟩
    · have ho2 : 0 ≤ bestP L (j + 1) := by omega
      obtain ⟨h3, h4, h5⟩ := h2 ho2
      have e3 : shB x r.2 = fcmp .gtr .f32 x r.2 := by
        unfold shB; rw [fcmp_neq_self, h5, Bool.and_false, Bool.or_false]
      rw [decide_eq_false ho, decide_eq_true ho2, e3, ← h4, Bool.false_and, Bool.false_or, Bool.true_and]
      cases hg : fcmp .gtr .f32 x r.2 with
      | true =>
        have hx2 : isNan .f32 x = false := by
          cases h : isNan .f32 x with
          | false => rfl
          | true => rw [fcmp_nan (.inl h)] at hg; cases hg
        simp only [if_true]
        exact ⟨fun h => by omega, fun _ => ⟨by omega, by rw [Int.toNat_natCast]; exact hx.symm, hx2⟩⟩
      | false =>
        simp only [Bool.false_eq_true, if_false]
        exact ⟨fun h => absurd h ho, fun _ => ⟨h3, h4, h5⟩⟩
theorem shf_best (a b : List Nat) (m : Nat) : shfS a b (m : Int) = if bestP (tabP (curP a b (m : Int)) (2 * m + 1)) (2 * m + 1) < 0 then -(m : Int) else bestP (tabP (curP a b (m : Int)) (2 * m + 1)) (2 * m + 1) - (m : Int) := by
  have h := run_best a b (m : Int) (2 * m + 1) (2 * m) (by omega)
  unfold shfS
  rw [show (2 * (m : Int)).toNat = 2 * m by omega]
  split
  · rename_i h1; exact (h.1 h1).1
  · rename_i h1; exact (h.2 (by omega)).1
set_option maxHeartbeats 2000000 in
theorem l04Match_any (ao bo : Option Addr) (ca cb : Nat) (xs ys : List Nat) (d : Int) (w : World) (hx : FR w ao xs) (hy : FR w bo ys) (hlx : xs.length ≤ 64) (hly : ys.length ≤ 64) (h1 : -64 ≤ d) (h2 : d ≤ 64) :
    Calls Try.prog 108 #[.slice ao xs.length ca, .slice bo ys.length cb, .int .i64 d] w (GivesF .f32 (matP (cl xs) (cl ys) d xs.length) w) := by
  go_enter Try.func108, Try.ntmps108
  go_wp2
  go_loopw [7, 8] (fun s i wr => ∃ (k bb n0 : Nat), k ≤ xs.length ∧ i = .int .i64 k ∧ s = .float .f32 bb ∧ Is .f32 bb (matP (cl xs) (cl ys) d k) ∧ wr = w.drewN n0) (fun _ i _ => xs.length - (intOf i).toNat)
  case atStart => exact ⟨0, 0, 0, Nat.zero_le _, rfl, rfl, is_zero, rfl⟩
  case round =>
    obtain ⟨k, bb, n0, hk, rfl, rfl, hbb, rfl⟩ := hrel
    by_cases hlt : k < xs.length
    · obtain ⟨b, off, rfl, hcell⟩ := hx k hlt
      have hA := is_el hlt
      have HM : Hid (matP (cl xs) (cl ys) d (k + 1) = if inB ((k : Int) + d) 0 ((ys.length : Int) - 1) then fop .add .f32 (matP (cl xs) (cl ys) d k) (fop .mul .f32 (el (cl xs) k) (el (cl ys) ((k : Int) + d).toNat)) else matP (cl xs) (cl ys) d k) := by unfold Hid; rw [← cl_length ys]; rfl
      cases hi : inB ((k : Int) + d) 0 ((ys.length : Int) - 1) with
      | false =>
        have HN : Hid (matP (cl xs) (cl ys) d (k + 1) = matP (cl xs) (cl ys) d k) := by unfold Hid; rw [HM.out, hi]; rfl
        go_wp2_with (first | (go_at_call 77; refine (within_any _ _ _ _ (by first | assumption | rfl) _).mono ?_; rintro _ _ ⟨rfl, rfl⟩) | (go_at_call 90; refine (l00In_any _ _ _ _ (by first | assumption | rfl) _).mono ?_; rintro _ _ ⟨rfl, rfl⟩) | (go_at_call 96; refine (isCount_any _ _ (by first | assumption | rfl) _).mono ?_; rintro _ _ ⟨rfl, rfl⟩) | (go_at_call 88; refine (isTrace_any _ _ _ _ (by first | assumption | rfl) _).mono ?_; rintro _ _ ⟨rfl, rfl⟩) | (go_at_call 85; refine (l03Is_any _ _ _ _ (by first | assumption | rfl) (by omega) _).mono ?_; rintro _ _ ⟨rfl, rfl⟩) | (go_at_call 78; refine (length32_any _ _ _ _).mono ?_; rintro _ _ ⟨rfl, rfl⟩) | (go_at_call 148; refine (isFinite64_any _ _ _ (by assumption) (by first | assumption | rfl) _).mono ?_; rintro _ _ ⟨rfl, n, rfl⟩) | (go_at_call 99; refine (isFinite_any _ _ _ (by first | assumption | exact is_ofInt _ _ | exact is_self) (by first | assumption | rfl) _).mono ?_; rintro _ _ ⟨rfl, n, rfl⟩) | (go_at_call 97; refine (l01Finite_any _ _ _ (by first | assumption | exact is_ofInt _ _ | exact is_self) (by first | assumption | rfl) _).mono ?_; rintro _ _ ⟨rfl, n, rfl⟩))
        go_roundw
        case rel => exact ⟨k + 1, _, _, by omega, by go_num, rfl, by rw [HN.out]; exact hbb, rfl⟩
        case measure => simp [intOf]; omega
      | true =>
        have hin := inB_yes hi
        go_wp2_with (first | (go_at_call 77; refine (within_any _ _ _ _ (by first | assumption | rfl) _).mono ?_; rintro _ _ ⟨rfl, rfl⟩) | (go_at_call 90; refine (l00In_any _ _ _ _ (by first | assumption | rfl) _).mono ?_; rintro _ _ ⟨rfl, rfl⟩) | (go_at_call 96; refine (isCount_any _ _ (by first | assumption | rfl) _).mono ?_; rintro _ _ ⟨rfl, rfl⟩) | (go_at_call 88; refine (isTrace_any _ _ _ _ (by first | assumption | rfl) _).mono ?_; rintro _ _ ⟨rfl, rfl⟩) | (go_at_call 85; refine (l03Is_any _ _ _ _ (by first | assumption | rfl) (by omega) _).mono ?_; rintro _ _ ⟨rfl, rfl⟩) | (go_at_call 78; refine (length32_any _ _ _ _).mono ?_; rintro _ _ ⟨rfl, rfl⟩) | (go_at_call 148; refine (isFinite64_any _ _ _ (by assumption) (by first | assumption | rfl) _).mono ?_; rintro _ _ ⟨rfl, n, rfl⟩) | (go_at_call 99; refine (isFinite_any _ _ _ (by first | assumption | exact is_ofInt _ _ | exact is_self) (by first | assumption | rfl) _).mono ?_; rintro _ _ ⟨rfl, n, rfl⟩) | (go_at_call 97; refine (l01Finite_any _ _ _ (by first | assumption | exact is_ofInt _ _ | exact is_self) (by first | assumption | rfl) _).mono ?_; rintro _ _ ⟨rfl, n, rfl⟩))
        obtain ⟨q, hq⟩ : ∃ q : Nat, (k : Int) + d = (q : Int) := ⟨((k : Int) + d).toNat, by omega⟩
        have hqy : q < ys.length := by omega
        have HN : Hid (matP (cl xs) (cl ys) d (k + 1) = fop .add .f32 (matP (cl xs) (cl ys) d k) (fop .mul .f32 (el (cl xs) k) (el (cl ys) q))) := by unfold Hid; rw [HM.out, hi, hq, Int.toNat_natCast]; rfl
        obtain ⟨b2, off2, rfl, hcell2⟩ := hy q hqy
        have hB := is_el hqy
        have e1 : IntKind.i64.wrap ((k : Int) + d) = (q : Int) := by rw [← hq]; exact IntWalk.i64_in _ (by omega)
        have HQ := Lib.hid hq
        clear hq hin hi HM
        refine wp_region_mix (fun _ => Drawn w) (fun _ => false) (fun _ _ => True) (by kernel_rfl) (by kernel_rfl) (by kernel_rfl) (fun _ => drawn_more _) (fun _ => ⟨_, rfl⟩) (fun n1 => ?_)
        repeat (first
          | (refine lx_nil ?_; intro nq)
          | (refine lx_skip rfl ?_; go_simp)
          | (refine lx_move rfl rfl rfl rfl ?_; go_simp)
          | (refine lx_assign rfl rfl rfl rfl ?_; go_simp)
          | (refine lx_bin rfl rfl rfl rfl rfl rfl (by first | assumption | exact is_ofInt _ _ | exact is_self) (by first | assumption | exact is_ofInt _ _ | exact is_self) ?_; intro r hr; go_simp)
          | (refine lx_cmp rfl rfl rfl rfl rfl rfl (by first | assumption | exact is_ofInt _ _ | exact is_self) (by first | assumption | exact is_ofInt _ _ | exact is_self) (by first | assumption | rfl) ?_; go_simp)
          | (refine lx_widen rfl rfl rfl rfl (by first | exact rfl | kernel_rfl) (by kernel_rfl) (by first | assumption | exact is_ofInt _ _ | exact is_self) ?_; intro r hr; go_simp)
          | (refine lx_valD rfl rfl (fun nn => by go_simp; rfl) ?_; go_simp))
        clear e1
        have HR : Hid (Is .f32 r (matP (cl xs) (cl ys) d (k + 1))) := by unfold Hid; rw [HN.out]; exact hr
        go_wp2
        go_roundw
        case rel => exact ⟨k + 1, _, _, by omega, by go_num, rfl, HR.out, rfl⟩
        case measure => simp [intOf]; omega
    · obtain rfl : k = xs.length := by omega
      go_wp2
      go_ret
      exact ⟨bb, _, rfl, hbb, rfl⟩
set_option maxHeartbeats 4000000 in
theorem shiftBetween_any (ao bo : Option Addr) (ca cb : Nat) (xs ys : List Nat) (m : Nat) (w : World) (hx : FR w ao xs) (hy : FR w bo ys) (hlx : xs.length ≤ 64) (hly : ys.length ≤ 64) (hm : m ≤ 64) :
    Calls Try.prog 109 #[.slice ao xs.length ca, .slice bo ys.length cb, .int .i64 (m : Int)] w fun e w' => ∃ v1 v2 d, e = .returned (.tuple #[.int .i64 d, v1, v2]) ∧ Hid (d = shfS (cl xs) (cl ys) (m : Int)) ∧ Ext w w' := by
  obtain ⟨i0, hi0, hz0, hs0, hb0⟩ := info_parts info32
  have HS := Lib.hid (shf_best (cl xs) (cl ys) m)
  go_enter Try.func109, Try.ntmps109
  go_wp2
  go_loopw [9, 10] (fun sv dv wr => ∃ (j : Nat) (d : Int) (ss : List Nat), j ≤ 2 * m + 1 ∧ dv = .int .i64 d ∧ Hid (d = -(m : Int) + (j : Int)) ∧ OwnF wr w.heap.size sv ss ∧ Hid (cl ss = tabP (curP (cl xs) (cl ys) (m : Int)) j) ∧ Ext w wr) (fun _ dv _ => ((m : Int) + 1 - intOf dv).toNat)
  case atStart => exact ⟨0, _, [], Nat.zero_le _, rfl, by unfold Hid; simp, OwnF.nil _ _, rfl, Ext.refl _⟩
  case round =>
    obtain ⟨j, d, ss, hj, rfl, hd, hO, hss, hE⟩ := hrel
    have hd0 : -(m : Int) ≤ d ∧ d ≤ (m : Int) + 1 := by rw [hd.out]; omega
    have hsl : ss.length = j := by rw [← cl_length, hss.out, tabP_len]
    have hsl2 : ss.length ≤ 129 := by omega
    have HJ := Lib.hid hsl
    clear hsl
    by_cases hle : d ≤ (m : Int)
    · go_wp2
      rename World => wo
      go_loopw [11, 25] (fun s i wr => ∃ (k bb n0 : Nat), k ≤ xs.length ∧ i = .int .i64 k ∧ s = .float .f32 bb ∧ Is .f32 bb (matP (cl xs) (cl ys) d k) ∧ wr = wo.drewN n0) (fun _ i _ => xs.length - (intOf i).toNat)
      case atStart => exact ⟨0, 0, 0, Nat.zero_le _, rfl, rfl, is_zero, rfl⟩
      case round =>
        obtain ⟨k, bb, n0, hk, rfl, rfl, hbb, rfl⟩ := hrel
        by_cases hlt : k < xs.length
        · obtain ⟨b, off, rfl, hcell⟩ := hx.ext hE k hlt
          have hA := is_el hlt
          have HM : Hid (matP (cl xs) (cl ys) d (k + 1) = if inB ((k : Int) + d) 0 ((ys.length : Int) - 1) then fop .add .f32 (matP (cl xs) (cl ys) d k) (fop .mul .f32 (el (cl xs) k) (el (cl ys) ((k : Int) + d).toNat)) else matP (cl xs) (cl ys) d k) := by unfold Hid; rw [← cl_length ys]; rfl
          cases hi : inB ((k : Int) + d) 0 ((ys.length : Int) - 1) with
          | false =>
            have HN : Hid (matP (cl xs) (cl ys) d (k + 1) = matP (cl xs) (cl ys) d k) := by unfold Hid; rw [HM.out, hi]; rfl
            go_wp2_with (first | (go_at_call 77; refine (within_any _ _ _ _ (by first | assumption | rfl) _).mono ?_; rintro _ _ ⟨rfl, rfl⟩) | (go_at_call 90; refine (l00In_any _ _ _ _ (by first | assumption | rfl) _).mono ?_; rintro _ _ ⟨rfl, rfl⟩) | (go_at_call 96; refine (isCount_any _ _ (by first | assumption | rfl) _).mono ?_; rintro _ _ ⟨rfl, rfl⟩) | (go_at_call 88; refine (isTrace_any _ _ _ _ (by first | assumption | rfl) _).mono ?_; rintro _ _ ⟨rfl, rfl⟩) | (go_at_call 85; refine (l03Is_any _ _ _ _ (by first | assumption | rfl) (by omega) _).mono ?_; rintro _ _ ⟨rfl, rfl⟩) | (go_at_call 78; refine (length32_any _ _ _ _).mono ?_; rintro _ _ ⟨rfl, rfl⟩) | (go_at_call 148; refine (isFinite64_any _ _ _ (by assumption) (by first | assumption | rfl) _).mono ?_; rintro _ _ ⟨rfl, n, rfl⟩) | (go_at_call 99; refine (isFinite_any _ _ _ (by first | assumption | exact is_ofInt _ _ | exact is_self) (by first | assumption | rfl) _).mono ?_; rintro _ _ ⟨rfl, n, rfl⟩) | (go_at_call 97; refine (l01Finite_any _ _ _ (by first | assumption | exact is_ofInt _ _ | exact is_self) (by first | assumption | rfl) _).mono ?_; rintro _ _ ⟨rfl, n, rfl⟩))
            go_roundw
            case rel => exact ⟨k + 1, _, _, by omega, by go_num, rfl, by rw [HN.out]; exact hbb, rfl⟩
            case measure => simp [intOf]; omega
          | true =>
            have hin := inB_yes hi
            obtain ⟨q, hq⟩ : ∃ q : Nat, (k : Int) + d = (q : Int) := ⟨((k : Int) + d).toNat, by omega⟩
            have hqy : q < ys.length := by omega
            have HN : Hid (matP (cl xs) (cl ys) d (k + 1) = fop .add .f32 (matP (cl xs) (cl ys) d k) (fop .mul .f32 (el (cl xs) k) (el (cl ys) q))) := by unfold Hid; rw [HM.out, hi, hq, Int.toNat_natCast]; rfl
            obtain ⟨b2, off2, rfl, hcell2⟩ := hy.ext hE q hqy
            have hcell3 : wo.cell? ⟨b2, off2 + ((k : Int) + d).toNat, none⟩ = some (.float .f32 (el ys q)) := by rw [hq, Int.toNat_natCast]; exact hcell2
            have hB := is_el hqy
            have HQ := Lib.hid hq
            clear hq HM hcell2
            go_wp2_with (first | (go_at_call 77; refine (within_any _ _ _ _ (by first | assumption | rfl) _).mono ?_; rintro _ _ ⟨rfl, rfl⟩) | (go_at_call 90; refine (l00In_any _ _ _ _ (by first | assumption | rfl) _).mono ?_; rintro _ _ ⟨rfl, rfl⟩) | (go_at_call 96; refine (isCount_any _ _ (by first | assumption | rfl) _).mono ?_; rintro _ _ ⟨rfl, rfl⟩) | (go_at_call 88; refine (isTrace_any _ _ _ _ (by first | assumption | rfl) _).mono ?_; rintro _ _ ⟨rfl, rfl⟩) | (go_at_call 85; refine (l03Is_any _ _ _ _ (by first | assumption | rfl) (by omega) _).mono ?_; rintro _ _ ⟨rfl, rfl⟩) | (go_at_call 78; refine (length32_any _ _ _ _).mono ?_; rintro _ _ ⟨rfl, rfl⟩) | (go_at_call 148; refine (isFinite64_any _ _ _ (by assumption) (by first | assumption | rfl) _).mono ?_; rintro _ _ ⟨rfl, n, rfl⟩) | (go_at_call 99; refine (isFinite_any _ _ _ (by first | assumption | exact is_ofInt _ _ | exact is_self) (by first | assumption | rfl) _).mono ?_; rintro _ _ ⟨rfl, n, rfl⟩) | (go_at_call 97; refine (l01Finite_any _ _ _ (by first | assumption | exact is_ofInt _ _ | exact is_self) (by first | assumption | rfl) _).mono ?_; rintro _ _ ⟨rfl, n, rfl⟩) | (refine wl_bin rfl rfl rfl rfl rfl hA hB ?_; intro r1 n1 hr1) | (refine wl_bin rfl rfl rfl rfl rfl hbb hr1 ?_; intro r2 n2 hr2))
            have HR : Hid (Is .f32 r2 (matP (cl xs) (cl ys) d (k + 1))) := by unfold Hid; rw [HN.out]; exact hr2
            go_roundw
            case rel => exact ⟨k + 1, _, _, by omega, by go_num, rfl, HR.out, rfl⟩
            case measure => simp [intOf]; omega
        · obtain rfl : k = xs.length := by omega
          go_wp2_with (at_builtin; refine wl_append1K w rfl Try.underlying22 hi0 hz0 hs0 hb0 rfl rfl rfl (by exact (hO.drewN _).alloc _) (by exact (hE.drewN _).alloc _) (by omega) (by first | exact cell_new _ _ _ | exact cell_newD _ _ _ _) ?_; intro v5 w5 hO5 hE5 hC5 hb5)
          have hbb2 : Is .f32 bb (curP (cl xs) (cl ys) (m : Int) j) := by unfold curP; rw [← hd.out, cl_length]; exact hbb
          have hy5 := app_step hss.out hbb2
          go_roundw
          case rel => exact ⟨j + 1, _, _, by have := hd.out; omega, by go_num, by unfold Hid; rw [hd.out]; omega, hO5, hy5, hE5⟩
          case measure => simp [intOf]; omega
    · have hjm : j = 2 * m + 1 := by have := hd.out; omega
      have HB : Hid (bestP (cl ss) ss.length = bestP (tabP (curP (cl xs) (cl ys) (m : Int)) (2 * m + 1)) (2 * m + 1)) := by unfold Hid; rw [hss.out, HJ.out, hjm]
      have hbl : bestP (cl ss) ss.length < (ss.length : Int) ∧ -1 ≤ bestP (cl ss) ss.length := ⟨(bestP_lt _ _).2.1, (bestP_lt _ _).1⟩
      obtain ⟨ax, cs, rfl, hfs⟩ := hO.fr
      go_wp2_with fail
      go_at_call 86; refine (best_any _ _ _ _ hfs (by omega)).mono ?_; rintro _ _ ⟨o, rfl, ho, rfl⟩
      have hbl2 : o < (ss.length : Int) ∧ -1 ≤ o := by rw [ho.out]; exact hbl
      have HO : Hid (shfS (cl xs) (cl ys) (m : Int) = if o < 0 then -(m : Int) else o - (m : Int)) := by unfold Hid; rw [HS.out, ← HB.out, ← ho.out]
      clear hbl HB ho HS
      by_cases h0 : o < 0
      · go_wp2
        go_ret3
        exact ⟨_, _, _, rfl, by unfold Hid; rw [HO.out, if_pos (by omega)], hE⟩
      · obtain ⟨q, rfl⟩ : ∃ q : Nat, o = (q : Int) := ⟨o.toNat, by omega⟩
        obtain ⟨b2, off2, rfl, hcell2⟩ := hfs q (by omega)
        have e1 : IntKind.i64.wrap ((q : Int) - (m : Int)) = (q : Int) - (m : Int) := IntWalk.i64_in _ (by omega)
        go_wp2
        go_region
        all_goals
          go_wp2
          go_ret3
          exact ⟨_, _, _, rfl, by unfold Hid; rw [HO.out, if_neg (by omega)], (by repeat (first | assumption | exact Ext.refl _ | apply Ext.drewN | apply Ext.alloc | (refine Ext.setCell ?_ (by first | assumption | exact Nat.le_refl _) _)))⟩
end Go.Proofs.Ytnjgcacnfobmiaa
