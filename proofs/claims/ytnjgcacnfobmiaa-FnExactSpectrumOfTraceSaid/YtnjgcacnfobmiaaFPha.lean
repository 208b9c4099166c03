/- The fraction, the sine, the points of the unit circle: the program's and the reference's. -/
import Derived.Test.YtnjgcacnfobmiaaPha
import Derived.Test.YtnjgcacnfobmiaaCpx
namespace Go.Proofs.Ytnjgcacnfobmiaa.tr
open Go.RowKit Go.Proofs.Ytnjgcacnfobmiaa
set_option maxRecDepth 100000
set_option linter.unusedVariables false

theorem is_of {s : Nat} (h : isNan .f64 s = false) : Is .f64 s s := canon_of_not h
theorem nan_of {s : Nat} (h : mg .f64 s < inf .f64) : isNan .f64 s = false := by rw [isNan_mg]; exact decide_eq_false (by omega)
theorem is_zero64 : Is .f64 0 0 := is_of (by decide +kernel)
theorem is_one64 : Is .f64 one64 one64 := is_of (by decide +kernel)
theorem is_half : Is .f64 half64 half64 := is_of (by decide +kernel)
theorem is_q25 : Is .f64 q25 q25 := is_of (by decide +kernel)
theorem is_tau : Is .f64 tau64 tau64 := is_of (by decide +kernel)
theorem is_c52 : Is .f64 c52 c52 := is_of (by decide +kernel)
theorem is_n52 : Is .f64 n52 n52 := is_of (by decide +kernel)
theorem isNan_truncF {s : Nat} (h : isNan .f64 s = false) : isNan .f64 (truncF s) = false := by
  refine write_not _ ?_
  unfold isNan at h
  have e : FloatKind.f64.decode s = FloatKind.f64.format.read s := rfl
  rw [e]
  generalize FloatKind.f64.format.read s = d at h
  cases d <;> first | rfl | (simp [Ieee.Datum.isNaN] at h)
theorem trunc_run (args : Array Value) (w : World) : (callFunc 205 args).run Try.prog w = ((Extern.MathFloor.toIntegral "math.archTrunc" .zero args).run Try.prog w).andThen fun v w' => .ok (.value v) w' :=
  run_callFunc_extern Try.func205 (by kernel_rfl) (by kernel_rfl) (by kernel_rfl) (by kernel_rfl) args w
theorem trunc_at {b s : Nat} (hb : Is .f64 b s) (hn : isNan .f64 s = false) (w : World) : (callFunc 205 #[.float .f64 b]).run Try.prog w = .ok (.value (.float .f64 (truncF s))) w := by
  have e : b = s := by
    unfold Is at hb
    have : isNan .f64 b = false := by rw [← isNan_canon, hb]; exact hn
    rw [← hb, canon_of_not this]
  subst e
  rw [trunc_run]
  have e1 : Extern.MathFloor.toIntegral "math.archTrunc" .zero #[.float .f64 b] = (fun (dd : Ieee.Datum) => (match dd with
    | .nan s t => (if FloatKind.f64.format.quiet t = t then pure (.float .f64 b) else do
      let kept ← choose (.extern "math.Floor,Ceil,Trunc,RoundToEven.signallingNaN kept" 2)
      pure (.float .f64 (if kept == 1 then b else FloatKind.f64.encode (.nan s (FloatKind.f64.format.quiet t)))))
    | d => pure (.float .f64 (FloatKind.f64.encode (d.integral .zero))) : Sem Value)) (FloatKind.f64.decode b) := rfl
  rw [e1]
  unfold truncF
  have e2 : FloatKind.f64.decode b = FloatKind.f64.format.read b := rfl
  rw [e2]
  rcases read_not hn with ⟨sg, m, e, he⟩ | ⟨sg, he⟩ <;> rw [he] <;> rfl
theorem mathTrunc_any (b s : Nat) (hb : Is .f64 b s) (hn : isNan .f64 s = false) (w : World) : Calls Try.prog 201 #[.float .f64 b] w fun e w' => e = .returned (.float .f64 (truncF s)) ∧ w = w' := by
  have h1 := fun w => trunc_at hb hn w
  go_enter Try.func201, Try.ntmps201
  go_wp2
  go_ret
  exact ⟨rfl, rfl⟩
theorem fraction_any (b s : Nat) (hb : Is .f64 b s) (hs : mg .f64 s < c52) (w : World) : Calls Try.prog 183 #[.float .f64 b] w (GivesF .f64 (frF s) w) := by
  have hn := nan_of (Nat.lt_trans hs c52_inf)
  have hT : Is .f64 (truncF s) (truncF s) := is_of (isNan_truncF hn)
  have h0 := is_zero64
  have h1 := is_one64
  cases he : fcmp .eql .f64 (truncF s) 0 with
  | true =>
    have hU : Is .f64 0 (whF s) := by rw [← trunc_eq hs, he]; exact h0
    cases hl : fcmp .lss .f64 (fr0 s) 0 with
    | true =>
      have hF : Hid (frF s = fop .add .f64 (fr0 s) one64) := by unfold Hid frF; rw [hl]; rfl
      go_enter Try.func183, Try.ntmps183
      go_wp2_with (first | (go_at_call 201; refine (mathTrunc_any _ _ hb hn _).mono ?_; rintro _ _ ⟨rfl, rfl⟩) | (refine wl_cmp rfl rfl rfl rfl rfl hT h0 he ?_) | (refine wl_bin rfl rfl rfl rfl rfl hb hU ?_; intro r1 nr1 hr1) | (refine wl_cmp rfl rfl rfl rfl rfl hr1 h0 hl ?_) | (refine wl_bin rfl rfl rfl rfl rfl hr1 h1 ?_; intro r2 nr2 hr2))
      go_ret
      exact ⟨_, _, rfl, by rw [hF.out]; exact hr2, rfl⟩
    | false =>
      have hF : Hid (frF s = fr0 s) := by unfold Hid frF; rw [hl]; rfl
      go_enter Try.func183, Try.ntmps183
      go_wp2_with (first | (go_at_call 201; refine (mathTrunc_any _ _ hb hn _).mono ?_; rintro _ _ ⟨rfl, rfl⟩) | (refine wl_cmp rfl rfl rfl rfl rfl hT h0 he ?_) | (refine wl_bin rfl rfl rfl rfl rfl hb hU ?_; intro r1 nr1 hr1) | (refine wl_cmp rfl rfl rfl rfl rfl hr1 h0 hl ?_) | (refine wl_bin rfl rfl rfl rfl rfl hr1 h1 ?_; intro r2 nr2 hr2))
      go_ret
      exact ⟨_, _, rfl, by rw [hF.out]; exact hr1, rfl⟩
  | false =>
    have hU : Is .f64 (truncF s) (whF s) := by rw [← trunc_eq hs, he]; exact hT
    cases hl : fcmp .lss .f64 (fr0 s) 0 with
    | true =>
      have hF : Hid (frF s = fop .add .f64 (fr0 s) one64) := by unfold Hid frF; rw [hl]; rfl
      go_enter Try.func183, Try.ntmps183
      go_wp2_with (first | (go_at_call 201; refine (mathTrunc_any _ _ hb hn _).mono ?_; rintro _ _ ⟨rfl, rfl⟩) | (refine wl_cmp rfl rfl rfl rfl rfl hT h0 he ?_) | (refine wl_bin rfl rfl rfl rfl rfl hb hU ?_; intro r1 nr1 hr1) | (refine wl_cmp rfl rfl rfl rfl rfl hr1 h0 hl ?_) | (refine wl_bin rfl rfl rfl rfl rfl hr1 h1 ?_; intro r2 nr2 hr2))
      go_ret
      exact ⟨_, _, rfl, by rw [hF.out]; exact hr2, rfl⟩
    | false =>
      have hF : Hid (frF s = fr0 s) := by unfold Hid frF; rw [hl]; rfl
      go_enter Try.func183, Try.ntmps183
      go_wp2_with (first | (go_at_call 201; refine (mathTrunc_any _ _ hb hn _).mono ?_; rintro _ _ ⟨rfl, rfl⟩) | (refine wl_cmp rfl rfl rfl rfl rfl hT h0 he ?_) | (refine wl_bin rfl rfl rfl rfl rfl hb hU ?_; intro r1 nr1 hr1) | (refine wl_cmp rfl rfl rfl rfl rfl hr1 h0 hl ?_) | (refine wl_bin rfl rfl rfl rfl rfl hr1 h1 ?_; intro r2 nr2 hr2))
      go_ret
      exact ⟨_, _, rfl, by rw [hF.out]; exact hr1, rfl⟩
theorem neq_self {s : Nat} (h : mg .f64 s < inf .f64) : fcmp .neq .f64 (fop .sub .f64 s s) 0 = false := by
  obtain ⟨u, T, e, _, hb⟩ := sub_fin (k := .f64) (x := s) (y := s) h h
  obtain ⟨hT, _, _⟩ := hb rfl
  rw [e, show T = 0 by omega, RR_zero]
  cases u <;> decide +kernel
theorem cast_is {k : FloatKind} {b s u : Nat} (h : Is k b s) (e : s = u) : Is k b u := e ▸ h
set_option maxHeartbeats 8000000 in
theorem sineI_any (b t : Nat) (hb : Is .f64 b t) (ht : mg .f64 t < c52) (w : World) : Calls Try.prog 184 #[.float .f64 b] w (GivesF .f64 (sinF t) w) := by
  have h0 := is_zero64
  have h1 := is_one64
  have hh := is_half
  have hq := is_q25
  have htau := is_tau
  have hc52 := is_c52
  have hn52 := is_n52
  have hti := Nat.lt_trans ht c52_inf
  have hn := nan_of hti
  have hff : fcmp .neq .f64 (fop .sub .f64 t t) 0 = false := neq_self hti
  obtain ⟨hg1, hg2⟩ := far_geq ht
  have hint := trunc_int hti
  have hrg : -9223372036854775808 ≤ whI t ∧ whI t ≤ 9223372036854775807 := by have := whl_lt ht; unfold whI; split <;> omega
  have hwI : Is .f64 (floatOfInt .f64 (whI t)) (whF t) := is_of (nan_of (whF_parts ht).1)
  cases hb1 : fcmp .geq .f64 (frF t) half64 with
  | true =>
    cases hb2 : fcmp .gtr .f64 (fop .sub .f64 (frF t) half64) q25 with
    | true =>
      have k1 : Hid (sZ t = fop .mul .f64 (fop .sub .f64 half64 (fop .sub .f64 (frF t) half64)) tau64) := by unfold Hid sZ sF2 sF1; rw [hb1]; simp only [if_true]; rw [hb2]; rfl
      have k2 : Hid (sinF t = fneg .f64 (sO t)) := by unfold Hid sinF; rw [hb1]; rfl
      go_enter Try.func184, Try.ntmps184
      go_wp2_with (first | (go_at_call 183; refine (fraction_any _ _ hb ht _).mono ?_; rintro _ _ ⟨rf, nf, rfl, hf, rfl⟩) | (refine wl_cmp rfl rfl rfl rfl rfl hf hh hb1 ?_) | (refine wl_bin rfl rfl rfl rfl rfl hf hh ?_; intro ra nra hra) | (refine wl_cmp rfl rfl rfl rfl rfl hra hq hb2 ?_) | (refine wl_bin rfl rfl rfl rfl rfl hh hra ?_; intro rb nrb hrb) | (refine wl_bin rfl rfl rfl rfl rfl hrb htau ?_; intro rz nrz hrz) | (refine wl_bin rfl rfl rfl rfl rfl hrz hrz ?_; intro ru nru hru))
      obtain ⟨U, hU⟩ : ∃ U, fop .mul .f64 (sZ t) (sZ t) = U := ⟨_, rfl⟩
      have hz : Is .f64 rz (sZ t) := by rw [k1.out]; exact hrz
      have hu : Is .f64 ru U := by rw [← hU, k1.out]; exact hru
      have hUo : Hid (sO t = fop .mul .f64 (sZ t) (pK U 8)) := by unfold Hid; rw [sO_eq, hU]
      clear hU hrz hru k1
      go_loopw [7, 8] (fun p i wr => ∃ (j n0 bp : Nat), j ≤ 8 ∧ i = .int .i64 (8 - (j : Int)) ∧ p = .float .f64 bp ∧ Is .f64 bp (pK U j) ∧ wr = w.drewN n0) (fun _ i _ => (intOf i).toNat)
      case atStart => exact ⟨0, _, one64, by omega, rfl, rfl, h1, rfl⟩
      case round =>
        obtain ⟨j, n0, bp, hj, rfl, rfl, hp, rfl⟩ := hrel
        by_cases hlt : j < 8
        · obtain ⟨K, hK⟩ : ∃ K : Int, 8 - (j : Int) = K := ⟨_, rfl⟩
          rw [hK]
          have hK1 : 1 ≤ K := by omega
          have hK8 : K ≤ 8 := by omega
          have hD : Is .f64 (floatOfInt .f64 (2 * K * (2 * K + 1))) (dK (8 - j)) := by
            have e : K = ((8 - j : Nat) : Int) := by omega
            rw [e]; exact is_of (nan_of (dK_facts (8 - j) (by omega) (by omega)).1)
          have hp2 : (2 * K) * (2 * K + 1) ≤ 16 * 17 := Int.mul_le_mul (by omega) (by omega) (by omega) (by omega)
          have hp3 : 0 ≤ (2 * K) * (2 * K + 1) := Int.mul_nonneg (by omega) (by omega)
          have e1 : IntKind.i64.wrap (2 * K) = 2 * K := IntWalk.i64_in _ (by omega)
          have e2 : IntKind.i64.wrap (2 * K + 1) = 2 * K + 1 := IntWalk.i64_in _ (by omega)
          have e3 : IntKind.i64.wrap (2 * K * (2 * K + 1)) = 2 * K * (2 * K + 1) := IntWalk.i64_in _ (by omega)
          have e4 : IntKind.i64.wrap (K - 1) = K - 1 := IntWalk.i64_in _ (by omega)
          have HK := Lib.hid hK
          clear hK hp2 hp3
          go_wp2_with (first | (refine wl_bin rfl rfl rfl rfl rfl hu hp ?_; intro r5 nr5 hr5) | (refine wl_bin rfl rfl rfl rfl rfl hr5 hD ?_; intro r6 nr6 hr6) | (refine wl_bin rfl rfl rfl rfl rfl h1 hr6 ?_; intro r7 nr7 hr7))
          clear e1 e2 e3 e4
          go_roundw
          case rel =>
            refine ⟨j + 1, _, r7, by omega, by have := HK.out; congr 1; omega, rfl, ?_, rfl⟩
            exact hr7
          case measure => have := HK.out; simp [intOf]; omega
        · obtain rfl : j = 8 := by omega
          go_wp2_with (first | (refine wl_bin rfl rfl rfl rfl rfl hz hp ?_; intro r8 nr8 hr8) | (refine wl_neg rfl rfl rfl hr8 ?_; intro r9 hr9))
          go_ret
          exact ⟨_, _, rfl, by rw [k2.out, hUo.out]; exact hr9, rfl⟩
    | false =>
      have k1 : Hid (sZ t = fop .mul .f64 (fop .sub .f64 (frF t) half64) tau64) := by unfold Hid sZ sF2 sF1; rw [hb1]; simp only [if_true]; rw [hb2]; rfl
      have k2 : Hid (sinF t = fneg .f64 (sO t)) := by unfold Hid sinF; rw [hb1]; rfl
      go_enter Try.func184, Try.ntmps184
      go_wp2_with (first | (go_at_call 183; refine (fraction_any _ _ hb ht _).mono ?_; rintro _ _ ⟨rf, nf, rfl, hf, rfl⟩) | (refine wl_cmp rfl rfl rfl rfl rfl hf hh hb1 ?_) | (refine wl_bin rfl rfl rfl rfl rfl hf hh ?_; intro ra nra hra) | (refine wl_cmp rfl rfl rfl rfl rfl hra hq hb2 ?_) | (refine wl_bin rfl rfl rfl rfl rfl hra htau ?_; intro rz nrz hrz) | (refine wl_bin rfl rfl rfl rfl rfl hrz hrz ?_; intro ru nru hru))
      obtain ⟨U, hU⟩ : ∃ U, fop .mul .f64 (sZ t) (sZ t) = U := ⟨_, rfl⟩
      have hz : Is .f64 rz (sZ t) := by rw [k1.out]; exact hrz
      have hu : Is .f64 ru U := by rw [← hU, k1.out]; exact hru
      have hUo : Hid (sO t = fop .mul .f64 (sZ t) (pK U 8)) := by unfold Hid; rw [sO_eq, hU]
      clear hU hrz hru k1
      go_loopw [7, 8] (fun p i wr => ∃ (j n0 bp : Nat), j ≤ 8 ∧ i = .int .i64 (8 - (j : Int)) ∧ p = .float .f64 bp ∧ Is .f64 bp (pK U j) ∧ wr = w.drewN n0) (fun _ i _ => (intOf i).toNat)
      case atStart => exact ⟨0, _, one64, by omega, rfl, rfl, h1, rfl⟩
      case round =>
        obtain ⟨j, n0, bp, hj, rfl, rfl, hp, rfl⟩ := hrel
        by_cases hlt : j < 8
        · obtain ⟨K, hK⟩ : ∃ K : Int, 8 - (j : Int) = K := ⟨_, rfl⟩
          rw [hK]
          have hK1 : 1 ≤ K := by omega
          have hK8 : K ≤ 8 := by omega
          have hD : Is .f64 (floatOfInt .f64 (2 * K * (2 * K + 1))) (dK (8 - j)) := by
            have e : K = ((8 - j : Nat) : Int) := by omega
            rw [e]; exact is_of (nan_of (dK_facts (8 - j) (by omega) (by omega)).1)
          have hp2 : (2 * K) * (2 * K + 1) ≤ 16 * 17 := Int.mul_le_mul (by omega) (by omega) (by omega) (by omega)
          have hp3 : 0 ≤ (2 * K) * (2 * K + 1) := Int.mul_nonneg (by omega) (by omega)
          have e1 : IntKind.i64.wrap (2 * K) = 2 * K := IntWalk.i64_in _ (by omega)
          have e2 : IntKind.i64.wrap (2 * K + 1) = 2 * K + 1 := IntWalk.i64_in _ (by omega)
          have e3 : IntKind.i64.wrap (2 * K * (2 * K + 1)) = 2 * K * (2 * K + 1) := IntWalk.i64_in _ (by omega)
          have e4 : IntKind.i64.wrap (K - 1) = K - 1 := IntWalk.i64_in _ (by omega)
          have HK := Lib.hid hK
          clear hK hp2 hp3
          go_wp2_with (first | (refine wl_bin rfl rfl rfl rfl rfl hu hp ?_; intro r5 nr5 hr5) | (refine wl_bin rfl rfl rfl rfl rfl hr5 hD ?_; intro r6 nr6 hr6) | (refine wl_bin rfl rfl rfl rfl rfl h1 hr6 ?_; intro r7 nr7 hr7))
          clear e1 e2 e3 e4
          go_roundw
          case rel =>
            refine ⟨j + 1, _, r7, by omega, by have := HK.out; congr 1; omega, rfl, ?_, rfl⟩
            exact hr7
          case measure => have := HK.out; simp [intOf]; omega
        · obtain rfl : j = 8 := by omega
          go_wp2_with (first | (refine wl_bin rfl rfl rfl rfl rfl hz hp ?_; intro r8 nr8 hr8) | (refine wl_neg rfl rfl rfl hr8 ?_; intro r9 hr9))
          go_ret
          exact ⟨_, _, rfl, by rw [k2.out, hUo.out]; exact hr9, rfl⟩
  | false =>
    cases hb2 : fcmp .gtr .f64 (frF t) q25 with
    | true =>
      have k1 : Hid (sZ t = fop .mul .f64 (fop .sub .f64 half64 (frF t)) tau64) := by unfold Hid sZ sF2 sF1; rw [hb1]; simp only [Bool.false_eq_true, if_false]; rw [hb2]; rfl
      have k2 : Hid (sinF t = sO t) := by unfold Hid sinF; rw [hb1]; rfl
      go_enter Try.func184, Try.ntmps184
      go_wp2_with (first | (go_at_call 183; refine (fraction_any _ _ hb ht _).mono ?_; rintro _ _ ⟨rf, nf, rfl, hf, rfl⟩) | (refine wl_cmp rfl rfl rfl rfl rfl hf hh hb1 ?_) | (refine wl_cmp rfl rfl rfl rfl rfl hf hq hb2 ?_) | (refine wl_bin rfl rfl rfl rfl rfl hh hf ?_; intro rb nrb hrb) | (refine wl_bin rfl rfl rfl rfl rfl hrb htau ?_; intro rz nrz hrz) | (refine wl_bin rfl rfl rfl rfl rfl hrz hrz ?_; intro ru nru hru))
      obtain ⟨U, hU⟩ : ∃ U, fop .mul .f64 (sZ t) (sZ t) = U := ⟨_, rfl⟩
      have hz : Is .f64 rz (sZ t) := by rw [k1.out]; exact hrz
      have hu : Is .f64 ru U := by rw [← hU, k1.out]; exact hru
      have hUo : Hid (sO t = fop .mul .f64 (sZ t) (pK U 8)) := by unfold Hid; rw [sO_eq, hU]
      clear hU hrz hru k1
      go_loopw [7, 8] (fun p i wr => ∃ (j n0 bp : Nat), j ≤ 8 ∧ i = .int .i64 (8 - (j : Int)) ∧ p = .float .f64 bp ∧ Is .f64 bp (pK U j) ∧ wr = w.drewN n0) (fun _ i _ => (intOf i).toNat)
      case atStart => exact ⟨0, _, one64, by omega, rfl, rfl, h1, rfl⟩
      case round =>
        obtain ⟨j, n0, bp, hj, rfl, rfl, hp, rfl⟩ := hrel
        by_cases hlt : j < 8
        · obtain ⟨K, hK⟩ : ∃ K : Int, 8 - (j : Int) = K := ⟨_, rfl⟩
          rw [hK]
          have hK1 : 1 ≤ K := by omega
          have hK8 : K ≤ 8 := by omega
          have hD : Is .f64 (floatOfInt .f64 (2 * K * (2 * K + 1))) (dK (8 - j)) := by
            have e : K = ((8 - j : Nat) : Int) := by omega
            rw [e]; exact is_of (nan_of (dK_facts (8 - j) (by omega) (by omega)).1)
          have hp2 : (2 * K) * (2 * K + 1) ≤ 16 * 17 := Int.mul_le_mul (by omega) (by omega) (by omega) (by omega)
          have hp3 : 0 ≤ (2 * K) * (2 * K + 1) := Int.mul_nonneg (by omega) (by omega)
          have e1 : IntKind.i64.wrap (2 * K) = 2 * K := IntWalk.i64_in _ (by omega)
          have e2 : IntKind.i64.wrap (2 * K + 1) = 2 * K + 1 := IntWalk.i64_in _ (by omega)
          have e3 : IntKind.i64.wrap (2 * K * (2 * K + 1)) = 2 * K * (2 * K + 1) := IntWalk.i64_in _ (by omega)
          have e4 : IntKind.i64.wrap (K - 1) = K - 1 := IntWalk.i64_in _ (by omega)
          have HK := Lib.hid hK
          clear hK hp2 hp3
          go_wp2_with (first | (refine wl_bin rfl rfl rfl rfl rfl hu hp ?_; intro r5 nr5 hr5) | (refine wl_bin rfl rfl rfl rfl rfl hr5 hD ?_; intro r6 nr6 hr6) | (refine wl_bin rfl rfl rfl rfl rfl h1 hr6 ?_; intro r7 nr7 hr7))
          clear e1 e2 e3 e4
          go_roundw
          case rel =>
            refine ⟨j + 1, _, r7, by omega, by have := HK.out; congr 1; omega, rfl, ?_, rfl⟩
            exact hr7
          case measure => have := HK.out; simp [intOf]; omega
        · obtain rfl : j = 8 := by omega
          go_wp2_with (first | (refine wl_bin rfl rfl rfl rfl rfl hz hp ?_; intro r8 nr8 hr8))
          go_ret
          exact ⟨_, _, rfl, by rw [k2.out, hUo.out]; exact hr8, rfl⟩
    | false =>
      have k1 : Hid (sZ t = fop .mul .f64 (frF t) tau64) := by unfold Hid sZ sF2 sF1; rw [hb1]; simp only [Bool.false_eq_true, if_false]; rw [hb2]; rfl
      have k2 : Hid (sinF t = sO t) := by unfold Hid sinF; rw [hb1]; rfl
      go_enter Try.func184, Try.ntmps184
      go_wp2_with (first | (go_at_call 183; refine (fraction_any _ _ hb ht _).mono ?_; rintro _ _ ⟨rf, nf, rfl, hf, rfl⟩) | (refine wl_cmp rfl rfl rfl rfl rfl hf hh hb1 ?_) | (refine wl_cmp rfl rfl rfl rfl rfl hf hq hb2 ?_) | (refine wl_bin rfl rfl rfl rfl rfl hf htau ?_; intro rz nrz hrz) | (refine wl_bin rfl rfl rfl rfl rfl hrz hrz ?_; intro ru nru hru))
      obtain ⟨U, hU⟩ : ∃ U, fop .mul .f64 (sZ t) (sZ t) = U := ⟨_, rfl⟩
      have hz : Is .f64 rz (sZ t) := by rw [k1.out]; exact hrz
      have hu : Is .f64 ru U := by rw [← hU, k1.out]; exact hru
      have hUo : Hid (sO t = fop .mul .f64 (sZ t) (pK U 8)) := by unfold Hid; rw [sO_eq, hU]
      clear hU hrz hru k1
      go_loopw [7, 8] (fun p i wr => ∃ (j n0 bp : Nat), j ≤ 8 ∧ i = .int .i64 (8 - (j : Int)) ∧ p = .float .f64 bp ∧ Is .f64 bp (pK U j) ∧ wr = w.drewN n0) (fun _ i _ => (intOf i).toNat)
      case atStart => exact ⟨0, _, one64, by omega, rfl, rfl, h1, rfl⟩
      case round =>
        obtain ⟨j, n0, bp, hj, rfl, rfl, hp, rfl⟩ := hrel
        by_cases hlt : j < 8
        · obtain ⟨K, hK⟩ : ∃ K : Int, 8 - (j : Int) = K := ⟨_, rfl⟩
          rw [hK]
          have hK1 : 1 ≤ K := by omega
          have hK8 : K ≤ 8 := by omega
          have hD : Is .f64 (floatOfInt .f64 (2 * K * (2 * K + 1))) (dK (8 - j)) := by
            have e : K = ((8 - j : Nat) : Int) := by omega
            rw [e]; exact is_of (nan_of (dK_facts (8 - j) (by omega) (by omega)).1)
          have hp2 : (2 * K) * (2 * K + 1) ≤ 16 * 17 := Int.mul_le_mul (by omega) (by omega) (by omega) (by omega)
          have hp3 : 0 ≤ (2 * K) * (2 * K + 1) := Int.mul_nonneg (by omega) (by omega)
          have e1 : IntKind.i64.wrap (2 * K) = 2 * K := IntWalk.i64_in _ (by omega)
          have e2 : IntKind.i64.wrap (2 * K + 1) = 2 * K + 1 := IntWalk.i64_in _ (by omega)
          have e3 : IntKind.i64.wrap (2 * K * (2 * K + 1)) = 2 * K * (2 * K + 1) := IntWalk.i64_in _ (by omega)
          have e4 : IntKind.i64.wrap (K - 1) = K - 1 := IntWalk.i64_in _ (by omega)
          have HK := Lib.hid hK
          clear hK hp2 hp3
          go_wp2_with (first | (refine wl_bin rfl rfl rfl rfl rfl hu hp ?_; intro r5 nr5 hr5) | (refine wl_bin rfl rfl rfl rfl rfl hr5 hD ?_; intro r6 nr6 hr6) | (refine wl_bin rfl rfl rfl rfl rfl h1 hr6 ?_; intro r7 nr7 hr7))
          clear e1 e2 e3 e4
          go_roundw
          case rel =>
            refine ⟨j + 1, _, r7, by omega, by have := HK.out; congr 1; omega, rfl, ?_, rfl⟩
            exact hr7
          case measure => have := HK.out; simp [intOf]; omega
        · obtain rfl : j = 8 := by omega
          go_wp2_with (first | (refine wl_bin rfl rfl rfl rfl rfl hz hp ?_; intro r8 nr8 hr8))
          go_ret
          exact ⟨_, _, rfl, by rw [k2.out, hUo.out]; exact hr8, rfl⟩
set_option maxHeartbeats 8000000 in
theorem sineS_any (b t : Nat) (hb : Is .f64 b t) (ht : mg .f64 t < c52) (w : World) : Calls Try.prog 180 #[.float .f64 b] w (GivesF .f64 (sinF t) w) := by
  have h0 := is_zero64
  have h1 := is_one64
  have hh := is_half
  have hq := is_q25
  have htau := is_tau
  have hc52 := is_c52
  have hn52 := is_n52
  have hti := Nat.lt_trans ht c52_inf
  have hn := nan_of hti
  have hff : fcmp .neq .f64 (fop .sub .f64 t t) 0 = false := neq_self hti
  obtain ⟨hg1, hg2⟩ := far_geq ht
  have hint := trunc_int hti
  have hrg : -9223372036854775808 ≤ whI t ∧ whI t ≤ 9223372036854775807 := by have := whl_lt ht; unfold whI; split <;> omega
  have hwI : Is .f64 (floatOfInt .f64 (whI t)) (whF t) := is_of (nan_of (whF_parts ht).1)
  cases hl : fcmp .lss .f64 (fr0 t) 0 with
  | true =>
    have HFE : Hid (fop .add .f64 (fop .sub .f64 t (whF t)) one64 = frF t) := by unfold Hid frF; rw [hl]; rfl
    cases hb1 : fcmp .geq .f64 (frF t) half64 with
    | true =>
      cases hb2 : fcmp .gtr .f64 (fop .sub .f64 (frF t) half64) q25 with
      | true =>
        have k1 : Hid (sZ t = fop .mul .f64 (fop .sub .f64 half64 (fop .sub .f64 (frF t) half64)) tau64) := by unfold Hid sZ sF2 sF1; rw [hb1]; simp only [if_true]; rw [hb2]; rfl
        have k2 : Hid (sinF t = fneg .f64 (sO t)) := by unfold Hid sinF; rw [hb1]; rfl
        go_enter Try.func180, Try.ntmps180
        go_wp2_with (first | (refine wl_bin rfl rfl rfl rfl rfl hb hb ?_; intro rs nrs hrs) | (refine wl_cmp rfl rfl rfl rfl rfl hrs h0 hff ?_) | (refine wl_cmp rfl rfl rfl rfl rfl hb hc52 hg1 ?_) | (refine wl_cmp rfl rfl rfl rfl rfl hb hn52 hg2 ?_) | (refine wl_toInt rfl rfl rfl (by first | exact rfl | kernel_rfl) (by kernel_rfl) hb hn hint hrg ?_) | (refine wl_bin rfl rfl rfl rfl rfl hb hwI ?_; intro rq nrq hrq) | (refine wl_cmp rfl rfl rfl rfl rfl hrq h0 hl ?_) | (refine wl_bin rfl rfl rfl rfl rfl hrq h1 ?_; intro rg nrg hrg) | (refine wl_cmp rfl rfl rfl rfl rfl (cast_is hrg HFE.out) hh hb1 ?_) | (refine wl_bin rfl rfl rfl rfl rfl (cast_is hrg HFE.out) hh ?_; intro ra nra hra) | (refine wl_cmp rfl rfl rfl rfl rfl hra hq hb2 ?_) | (refine wl_bin rfl rfl rfl rfl rfl hh hra ?_; intro rb nrb hrb) | (refine wl_bin rfl rfl rfl rfl rfl hrb htau ?_; intro rz nrz hrz) | (refine wl_bin rfl rfl rfl rfl rfl hrz hrz ?_; intro ru nru hru))
        obtain ⟨U, hU⟩ : ∃ U, fop .mul .f64 (sZ t) (sZ t) = U := ⟨_, rfl⟩
        have hz : Is .f64 rz (sZ t) := by rw [k1.out]; exact hrz
        have hu : Is .f64 ru U := by rw [← hU, k1.out]; exact hru
        have hUo : Hid (sO t = fop .mul .f64 (sZ t) (pK U 8)) := by unfold Hid; rw [sO_eq, hU]
        clear hU hrz hru k1
        go_loopw [7, 8] (fun p i wr => ∃ (j n0 bp : Nat), j ≤ 8 ∧ i = .int .i64 (8 - (j : Int)) ∧ p = .float .f64 bp ∧ Is .f64 bp (pK U j) ∧ wr = w.drewN n0) (fun _ i _ => (intOf i).toNat)
        case atStart => exact ⟨0, _, one64, by omega, rfl, rfl, h1, rfl⟩
        case round =>
          obtain ⟨j, n0, bp, hj, rfl, rfl, hp, rfl⟩ := hrel
          by_cases hlt : j < 8
          · obtain ⟨K, hK⟩ : ∃ K : Int, 8 - (j : Int) = K := ⟨_, rfl⟩
            rw [hK]
            have hK1 : 1 ≤ K := by omega
            have hK8 : K ≤ 8 := by omega
            have hD : Is .f64 (floatOfInt .f64 (2 * K * (2 * K + 1))) (dK (8 - j)) := by
              have e : K = ((8 - j : Nat) : Int) := by omega
              rw [e]; exact is_of (nan_of (dK_facts (8 - j) (by omega) (by omega)).1)
            have hp2 : (2 * K) * (2 * K + 1) ≤ 16 * 17 := Int.mul_le_mul (by omega) (by omega) (by omega) (by omega)
            have hp3 : 0 ≤ (2 * K) * (2 * K + 1) := Int.mul_nonneg (by omega) (by omega)
            have e1 : IntKind.i64.wrap (2 * K) = 2 * K := IntWalk.i64_in _ (by omega)
            have e2 : IntKind.i64.wrap (2 * K + 1) = 2 * K + 1 := IntWalk.i64_in _ (by omega)
            have e3 : IntKind.i64.wrap (2 * K * (2 * K + 1)) = 2 * K * (2 * K + 1) := IntWalk.i64_in _ (by omega)
            have e4 : IntKind.i64.wrap (K - 1) = K - 1 := IntWalk.i64_in _ (by omega)
            have HK := Lib.hid hK
            clear hK hp2 hp3
            go_wp2_with (first | (refine wl_bin rfl rfl rfl rfl rfl hu hp ?_; intro r5 nr5 hr5) | (refine wl_bin rfl rfl rfl rfl rfl hr5 hD ?_; intro r6 nr6 hr6) | (refine wl_bin rfl rfl rfl rfl rfl h1 hr6 ?_; intro r7 nr7 hr7))
            clear e1 e2 e3 e4
            go_roundw
            case rel =>
              refine ⟨j + 1, _, r7, by omega, by have := HK.out; congr 1; omega, rfl, ?_, rfl⟩
              exact hr7
            case measure => have := HK.out; simp [intOf]; omega
          · obtain rfl : j = 8 := by omega
            go_wp2_with (first | (refine wl_bin rfl rfl rfl rfl rfl hz hp ?_; intro r8 nr8 hr8) | (refine wl_neg rfl rfl rfl hr8 ?_; intro r9 hr9))
            go_ret
            exact ⟨_, _, rfl, by rw [k2.out, hUo.out]; exact hr9, rfl⟩
      | false =>
        have k1 : Hid (sZ t = fop .mul .f64 (fop .sub .f64 (frF t) half64) tau64) := by unfold Hid sZ sF2 sF1; rw [hb1]; simp only [if_true]; rw [hb2]; rfl
        have k2 : Hid (sinF t = fneg .f64 (sO t)) := by unfold Hid sinF; rw [hb1]; rfl
        go_enter Try.func180, Try.ntmps180
        go_wp2_with (first | (refine wl_bin rfl rfl rfl rfl rfl hb hb ?_; intro rs nrs hrs) | (refine wl_cmp rfl rfl rfl rfl rfl hrs h0 hff ?_) | (refine wl_cmp rfl rfl rfl rfl rfl hb hc52 hg1 ?_) | (refine wl_cmp rfl rfl rfl rfl rfl hb hn52 hg2 ?_) | (refine wl_toInt rfl rfl rfl (by first | exact rfl | kernel_rfl) (by kernel_rfl) hb hn hint hrg ?_) | (refine wl_bin rfl rfl rfl rfl rfl hb hwI ?_; intro rq nrq hrq) | (refine wl_cmp rfl rfl rfl rfl rfl hrq h0 hl ?_) | (refine wl_bin rfl rfl rfl rfl rfl hrq h1 ?_; intro rg nrg hrg) | (refine wl_cmp rfl rfl rfl rfl rfl (cast_is hrg HFE.out) hh hb1 ?_) | (refine wl_bin rfl rfl rfl rfl rfl (cast_is hrg HFE.out) hh ?_; intro ra nra hra) | (refine wl_cmp rfl rfl rfl rfl rfl hra hq hb2 ?_) | (refine wl_bin rfl rfl rfl rfl rfl hra htau ?_; intro rz nrz hrz) | (refine wl_bin rfl rfl rfl rfl rfl hrz hrz ?_; intro ru nru hru))
        obtain ⟨U, hU⟩ : ∃ U, fop .mul .f64 (sZ t) (sZ t) = U := ⟨_, rfl⟩
        have hz : Is .f64 rz (sZ t) := by rw [k1.out]; exact hrz
        have hu : Is .f64 ru U := by rw [← hU, k1.out]; exact hru
        have hUo : Hid (sO t = fop .mul .f64 (sZ t) (pK U 8)) := by unfold Hid; rw [sO_eq, hU]
        clear hU hrz hru k1
        go_loopw [7, 8] (fun p i wr => ∃ (j n0 bp : Nat), j ≤ 8 ∧ i = .int .i64 (8 - (j : Int)) ∧ p = .float .f64 bp ∧ Is .f64 bp (pK U j) ∧ wr = w.drewN n0) (fun _ i _ => (intOf i).toNat)
        case atStart => exact ⟨0, _, one64, by omega, rfl, rfl, h1, rfl⟩
        case round =>
          obtain ⟨j, n0, bp, hj, rfl, rfl, hp, rfl⟩ := hrel
          by_cases hlt : j < 8
          · obtain ⟨K, hK⟩ : ∃ K : Int, 8 - (j : Int) = K := ⟨_, rfl⟩
            rw [hK]
            have hK1 : 1 ≤ K := by omega
            have hK8 : K ≤ 8 := by omega
            have hD : Is .f64 (floatOfInt .f64 (2 * K * (2 * K + 1))) (dK (8 - j)) := by
              have e : K = ((8 - j : Nat) : Int) := by omega
              rw [e]; exact is_of (nan_of (dK_facts (8 - j) (by omega) (by omega)).1)
            have hp2 : (2 * K) * (2 * K + 1) ≤ 16 * 17 := Int.mul_le_mul (by omega) (by omega) (by omega) (by omega)
            have hp3 : 0 ≤ (2 * K) * (2 * K + 1) := Int.mul_nonneg (by omega) (by omega)
            have e1 : IntKind.i64.wrap (2 * K) = 2 * K := IntWalk.i64_in _ (by omega)
            have e2 : IntKind.i64.wrap (2 * K + 1) = 2 * K + 1 := IntWalk.i64_in _ (by omega)
            have e3 : IntKind.i64.wrap (2 * K * (2 * K + 1)) = 2 * K * (2 * K + 1) := IntWalk.i64_in _ (by omega)
            have e4 : IntKind.i64.wrap (K - 1) = K - 1 := IntWalk.i64_in _ (by omega)
            have HK := Lib.hid hK
            clear hK hp2 hp3
            go_wp2_with (first | (refine wl_bin rfl rfl rfl rfl rfl hu hp ?_; intro r5 nr5 hr5) | (refine wl_bin rfl rfl rfl rfl rfl hr5 hD ?_; intro r6 nr6 hr6) | (refine wl_bin rfl rfl rfl rfl rfl h1 hr6 ?_; intro r7 nr7 hr7))
            clear e1 e2 e3 e4
            go_roundw
            case rel =>
              refine ⟨j + 1, _, r7, by omega, by have := HK.out; congr 1; omega, rfl, ?_, rfl⟩
              exact hr7
            case measure => have := HK.out; simp [intOf]; omega
          · obtain rfl : j = 8 := by omega
            go_wp2_with (first | (refine wl_bin rfl rfl rfl rfl rfl hz hp ?_; intro r8 nr8 hr8) | (refine wl_neg rfl rfl rfl hr8 ?_; intro r9 hr9))
            go_ret
            exact ⟨_, _, rfl, by rw [k2.out, hUo.out]; exact hr9, rfl⟩
    | false =>
      cases hb2 : fcmp .gtr .f64 (frF t) q25 with
      | true =>
        have k1 : Hid (sZ t = fop .mul .f64 (fop .sub .f64 half64 (frF t)) tau64) := by unfold Hid sZ sF2 sF1; rw [hb1]; simp only [Bool.false_eq_true, if_false]; rw [hb2]; rfl
        have k2 : Hid (sinF t = sO t) := by unfold Hid sinF; rw [hb1]; rfl
        go_enter Try.func180, Try.ntmps180
        go_wp2_with (first | (refine wl_bin rfl rfl rfl rfl rfl hb hb ?_; intro rs nrs hrs) | (refine wl_cmp rfl rfl rfl rfl rfl hrs h0 hff ?_) | (refine wl_cmp rfl rfl rfl rfl rfl hb hc52 hg1 ?_) | (refine wl_cmp rfl rfl rfl rfl rfl hb hn52 hg2 ?_) | (refine wl_toInt rfl rfl rfl (by first | exact rfl | kernel_rfl) (by kernel_rfl) hb hn hint hrg ?_) | (refine wl_bin rfl rfl rfl rfl rfl hb hwI ?_; intro rq nrq hrq) | (refine wl_cmp rfl rfl rfl rfl rfl hrq h0 hl ?_) | (refine wl_bin rfl rfl rfl rfl rfl hrq h1 ?_; intro rg nrg hrg) | (refine wl_cmp rfl rfl rfl rfl rfl (cast_is hrg HFE.out) hh hb1 ?_) | (refine wl_cmp rfl rfl rfl rfl rfl (cast_is hrg HFE.out) hq hb2 ?_) | (refine wl_bin rfl rfl rfl rfl rfl hh (cast_is hrg HFE.out) ?_; intro rb nrb hrb) | (refine wl_bin rfl rfl rfl rfl rfl hrb htau ?_; intro rz nrz hrz) | (refine wl_bin rfl rfl rfl rfl rfl hrz hrz ?_; intro ru nru hru))
        obtain ⟨U, hU⟩ : ∃ U, fop .mul .f64 (sZ t) (sZ t) = U := ⟨_, rfl⟩
        have hz : Is .f64 rz (sZ t) := by rw [k1.out]; exact hrz
        have hu : Is .f64 ru U := by rw [← hU, k1.out]; exact hru
        have hUo : Hid (sO t = fop .mul .f64 (sZ t) (pK U 8)) := by unfold Hid; rw [sO_eq, hU]
        clear hU hrz hru k1
        go_loopw [7, 8] (fun p i wr => ∃ (j n0 bp : Nat), j ≤ 8 ∧ i = .int .i64 (8 - (j : Int)) ∧ p = .float .f64 bp ∧ Is .f64 bp (pK U j) ∧ wr = w.drewN n0) (fun _ i _ => (intOf i).toNat)
        case atStart => exact ⟨0, _, one64, by omega, rfl, rfl, h1, rfl⟩
        case round =>
          obtain ⟨j, n0, bp, hj, rfl, rfl, hp, rfl⟩ := hrel
          by_cases hlt : j < 8
          · obtain ⟨K, hK⟩ : ∃ K : Int, 8 - (j : Int) = K := ⟨_, rfl⟩
            rw [hK]
            have hK1 : 1 ≤ K := by omega
            have hK8 : K ≤ 8 := by omega
            have hD : Is .f64 (floatOfInt .f64 (2 * K * (2 * K + 1))) (dK (8 - j)) := by
              have e : K = ((8 - j : Nat) : Int) := by omega
              rw [e]; exact is_of (nan_of (dK_facts (8 - j) (by omega) (by omega)).1)
            have hp2 : (2 * K) * (2 * K + 1) ≤ 16 * 17 := Int.mul_le_mul (by omega) (by omega) (by omega) (by omega)
            have hp3 : 0 ≤ (2 * K) * (2 * K + 1) := Int.mul_nonneg (by omega) (by omega)
            have e1 : IntKind.i64.wrap (2 * K) = 2 * K := IntWalk.i64_in _ (by omega)
            have e2 : IntKind.i64.wrap (2 * K + 1) = 2 * K + 1 := IntWalk.i64_in _ (by omega)
            have e3 : IntKind.i64.wrap (2 * K * (2 * K + 1)) = 2 * K * (2 * K + 1) := IntWalk.i64_in _ (by omega)
            have e4 : IntKind.i64.wrap (K - 1) = K - 1 := IntWalk.i64_in _ (by omega)
            have HK := Lib.hid hK
            clear hK hp2 hp3
            go_wp2_with (first | (refine wl_bin rfl rfl rfl rfl rfl hu hp ?_; intro r5 nr5 hr5) | (refine wl_bin rfl rfl rfl rfl rfl hr5 hD ?_; intro r6 nr6 hr6) | (refine wl_bin rfl rfl rfl rfl rfl h1 hr6 ?_; intro r7 nr7 hr7))
            clear e1 e2 e3 e4
            go_roundw
            case rel =>
              refine ⟨j + 1, _, r7, by omega, by have := HK.out; congr 1; omega, rfl, ?_, rfl⟩
              exact hr7
            case measure => have := HK.out; simp [intOf]; omega
          · obtain rfl : j = 8 := by omega
            go_wp2_with (first | (refine wl_bin rfl rfl rfl rfl rfl hz hp ?_; intro r8 nr8 hr8))
            go_ret
            exact ⟨_, _, rfl, by rw [k2.out, hUo.out]; exact hr8, rfl⟩
      | false =>
        have k1 : Hid (sZ t = fop .mul .f64 (frF t) tau64) := by unfold Hid sZ sF2 sF1; rw [hb1]; simp only [Bool.false_eq_true, if_false]; rw [hb2]; rfl
        have k2 : Hid (sinF t = sO t) := by unfold Hid sinF; rw [hb1]; rfl
        go_enter Try.func180, Try.ntmps180
        go_wp2_with (first | (refine wl_bin rfl rfl rfl rfl rfl hb hb ?_; intro rs nrs hrs) | (refine wl_cmp rfl rfl rfl rfl rfl hrs h0 hff ?_) | (refine wl_cmp rfl rfl rfl rfl rfl hb hc52 hg1 ?_) | (refine wl_cmp rfl rfl rfl rfl rfl hb hn52 hg2 ?_) | (refine wl_toInt rfl rfl rfl (by first | exact rfl | kernel_rfl) (by kernel_rfl) hb hn hint hrg ?_) | (refine wl_bin rfl rfl rfl rfl rfl hb hwI ?_; intro rq nrq hrq) | (refine wl_cmp rfl rfl rfl rfl rfl hrq h0 hl ?_) | (refine wl_bin rfl rfl rfl rfl rfl hrq h1 ?_; intro rg nrg hrg) | (refine wl_cmp rfl rfl rfl rfl rfl (cast_is hrg HFE.out) hh hb1 ?_) | (refine wl_cmp rfl rfl rfl rfl rfl (cast_is hrg HFE.out) hq hb2 ?_) | (refine wl_bin rfl rfl rfl rfl rfl (cast_is hrg HFE.out) htau ?_; intro rz nrz hrz) | (refine wl_bin rfl rfl rfl rfl rfl hrz hrz ?_; intro ru nru hru))
        obtain ⟨U, hU⟩ : ∃ U, fop .mul .f64 (sZ t) (sZ t) = U := ⟨_, rfl⟩
        have hz : Is .f64 rz (sZ t) := by rw [k1.out]; exact hrz
        have hu : Is .f64 ru U := by rw [← hU, k1.out]; exact hru
        have hUo : Hid (sO t = fop .mul .f64 (sZ t) (pK U 8)) := by unfold Hid; rw [sO_eq, hU]
        clear hU hrz hru k1
        go_loopw [7, 8] (fun p i wr => ∃ (j n0 bp : Nat), j ≤ 8 ∧ i = .int .i64 (8 - (j : Int)) ∧ p = .float .f64 bp ∧ Is .f64 bp (pK U j) ∧ wr = w.drewN n0) (fun _ i _ => (intOf i).toNat)
        case atStart => exact ⟨0, _, one64, by omega, rfl, rfl, h1, rfl⟩
        case round =>
          obtain ⟨j, n0, bp, hj, rfl, rfl, hp, rfl⟩ := hrel
          by_cases hlt : j < 8
          · obtain ⟨K, hK⟩ : ∃ K : Int, 8 - (j : Int) = K := ⟨_, rfl⟩
            rw [hK]
            have hK1 : 1 ≤ K := by omega
            have hK8 : K ≤ 8 := by omega
            have hD : Is .f64 (floatOfInt .f64 (2 * K * (2 * K + 1))) (dK (8 - j)) := by
              have e : K = ((8 - j : Nat) : Int) := by omega
              rw [e]; exact is_of (nan_of (dK_facts (8 - j) (by omega) (by omega)).1)
            have hp2 : (2 * K) * (2 * K + 1) ≤ 16 * 17 := Int.mul_le_mul (by omega) (by omega) (by omega) (by omega)
            have hp3 : 0 ≤ (2 * K) * (2 * K + 1) := Int.mul_nonneg (by omega) (by omega)
            have e1 : IntKind.i64.wrap (2 * K) = 2 * K := IntWalk.i64_in _ (by omega)
            have e2 : IntKind.i64.wrap (2 * K + 1) = 2 * K + 1 := IntWalk.i64_in _ (by omega)
            have e3 : IntKind.i64.wrap (2 * K * (2 * K + 1)) = 2 * K * (2 * K + 1) := IntWalk.i64_in _ (by omega)
            have e4 : IntKind.i64.wrap (K - 1) = K - 1 := IntWalk.i64_in _ (by omega)
            have HK := Lib.hid hK
            clear hK hp2 hp3
            go_wp2_with (first | (refine wl_bin rfl rfl rfl rfl rfl hu hp ?_; intro r5 nr5 hr5) | (refine wl_bin rfl rfl rfl rfl rfl hr5 hD ?_; intro r6 nr6 hr6) | (refine wl_bin rfl rfl rfl rfl rfl h1 hr6 ?_; intro r7 nr7 hr7))
            clear e1 e2 e3 e4
            go_roundw
            case rel =>
              refine ⟨j + 1, _, r7, by omega, by have := HK.out; congr 1; omega, rfl, ?_, rfl⟩
              exact hr7
            case measure => have := HK.out; simp [intOf]; omega
          · obtain rfl : j = 8 := by omega
            go_wp2_with (first | (refine wl_bin rfl rfl rfl rfl rfl hz hp ?_; intro r8 nr8 hr8))
            go_ret
            exact ⟨_, _, rfl, by rw [k2.out, hUo.out]; exact hr8, rfl⟩
  | false =>
    have HFE : Hid (fop .sub .f64 t (whF t) = frF t) := by unfold Hid frF; rw [hl]; rfl
    cases hb1 : fcmp .geq .f64 (frF t) half64 with
    | true =>
      cases hb2 : fcmp .gtr .f64 (fop .sub .f64 (frF t) half64) q25 with
      | true =>
        have k1 : Hid (sZ t = fop .mul .f64 (fop .sub .f64 half64 (fop .sub .f64 (frF t) half64)) tau64) := by unfold Hid sZ sF2 sF1; rw [hb1]; simp only [if_true]; rw [hb2]; rfl
        have k2 : Hid (sinF t = fneg .f64 (sO t)) := by unfold Hid sinF; rw [hb1]; rfl
        go_enter Try.func180, Try.ntmps180
        go_wp2_with (first | (refine wl_bin rfl rfl rfl rfl rfl hb hb ?_; intro rs nrs hrs) | (refine wl_cmp rfl rfl rfl rfl rfl hrs h0 hff ?_) | (refine wl_cmp rfl rfl rfl rfl rfl hb hc52 hg1 ?_) | (refine wl_cmp rfl rfl rfl rfl rfl hb hn52 hg2 ?_) | (refine wl_toInt rfl rfl rfl (by first | exact rfl | kernel_rfl) (by kernel_rfl) hb hn hint hrg ?_) | (refine wl_bin rfl rfl rfl rfl rfl hb hwI ?_; intro rq nrq hrq) | (refine wl_cmp rfl rfl rfl rfl rfl hrq h0 hl ?_) | (refine wl_cmp rfl rfl rfl rfl rfl (cast_is hrq HFE.out) hh hb1 ?_) | (refine wl_bin rfl rfl rfl rfl rfl (cast_is hrq HFE.out) hh ?_; intro ra nra hra) | (refine wl_cmp rfl rfl rfl rfl rfl hra hq hb2 ?_) | (refine wl_bin rfl rfl rfl rfl rfl hh hra ?_; intro rb nrb hrb) | (refine wl_bin rfl rfl rfl rfl rfl hrb htau ?_; intro rz nrz hrz) | (refine wl_bin rfl rfl rfl rfl rfl hrz hrz ?_; intro ru nru hru))
        obtain ⟨U, hU⟩ : ∃ U, fop .mul .f64 (sZ t) (sZ t) = U := ⟨_, rfl⟩
        have hz : Is .f64 rz (sZ t) := by rw [k1.out]; exact hrz
        have hu : Is .f64 ru U := by rw [← hU, k1.out]; exact hru
        have hUo : Hid (sO t = fop .mul .f64 (sZ t) (pK U 8)) := by unfold Hid; rw [sO_eq, hU]
        clear hU hrz hru k1
        go_loopw [7, 8] (fun p i wr => ∃ (j n0 bp : Nat), j ≤ 8 ∧ i = .int .i64 (8 - (j : Int)) ∧ p = .float .f64 bp ∧ Is .f64 bp (pK U j) ∧ wr = w.drewN n0) (fun _ i _ => (intOf i).toNat)
        case atStart => exact ⟨0, _, one64, by omega, rfl, rfl, h1, rfl⟩
        case round =>
          obtain ⟨j, n0, bp, hj, rfl, rfl, hp, rfl⟩ := hrel
          by_cases hlt : j < 8
          · obtain ⟨K, hK⟩ : ∃ K : Int, 8 - (j : Int) = K := ⟨_, rfl⟩
            rw [hK]
            have hK1 : 1 ≤ K := by omega
            have hK8 : K ≤ 8 := by omega
            have hD : Is .f64 (floatOfInt .f64 (2 * K * (2 * K + 1))) (dK (8 - j)) := by
              have e : K = ((8 - j : Nat) : Int) := by omega
              rw [e]; exact is_of (nan_of (dK_facts (8 - j) (by omega) (by omega)).1)
            have hp2 : (2 * K) * (2 * K + 1) ≤ 16 * 17 := Int.mul_le_mul (by omega) (by omega) (by omega) (by omega)
            have hp3 : 0 ≤ (2 * K) * (2 * K + 1) := Int.mul_nonneg (by omega) (by omega)
            have e1 : IntKind.i64.wrap (2 * K) = 2 * K := IntWalk.i64_in _ (by omega)
            have e2 : IntKind.i64.wrap (2 * K + 1) = 2 * K + 1 := IntWalk.i64_in _ (by omega)
            have e3 : IntKind.i64.wrap (2 * K * (2 * K + 1)) = 2 * K * (2 * K + 1) := IntWalk.i64_in _ (by omega)
            have e4 : IntKind.i64.wrap (K - 1) = K - 1 := IntWalk.i64_in _ (by omega)
            have HK := Lib.hid hK
            clear hK hp2 hp3
            go_wp2_with (first | (refine wl_bin rfl rfl rfl rfl rfl hu hp ?_; intro r5 nr5 hr5) | (refine wl_bin rfl rfl rfl rfl rfl hr5 hD ?_; intro r6 nr6 hr6) | (refine wl_bin rfl rfl rfl rfl rfl h1 hr6 ?_; intro r7 nr7 hr7))
            clear e1 e2 e3 e4
            go_roundw
            case rel =>
              refine ⟨j + 1, _, r7, by omega, by have := HK.out; congr 1; omega, rfl, ?_, rfl⟩
              exact hr7
            case measure => have := HK.out; simp [intOf]; omega
          · obtain rfl : j = 8 := by omega
            go_wp2_with (first | (refine wl_bin rfl rfl rfl rfl rfl hz hp ?_; intro r8 nr8 hr8) | (refine wl_neg rfl rfl rfl hr8 ?_; intro r9 hr9))
            go_ret
            exact ⟨_, _, rfl, by rw [k2.out, hUo.out]; exact hr9, rfl⟩
      | false =>
        have k1 : Hid (sZ t = fop .mul .f64 (fop .sub .f64 (frF t) half64) tau64) := by unfold Hid sZ sF2 sF1; rw [hb1]; simp only [if_true]; rw [hb2]; rfl
        have k2 : Hid (sinF t = fneg .f64 (sO t)) := by unfold Hid sinF; rw [hb1]; rfl
        go_enter Try.func180, Try.ntmps180
        go_wp2_with (first | (refine wl_bin rfl rfl rfl rfl rfl hb hb ?_; intro rs nrs hrs) | (refine wl_cmp rfl rfl rfl rfl rfl hrs h0 hff ?_) | (refine wl_cmp rfl rfl rfl rfl rfl hb hc52 hg1 ?_) | (refine wl_cmp rfl rfl rfl rfl rfl hb hn52 hg2 ?_) | (refine wl_toInt rfl rfl rfl (by first | exact rfl | kernel_rfl) (by kernel_rfl) hb hn hint hrg ?_) | (refine wl_bin rfl rfl rfl rfl rfl hb hwI ?_; intro rq nrq hrq) | (refine wl_cmp rfl rfl rfl rfl rfl hrq h0 hl ?_) | (refine wl_cmp rfl rfl rfl rfl rfl (cast_is hrq HFE.out) hh hb1 ?_) | (refine wl_bin rfl rfl rfl rfl rfl (cast_is hrq HFE.out) hh ?_; intro ra nra hra) | (refine wl_cmp rfl rfl rfl rfl rfl hra hq hb2 ?_) | (refine wl_bin rfl rfl rfl rfl rfl hra htau ?_; intro rz nrz hrz) | (refine wl_bin rfl rfl rfl rfl rfl hrz hrz ?_; intro ru nru hru))
        obtain ⟨U, hU⟩ : ∃ U, fop .mul .f64 (sZ t) (sZ t) = U := ⟨_, rfl⟩
        have hz : Is .f64 rz (sZ t) := by rw [k1.out]; exact hrz
        have hu : Is .f64 ru U := by rw [← hU, k1.out]; exact hru
        have hUo : Hid (sO t = fop .mul .f64 (sZ t) (pK U 8)) := by unfold Hid; rw [sO_eq, hU]
        clear hU hrz hru k1
        go_loopw [7, 8] (fun p i wr => ∃ (j n0 bp : Nat), j ≤ 8 ∧ i = .int .i64 (8 - (j : Int)) ∧ p = .float .f64 bp ∧ Is .f64 bp (pK U j) ∧ wr = w.drewN n0) (fun _ i _ => (intOf i).toNat)
        case atStart => exact ⟨0, _, one64, by omega, rfl, rfl, h1, rfl⟩
        case round =>
          obtain ⟨j, n0, bp, hj, rfl, rfl, hp, rfl⟩ := hrel
          by_cases hlt : j < 8
          · obtain ⟨K, hK⟩ : ∃ K : Int, 8 - (j : Int) = K := ⟨_, rfl⟩
            rw [hK]
            have hK1 : 1 ≤ K := by omega
            have hK8 : K ≤ 8 := by omega
            have hD : Is .f64 (floatOfInt .f64 (2 * K * (2 * K + 1))) (dK (8 - j)) := by
              have e : K = ((8 - j : Nat) : Int) := by omega
              rw [e]; exact is_of (nan_of (dK_facts (8 - j) (by omega) (by omega)).1)
            have hp2 : (2 * K) * (2 * K + 1) ≤ 16 * 17 := Int.mul_le_mul (by omega) (by omega) (by omega) (by omega)
            have hp3 : 0 ≤ (2 * K) * (2 * K + 1) := Int.mul_nonneg (by omega) (by omega)
            have e1 : IntKind.i64.wrap (2 * K) = 2 * K := IntWalk.i64_in _ (by omega)
            have e2 : IntKind.i64.wrap (2 * K + 1) = 2 * K + 1 := IntWalk.i64_in _ (by omega)
            have e3 : IntKind.i64.wrap (2 * K * (2 * K + 1)) = 2 * K * (2 * K + 1) := IntWalk.i64_in _ (by omega)
            have e4 : IntKind.i64.wrap (K - 1) = K - 1 := IntWalk.i64_in _ (by omega)
            have HK := Lib.hid hK
            clear hK hp2 hp3
            go_wp2_with (first | (refine wl_bin rfl rfl rfl rfl rfl hu hp ?_; intro r5 nr5 hr5) | (refine wl_bin rfl rfl rfl rfl rfl hr5 hD ?_; intro r6 nr6 hr6) | (refine wl_bin rfl rfl rfl rfl rfl h1 hr6 ?_; intro r7 nr7 hr7))
            clear e1 e2 e3 e4
            go_roundw
            case rel =>
              refine ⟨j + 1, _, r7, by omega, by have := HK.out; congr 1; omega, rfl, ?_, rfl⟩
              exact hr7
            case measure => have := HK.out; simp [intOf]; omega
          · obtain rfl : j = 8 := by omega
            go_wp2_with (first | (refine wl_bin rfl rfl rfl rfl rfl hz hp ?_; intro r8 nr8 hr8) | (refine wl_neg rfl rfl rfl hr8 ?_; intro r9 hr9))
            go_ret
            exact ⟨_, _, rfl, by rw [k2.out, hUo.out]; exact hr9, rfl⟩
    | false =>
      cases hb2 : fcmp .gtr .f64 (frF t) q25 with
      | true =>
        have k1 : Hid (sZ t = fop .mul .f64 (fop .sub .f64 half64 (frF t)) tau64) := by unfold Hid sZ sF2 sF1; rw [hb1]; simp only [Bool.false_eq_true, if_false]; rw [hb2]; rfl
        have k2 : Hid (sinF t = sO t) := by unfold Hid sinF; rw [hb1]; rfl
        go_enter Try.func180, Try.ntmps180
        go_wp2_with (first | (refine wl_bin rfl rfl rfl rfl rfl hb hb ?_; intro rs nrs hrs) | (refine wl_cmp rfl rfl rfl rfl rfl hrs h0 hff ?_) | (refine wl_cmp rfl rfl rfl rfl rfl hb hc52 hg1 ?_) | (refine wl_cmp rfl rfl rfl rfl rfl hb hn52 hg2 ?_) | (refine wl_toInt rfl rfl rfl (by first | exact rfl | kernel_rfl) (by kernel_rfl) hb hn hint hrg ?_) | (refine wl_bin rfl rfl rfl rfl rfl hb hwI ?_; intro rq nrq hrq) | (refine wl_cmp rfl rfl rfl rfl rfl hrq h0 hl ?_) | (refine wl_cmp rfl rfl rfl rfl rfl (cast_is hrq HFE.out) hh hb1 ?_) | (refine wl_cmp rfl rfl rfl rfl rfl (cast_is hrq HFE.out) hq hb2 ?_) | (refine wl_bin rfl rfl rfl rfl rfl hh (cast_is hrq HFE.out) ?_; intro rb nrb hrb) | (refine wl_bin rfl rfl rfl rfl rfl hrb htau ?_; intro rz nrz hrz) | (refine wl_bin rfl rfl rfl rfl rfl hrz hrz ?_; intro ru nru hru))
        obtain ⟨U, hU⟩ : ∃ U, fop .mul .f64 (sZ t) (sZ t) = U := ⟨_, rfl⟩
        have hz : Is .f64 rz (sZ t) := by rw [k1.out]; exact hrz
        have hu : Is .f64 ru U := by rw [← hU, k1.out]; exact hru
        have hUo : Hid (sO t = fop .mul .f64 (sZ t) (pK U 8)) := by unfold Hid; rw [sO_eq, hU]
        clear hU hrz hru k1
        go_loopw [7, 8] (fun p i wr => ∃ (j n0 bp : Nat), j ≤ 8 ∧ i = .int .i64 (8 - (j : Int)) ∧ p = .float .f64 bp ∧ Is .f64 bp (pK U j) ∧ wr = w.drewN n0) (fun _ i _ => (intOf i).toNat)
        case atStart => exact ⟨0, _, one64, by omega, rfl, rfl, h1, rfl⟩
        case round =>
          obtain ⟨j, n0, bp, hj, rfl, rfl, hp, rfl⟩ := hrel
          by_cases hlt : j < 8
          · obtain ⟨K, hK⟩ : ∃ K : Int, 8 - (j : Int) = K := ⟨_, rfl⟩
            rw [hK]
            have hK1 : 1 ≤ K := by omega
            have hK8 : K ≤ 8 := by omega
            have hD : Is .f64 (floatOfInt .f64 (2 * K * (2 * K + 1))) (dK (8 - j)) := by
              have e : K = ((8 - j : Nat) : Int) := by omega
              rw [e]; exact is_of (nan_of (dK_facts (8 - j) (by omega) (by omega)).1)
            have hp2 : (2 * K) * (2 * K + 1) ≤ 16 * 17 := Int.mul_le_mul (by omega) (by omega) (by omega) (by omega)
            have hp3 : 0 ≤ (2 * K) * (2 * K + 1) := Int.mul_nonneg (by omega) (by omega)
            have e1 : IntKind.i64.wrap (2 * K) = 2 * K := IntWalk.i64_in _ (by omega)
            have e2 : IntKind.i64.wrap (2 * K + 1) = 2 * K + 1 := IntWalk.i64_in _ (by omega)
            have e3 : IntKind.i64.wrap (2 * K * (2 * K + 1)) = 2 * K * (2 * K + 1) := IntWalk.i64_in _ (by omega)
            have e4 : IntKind.i64.wrap (K - 1) = K - 1 := IntWalk.i64_in _ (by omega)
            have HK := Lib.hid hK
            clear hK hp2 hp3
            go_wp2_with (first | (refine wl_bin rfl rfl rfl rfl rfl hu hp ?_; intro r5 nr5 hr5) | (refine wl_bin rfl rfl rfl rfl rfl hr5 hD ?_; intro r6 nr6 hr6) | (refine wl_bin rfl rfl rfl rfl rfl h1 hr6 ?_; intro r7 nr7 hr7))
            clear e1 e2 e3 e4
            go_roundw
            case rel =>
              refine ⟨j + 1, _, r7, by omega, by have := HK.out; congr 1; omega, rfl, ?_, rfl⟩
              exact hr7
            case measure => have := HK.out; simp [intOf]; omega
          · obtain rfl : j = 8 := by omega
            go_wp2_with (first | (refine wl_bin rfl rfl rfl rfl rfl hz hp ?_; intro r8 nr8 hr8))
            go_ret
            exact ⟨_, _, rfl, by rw [k2.out, hUo.out]; exact hr8, rfl⟩
      | false =>
        have k1 : Hid (sZ t = fop .mul .f64 (frF t) tau64) := by unfold Hid sZ sF2 sF1; rw [hb1]; simp only [Bool.false_eq_true, if_false]; rw [hb2]; rfl
        have k2 : Hid (sinF t = sO t) := by unfold Hid sinF; rw [hb1]; rfl
        go_enter Try.func180, Try.ntmps180
        go_wp2_with (first | (refine wl_bin rfl rfl rfl rfl rfl hb hb ?_; intro rs nrs hrs) | (refine wl_cmp rfl rfl rfl rfl rfl hrs h0 hff ?_) | (refine wl_cmp rfl rfl rfl rfl rfl hb hc52 hg1 ?_) | (refine wl_cmp rfl rfl rfl rfl rfl hb hn52 hg2 ?_) | (refine wl_toInt rfl rfl rfl (by first | exact rfl | kernel_rfl) (by kernel_rfl) hb hn hint hrg ?_) | (refine wl_bin rfl rfl rfl rfl rfl hb hwI ?_; intro rq nrq hrq) | (refine wl_cmp rfl rfl rfl rfl rfl hrq h0 hl ?_) | (refine wl_cmp rfl rfl rfl rfl rfl (cast_is hrq HFE.out) hh hb1 ?_) | (refine wl_cmp rfl rfl rfl rfl rfl (cast_is hrq HFE.out) hq hb2 ?_) | (refine wl_bin rfl rfl rfl rfl rfl (cast_is hrq HFE.out) htau ?_; intro rz nrz hrz) | (refine wl_bin rfl rfl rfl rfl rfl hrz hrz ?_; intro ru nru hru))
        obtain ⟨U, hU⟩ : ∃ U, fop .mul .f64 (sZ t) (sZ t) = U := ⟨_, rfl⟩
        have hz : Is .f64 rz (sZ t) := by rw [k1.out]; exact hrz
        have hu : Is .f64 ru U := by rw [← hU, k1.out]; exact hru
        have hUo : Hid (sO t = fop .mul .f64 (sZ t) (pK U 8)) := by unfold Hid; rw [sO_eq, hU]
        clear hU hrz hru k1
        go_loopw [7, 8] (fun p i wr => ∃ (j n0 bp : Nat), j ≤ 8 ∧ i = .int .i64 (8 - (j : Int)) ∧ p = .float .f64 bp ∧ Is .f64 bp (pK U j) ∧ wr = w.drewN n0) (fun _ i _ => (intOf i).toNat)
        case atStart => exact ⟨0, _, one64, by omega, rfl, rfl, h1, rfl⟩
        case round =>
          obtain ⟨j, n0, bp, hj, rfl, rfl, hp, rfl⟩ := hrel
          by_cases hlt : j < 8
          · obtain ⟨K, hK⟩ : ∃ K : Int, 8 - (j : Int) = K := ⟨_, rfl⟩
            rw [hK]
            have hK1 : 1 ≤ K := by omega
            have hK8 : K ≤ 8 := by omega
            have hD : Is .f64 (floatOfInt .f64 (2 * K * (2 * K + 1))) (dK (8 - j)) := by
              have e : K = ((8 - j : Nat) : Int) := by omega
              rw [e]; exact is_of (nan_of (dK_facts (8 - j) (by omega) (by omega)).1)
            have hp2 : (2 * K) * (2 * K + 1) ≤ 16 * 17 := Int.mul_le_mul (by omega) (by omega) (by omega) (by omega)
            have hp3 : 0 ≤ (2 * K) * (2 * K + 1) := Int.mul_nonneg (by omega) (by omega)
            have e1 : IntKind.i64.wrap (2 * K) = 2 * K := IntWalk.i64_in _ (by omega)
            have e2 : IntKind.i64.wrap (2 * K + 1) = 2 * K + 1 := IntWalk.i64_in _ (by omega)
            have e3 : IntKind.i64.wrap (2 * K * (2 * K + 1)) = 2 * K * (2 * K + 1) := IntWalk.i64_in _ (by omega)
            have e4 : IntKind.i64.wrap (K - 1) = K - 1 := IntWalk.i64_in _ (by omega)
            have HK := Lib.hid hK
            clear hK hp2 hp3
            go_wp2_with (first | (refine wl_bin rfl rfl rfl rfl rfl hu hp ?_; intro r5 nr5 hr5) | (refine wl_bin rfl rfl rfl rfl rfl hr5 hD ?_; intro r6 nr6 hr6) | (refine wl_bin rfl rfl rfl rfl rfl h1 hr6 ?_; intro r7 nr7 hr7))
            clear e1 e2 e3 e4
            go_roundw
            case rel =>
              refine ⟨j + 1, _, r7, by omega, by have := HK.out; congr 1; omega, rfl, ?_, rfl⟩
              exact hr7
            case measure => have := HK.out; simp [intOf]; omega
          · obtain rfl : j = 8 := by omega
            go_wp2_with (first | (refine wl_bin rfl rfl rfl rfl rfl hz hp ?_; intro r8 nr8 hr8))
            go_ret
            exact ⟨_, _, rfl, by rw [k2.out, hUo.out]; exact hr8, rfl⟩
end Go.Proofs.Ytnjgcacnfobmiaa.tr
