/- The points of the unit circle: the program's and the reference's. -/
import Derived.Test.YtnjgcacnfobmiaaFPha
namespace Go.Proofs.Ytnjgcacnfobmiaa.tr
open Go.RowKit Go.Proofs.Ytnjgcacnfobmiaa
set_option maxRecDepth 100000
set_option linter.unusedVariables false

theorem fin_of {s : Nat} (h : mg .f64 s < inf .f64) : finK .f64 s = true := by
  obtain ⟨m, e, e1, _, _⟩ := read_fin h
  unfold finK
  rw [e1]
theorem phF_far {t : Nat} (h : fcmp .geq .f64 (fabs .f64 t) c52 = true) : phF t = (1065353216, 0) := by unfold phF; rw [h]; rfl
theorem phF_near {t : Nat} (h : fcmp .geq .f64 (fabs .f64 t) c52 = false) : phF t = (fnarrow (phW t).1, fnarrow (phW t).2) := by unfold phF; rw [h]; rfl
theorem phW_0 {t f : Nat} (h : qF t = (f, 0)) : phW t = (sinF (fop .sub .f64 q25 f), sinF f) := by unfold phW cF snF; rw [h]; rfl
theorem phW_1 {t f : Nat} (h : qF t = (f, 1)) : phW t = (n0 (sinF f), sinF (fop .sub .f64 q25 f)) := by unfold phW cF snF; rw [h]; rfl
theorem phW_2 {t f : Nat} (h : qF t = (f, 2)) : phW t = (n0 (sinF (fop .sub .f64 q25 f)), n0 (sinF f)) := by unfold phW cF snF; rw [h]; rfl
theorem phW_3 {t f : Nat} (h : qF t = (f, 3)) : phW t = (sinF f, n0 (sinF (fop .sub .f64 q25 f))) := by unfold phW cF snF; rw [h]; rfl
theorem phW_4 {t f : Nat} (h : qF t = (f, 4)) : phW t = (sinF (fop .sub .f64 q25 f), sinF f) := by unfold phW cF snF; rw [h]; rfl
theorem args_ok {f j : Nat} (h : okF f (qB j)) : mg .f64 (fop .sub .f64 q25 f) < c52 ∧ mg .f64 f < c52 := by
  have h1 : mg .f64 f ≤ one64 := Nat.le_trans h.2 (qB_le j)
  exact ⟨Nat.lt_of_le_of_lt (add_b (.inr rfl) q25_b (bnd_one h1) (by omega)) pw1_c52, Nat.lt_of_le_of_lt h1 one_c52⟩
set_option maxHeartbeats 8000000 in
theorem phasorI_any (b t : Nat) (hb : Is .f64 b t) (ht : mg .f64 t < inf .f64) (w : World) : Calls Try.prog 150 #[.float .f64 b] w (GivesC (phF t) w) := by
  have h0 := is_zero64
  have h1 := is_one64
  have hq25 := is_q25
  have hc52 := is_c52
  have hn52 := is_n52
  have hfin := fin_of ht
  cases hfar : fcmp .geq .f64 (fabs .f64 t) c52 with
  | true =>
    have hP := Lib.hid (phF_far hfar)
    go_enter Try.func150, Try.ntmps150
    go_wp2_with (first | (go_at_call 148; refine (isFinite64_any _ _ _ hb hfin _).mono ?_; rintro _ _ ⟨rfl, n1, rfl⟩) | (go_at_call 177; refine (mathAbs_any _ _ hb _).mono ?_; rintro _ _ ⟨ra, n2, rfl, hra, rfl⟩) | (refine wl_cmp rfl rfl rfl rfl rfl hra hc52 hfar ?_))
    go_ret
    exact ⟨_, _, _, rfl, by rw [hP.out]; exact canon_of_not (by decide +kernel), by rw [hP.out]; exact is_zero, rfl⟩
  | false =>
    have hnear : mg .f64 t < c52 := by
      have h := far_iff ht
      rw [hfar] at h
      exact of_decide_eq_true (by cases h2 : decide (mg .f64 t < c52) with | true => rfl | false => rw [h2] at h; cases h)
    go_enter Try.func150, Try.ntmps150
    go_wp2_with (first | (go_at_call 148; refine (isFinite64_any _ _ _ hb hfin _).mono ?_; rintro _ _ ⟨rfl, n1, rfl⟩) | (go_at_call 177; refine (mathAbs_any _ _ hb _).mono ?_; rintro _ _ ⟨ra, n2, rfl, hra, rfl⟩) | (refine wl_cmp rfl rfl rfl rfl rfl hra hc52 hfar ?_) | (go_at_call 183; refine (fraction_any _ _ hb hnear _).mono ?_; rintro _ _ ⟨rf, nf, rfl, HF0, rfl⟩))
    go_loopw [4, 5] (fun fv qv wr => ∃ (j n0 bf f : Nat), j ≤ 4 ∧ qv = .int .i64 j ∧ fv = .float .f64 bf ∧ Is .f64 bf f ∧ okF f (qB j) ∧ Hid (qres (4 - j) f j = qF t) ∧ wr = w.drewN n0) (fun _ qv _ => 4 - (intOf qv).toNat)
    case atStart => exact ⟨0, _, _, _, by omega, rfl, rfl, HF0, frF_ok hnear, rfl, rfl⟩
    case round =>
      obtain ⟨j, n0, bf, f, hj, rfl, rfl, hf, hok, hqr, rfl⟩ := hrel
      clear HF0
      cases hg : fcmp .geq .f64 f q25 with
      | true =>
        have hj4 : j < 4 := by
          rcases Nat.lt_or_eq_of_le hj with h | h
          · exact h
          · subst h; rw [q_end hok] at hg; cases hg
        have hqr2 : Hid (qres (4 - (j + 1)) (fop .sub .f64 f q25) (j + 1) = qF t) := by
          unfold Hid; rw [← hqr.out, show 4 - j = (4 - (j + 1)) + 1 by omega]; exact (qres_go hg).symm
        have hok2 := Lib.hid (q_step hj4 hok hg)
        clear hok
        go_wp2_with (first | (refine wl_cmp rfl rfl rfl rfl rfl hf hq25 hg ?_) | (refine wl_bin rfl rfl rfl rfl rfl hf hq25 ?_; intro rg nrg hrg))
        go_roundw
        case rel => exact ⟨j + 1, _, rg, _, by omega, by go_num, rfl, hrg, hok2.out, hqr2, rfl⟩
        case measure => simp [intOf]; omega
      | false =>
        have hqf : qF t = (f, j) := by rw [← hqr.out]; exact qres_stop hg
        obtain ⟨a1, a2⟩ := args_ok hok
        have hB := phW_b hnear
        clear hok hqr
        by_cases hj0 : j = 0
        · subst hj0
          have hW := Lib.hid (phW_0 hqf)
          rw [hW.out] at hB
          have o1 := narrow_b hB.1 (by omega)
          have o2 := narrow_b hB.2 (by omega)
          have hP : Hid (phF t = (fnarrow (phW t).1, fnarrow (phW t).2)) := phF_near hfar
          rw [hW.out] at hP
          clear hW hB hqf
          go_wp2_with (first | (refine wl_cmp rfl rfl rfl rfl rfl hf hq25 hg ?_) | (refine wl_bin rfl rfl rfl rfl rfl hq25 hf ?_; intro rk nrk hrk) | ((have hO := hrc); (go_at_call 184; refine (sineI_any _ _ hf a2 _).mono ?_; rintro _ _ ⟨rs, nrs, rfl, hrs, rfl⟩); clear hO) | (go_at_call 184; refine (sineI_any _ _ hrk a1 _).mono ?_; rintro _ _ ⟨rc, nrc, rfl, hrc, rfl⟩) | ((have hO := hrx); (refine wl_narrow rfl rfl rfl (by first | exact rfl | kernel_rfl) (by kernel_rfl) hrs o2 ?_; intro ry nry hry); clear hO) | (refine wl_narrow rfl rfl rfl (by first | exact rfl | kernel_rfl) (by kernel_rfl) hrc o1 ?_; intro rx nrx hrx))
          go_ret
          exact ⟨_, _, _, rfl, by rw [hP.out]; exact hrx, by rw [hP.out]; exact hry, rfl⟩
        by_cases hj1 : j = 1
        · subst hj1
          have hW := Lib.hid (phW_1 hqf)
          rw [hW.out] at hB
          have o1 := narrow_b hB.1 (by omega)
          have o2 := narrow_b hB.2 (by omega)
          have hP : Hid (phF t = (fnarrow (phW t).1, fnarrow (phW t).2)) := phF_near hfar
          rw [hW.out] at hP
          clear hW hB hqf
          go_wp2_with (first | (refine wl_cmp rfl rfl rfl rfl rfl hf hq25 hg ?_) | (refine wl_bin rfl rfl rfl rfl rfl hq25 hf ?_; intro rk nrk hrk) | ((have hO := hrc); (go_at_call 184; refine (sineI_any _ _ hf a2 _).mono ?_; rintro _ _ ⟨rs, nrs, rfl, hrs, rfl⟩); clear hO) | (go_at_call 184; refine (sineI_any _ _ hrk a1 _).mono ?_; rintro _ _ ⟨rc, nrc, rfl, hrc, rfl⟩) | (refine wl_bin rfl rfl rfl rfl rfl h0 hrs ?_; intro ru nru hru) | ((have hO := hrx); (refine wl_narrow rfl rfl rfl (by first | exact rfl | kernel_rfl) (by kernel_rfl) hrc o2 ?_; intro ry nry hry); clear hO) | (refine wl_narrow rfl rfl rfl (by first | exact rfl | kernel_rfl) (by kernel_rfl) hru o1 ?_; intro rx nrx hrx))
          go_ret
          exact ⟨_, _, _, rfl, by rw [hP.out]; exact hrx, by rw [hP.out]; exact hry, rfl⟩
        by_cases hj2 : j = 2
        · subst hj2
          have hW := Lib.hid (phW_2 hqf)
          rw [hW.out] at hB
          have o1 := narrow_b hB.1 (by omega)
          have o2 := narrow_b hB.2 (by omega)
          have hP : Hid (phF t = (fnarrow (phW t).1, fnarrow (phW t).2)) := phF_near hfar
          rw [hW.out] at hP
          clear hW hB hqf
          go_wp2_with (first | (refine wl_cmp rfl rfl rfl rfl rfl hf hq25 hg ?_) | (refine wl_bin rfl rfl rfl rfl rfl hq25 hf ?_; intro rk nrk hrk) | ((have hO := hrc); (go_at_call 184; refine (sineI_any _ _ hf a2 _).mono ?_; rintro _ _ ⟨rs, nrs, rfl, hrs, rfl⟩); clear hO) | (go_at_call 184; refine (sineI_any _ _ hrk a1 _).mono ?_; rintro _ _ ⟨rc, nrc, rfl, hrc, rfl⟩) | (refine wl_bin rfl rfl rfl rfl rfl h0 hrc ?_; intro ru nru hru) | (refine wl_bin rfl rfl rfl rfl rfl h0 hrs ?_; intro rv nrv hrv) | ((have hO := hrx); (refine wl_narrow rfl rfl rfl (by first | exact rfl | kernel_rfl) (by kernel_rfl) hrv o2 ?_; intro ry nry hry); clear hO) | (refine wl_narrow rfl rfl rfl (by first | exact rfl | kernel_rfl) (by kernel_rfl) hru o1 ?_; intro rx nrx hrx))
          go_ret
          exact ⟨_, _, _, rfl, by rw [hP.out]; exact hrx, by rw [hP.out]; exact hry, rfl⟩
        by_cases hj3 : j = 3
        · subst hj3
          have hW := Lib.hid (phW_3 hqf)
          rw [hW.out] at hB
          have o1 := narrow_b hB.1 (by omega)
          have o2 := narrow_b hB.2 (by omega)
          have hP : Hid (phF t = (fnarrow (phW t).1, fnarrow (phW t).2)) := phF_near hfar
          rw [hW.out] at hP
          clear hW hB hqf
          go_wp2_with (first | (refine wl_cmp rfl rfl rfl rfl rfl hf hq25 hg ?_) | (refine wl_bin rfl rfl rfl rfl rfl hq25 hf ?_; intro rk nrk hrk) | ((have hO := hrc); (go_at_call 184; refine (sineI_any _ _ hf a2 _).mono ?_; rintro _ _ ⟨rs, nrs, rfl, hrs, rfl⟩); clear hO) | (go_at_call 184; refine (sineI_any _ _ hrk a1 _).mono ?_; rintro _ _ ⟨rc, nrc, rfl, hrc, rfl⟩) | (refine wl_bin rfl rfl rfl rfl rfl h0 hrc ?_; intro ru nru hru) | ((have hO := hrx); (refine wl_narrow rfl rfl rfl (by first | exact rfl | kernel_rfl) (by kernel_rfl) hru o2 ?_; intro ry nry hry); clear hO) | (refine wl_narrow rfl rfl rfl (by first | exact rfl | kernel_rfl) (by kernel_rfl) hrs o1 ?_; intro rx nrx hrx))
          go_ret
          exact ⟨_, _, _, rfl, by rw [hP.out]; exact hrx, by rw [hP.out]; exact hry, rfl⟩
        by_cases hj4 : j = 4
        · subst hj4
          have hW := Lib.hid (phW_4 hqf)
          rw [hW.out] at hB
          have o1 := narrow_b hB.1 (by omega)
          have o2 := narrow_b hB.2 (by omega)
          have hP : Hid (phF t = (fnarrow (phW t).1, fnarrow (phW t).2)) := phF_near hfar
          rw [hW.out] at hP
          clear hW hB hqf
          go_wp2_with (first | (refine wl_cmp rfl rfl rfl rfl rfl hf hq25 hg ?_) | (refine wl_bin rfl rfl rfl rfl rfl hq25 hf ?_; intro rk nrk hrk) | ((have hO := hrc); (go_at_call 184; refine (sineI_any _ _ hf a2 _).mono ?_; rintro _ _ ⟨rs, nrs, rfl, hrs, rfl⟩); clear hO) | (go_at_call 184; refine (sineI_any _ _ hrk a1 _).mono ?_; rintro _ _ ⟨rc, nrc, rfl, hrc, rfl⟩) | ((have hO := hrx); (refine wl_narrow rfl rfl rfl (by first | exact rfl | kernel_rfl) (by kernel_rfl) hrs o2 ?_; intro ry nry hry); clear hO) | (refine wl_narrow rfl rfl rfl (by first | exact rfl | kernel_rfl) (by kernel_rfl) hrc o1 ?_; intro rx nrx hrx))
          go_ret
          exact ⟨_, _, _, rfl, by rw [hP.out]; exact hrx, by rw [hP.out]; exact hry, rfl⟩
        omega
set_option maxHeartbeats 8000000 in
theorem phasorS_any (b t : Nat) (hb : Is .f64 b t) (ht : mg .f64 t < inf .f64) (w : World) : Calls Try.prog 147 #[.float .f64 b] w (GivesC (phF t) w) := by
  have h0 := is_zero64
  have h1 := is_one64
  have hq25 := is_q25
  have hc52 := is_c52
  have hn52 := is_n52
  have hfin := fin_of ht
  have hff : fcmp .neq .f64 (fop .sub .f64 t t) 0 = false := neq_self ht
  cases hfar : fcmp .geq .f64 (fabs .f64 t) c52 with
  | true =>
    have hP := Lib.hid (phF_far hfar)
    have hnn : ¬ mg .f64 t < c52 := fun h => by
      have h2 := far_iff ht
      rw [hfar, decide_eq_true h] at h2
      cases h2
    rcases far_leq ht hnn with hg1 | ⟨hg1, hg2⟩
    · go_enter Try.func147, Try.ntmps147
      go_wp2_with (first | (refine wl_bin rfl rfl rfl rfl rfl hb hb ?_; intro rs nrs hrs) | (refine wl_cmp rfl rfl rfl rfl rfl hrs h0 hff ?_) | (refine wl_cmp rfl rfl rfl rfl rfl hb hc52 hg1 ?_))
      go_ret
      exact ⟨_, _, _, rfl, by rw [hP.out]; exact canon_of_not (by decide +kernel), by rw [hP.out]; exact is_zero, rfl⟩
    · go_enter Try.func147, Try.ntmps147
      go_wp2_with (first | (refine wl_bin rfl rfl rfl rfl rfl hb hb ?_; intro rs nrs hrs) | (refine wl_cmp rfl rfl rfl rfl rfl hrs h0 hff ?_) | (refine wl_cmp rfl rfl rfl rfl rfl hb hc52 hg1 ?_) | (refine wl_cmp rfl rfl rfl rfl rfl hb hn52 hg2 ?_))
      go_ret
      exact ⟨_, _, _, rfl, by rw [hP.out]; exact canon_of_not (by decide +kernel), by rw [hP.out]; exact is_zero, rfl⟩
  | false =>
    have hnear : mg .f64 t < c52 := by
      have h := far_iff ht
      rw [hfar] at h
      exact of_decide_eq_true (by cases h2 : decide (mg .f64 t < c52) with | true => rfl | false => rw [h2] at h; cases h)
    obtain ⟨hg1, hg2⟩ := far_geq hnear
    have hn := nan_of ht
    have hint := trunc_int ht
    have hrg : -9223372036854775808 ≤ whI t ∧ whI t ≤ 9223372036854775807 := by have := whl_lt hnear; unfold whI; split <;> omega
    have hwI : Is .f64 (floatOfInt .f64 (whI t)) (whF t) := is_of (nan_of (whF_parts hnear).1)
    cases hl : fcmp .lss .f64 (fr0 t) 0 with
    | true =>
      have HFE : Hid (fop .add .f64 (fop .sub .f64 t (whF t)) one64 = frF t) := by unfold Hid frF; rw [hl]; rfl
      go_enter Try.func147, Try.ntmps147
      go_wp2_with (first | (refine wl_bin rfl rfl rfl rfl rfl hb hb ?_; intro rs nrs hrs) | (refine wl_cmp rfl rfl rfl rfl rfl hrs h0 hff ?_) | (refine wl_cmp rfl rfl rfl rfl rfl hb hc52 hg1 ?_) | (refine wl_cmp rfl rfl rfl rfl rfl hb hn52 hg2 ?_) | (refine wl_toInt rfl rfl rfl (by first | exact rfl | kernel_rfl) (by kernel_rfl) hb hn hint hrg ?_) | (refine wl_bin rfl rfl rfl rfl rfl hb hwI ?_; intro rq nrq hrq) | (refine wl_cmp rfl rfl rfl rfl rfl hrq h0 hl ?_) | (refine wl_bin rfl rfl rfl rfl rfl hrq h1 ?_; intro rw nrw hrw))
      have HF0 := cast_is hrw HFE.out
      go_loopw [3, 4] (fun fv qv wr => ∃ (j n0 bf f : Nat), j ≤ 4 ∧ qv = .int .i64 j ∧ fv = .float .f64 bf ∧ Is .f64 bf f ∧ okF f (qB j) ∧ Hid (qres (4 - j) f j = qF t) ∧ wr = w.drewN n0) (fun _ qv _ => 4 - (intOf qv).toNat)
      case atStart => exact ⟨0, _, _, _, by omega, rfl, rfl, HF0, frF_ok hnear, rfl, rfl⟩
      case round =>
        obtain ⟨j, n0, bf, f, hj, rfl, rfl, hf, hok, hqr, rfl⟩ := hrel
        clear HF0
        cases hg : fcmp .geq .f64 f q25 with
        | true =>
          have hj4 : j < 4 := by
            rcases Nat.lt_or_eq_of_le hj with h | h
            · exact h
            · subst h; rw [q_end hok] at hg; cases hg
          have hqr2 : Hid (qres (4 - (j + 1)) (fop .sub .f64 f q25) (j + 1) = qF t) := by
            unfold Hid; rw [← hqr.out, show 4 - j = (4 - (j + 1)) + 1 by omega]; exact (qres_go hg).symm
          have hok2 := Lib.hid (q_step hj4 hok hg)
          clear hok
          go_wp2_with (first | (refine wl_cmp rfl rfl rfl rfl rfl hf hq25 hg ?_) | (refine wl_bin rfl rfl rfl rfl rfl hf hq25 ?_; intro rg nrg hrg))
          go_roundw
          case rel => exact ⟨j + 1, _, rg, _, by omega, by go_num, rfl, hrg, hok2.out, hqr2, rfl⟩
          case measure => simp [intOf]; omega
        | false =>
          have hqf : qF t = (f, j) := by rw [← hqr.out]; exact qres_stop hg
          obtain ⟨a1, a2⟩ := args_ok hok
          have hB := phW_b hnear
          clear hok hqr
          by_cases hj0 : j = 0
          · subst hj0
            have hW := Lib.hid (phW_0 hqf)
            rw [hW.out] at hB
            have o1 := narrow_b hB.1 (by omega)
            have o2 := narrow_b hB.2 (by omega)
            have hP : Hid (phF t = (fnarrow (phW t).1, fnarrow (phW t).2)) := phF_near hfar
            rw [hW.out] at hP
            clear hW hB hqf
            go_wp2_with (first | (refine wl_cmp rfl rfl rfl rfl rfl hf hq25 hg ?_) | (refine wl_bin rfl rfl rfl rfl rfl hq25 hf ?_; intro rk nrk hrk) | ((have hO := hrc); (go_at_call 180; refine (sineS_any _ _ hf a2 _).mono ?_; rintro _ _ ⟨rs, nrs, rfl, hrs, rfl⟩); clear hO) | (go_at_call 180; refine (sineS_any _ _ hrk a1 _).mono ?_; rintro _ _ ⟨rc, nrc, rfl, hrc, rfl⟩) | ((have hO := hrx); (go_at_call 181; refine (l01Narrow_any _ _ hrs o2 _).mono ?_; rintro _ _ ⟨ry, nry, rfl, hry, rfl⟩); clear hO) | (go_at_call 181; refine (l01Narrow_any _ _ hrc o1 _).mono ?_; rintro _ _ ⟨rx, nrx, rfl, hrx, rfl⟩))
            go_ret
            exact ⟨_, _, _, rfl, by rw [hP.out]; exact hrx, by rw [hP.out]; exact hry, rfl⟩
          by_cases hj1 : j = 1
          · subst hj1
            have hW := Lib.hid (phW_1 hqf)
            rw [hW.out] at hB
            have o1 := narrow_b hB.1 (by omega)
            have o2 := narrow_b hB.2 (by omega)
            have hP : Hid (phF t = (fnarrow (phW t).1, fnarrow (phW t).2)) := phF_near hfar
            rw [hW.out] at hP
            clear hW hB hqf
            go_wp2_with (first | (refine wl_cmp rfl rfl rfl rfl rfl hf hq25 hg ?_) | (refine wl_bin rfl rfl rfl rfl rfl hq25 hf ?_; intro rk nrk hrk) | ((have hO := hrc); (go_at_call 180; refine (sineS_any _ _ hf a2 _).mono ?_; rintro _ _ ⟨rs, nrs, rfl, hrs, rfl⟩); clear hO) | (go_at_call 180; refine (sineS_any _ _ hrk a1 _).mono ?_; rintro _ _ ⟨rc, nrc, rfl, hrc, rfl⟩) | (refine wl_bin rfl rfl rfl rfl rfl h0 hrs ?_; intro ru nru hru) | ((have hO := hrx); (go_at_call 181; refine (l01Narrow_any _ _ hrc o2 _).mono ?_; rintro _ _ ⟨ry, nry, rfl, hry, rfl⟩); clear hO) | (go_at_call 181; refine (l01Narrow_any _ _ hru o1 _).mono ?_; rintro _ _ ⟨rx, nrx, rfl, hrx, rfl⟩))
            go_ret
            exact ⟨_, _, _, rfl, by rw [hP.out]; exact hrx, by rw [hP.out]; exact hry, rfl⟩
          by_cases hj2 : j = 2
          · subst hj2
            have hW := Lib.hid (phW_2 hqf)
            rw [hW.out] at hB
            have o1 := narrow_b hB.1 (by omega)
            have o2 := narrow_b hB.2 (by omega)
            have hP : Hid (phF t = (fnarrow (phW t).1, fnarrow (phW t).2)) := phF_near hfar
            rw [hW.out] at hP
            clear hW hB hqf
            go_wp2_with (first | (refine wl_cmp rfl rfl rfl rfl rfl hf hq25 hg ?_) | (refine wl_bin rfl rfl rfl rfl rfl hq25 hf ?_; intro rk nrk hrk) | ((have hO := hrc); (go_at_call 180; refine (sineS_any _ _ hf a2 _).mono ?_; rintro _ _ ⟨rs, nrs, rfl, hrs, rfl⟩); clear hO) | (go_at_call 180; refine (sineS_any _ _ hrk a1 _).mono ?_; rintro _ _ ⟨rc, nrc, rfl, hrc, rfl⟩) | (refine wl_bin rfl rfl rfl rfl rfl h0 hrc ?_; intro ru nru hru) | (refine wl_bin rfl rfl rfl rfl rfl h0 hrs ?_; intro rv nrv hrv) | ((have hO := hrx); (go_at_call 181; refine (l01Narrow_any _ _ hrv o2 _).mono ?_; rintro _ _ ⟨ry, nry, rfl, hry, rfl⟩); clear hO) | (go_at_call 181; refine (l01Narrow_any _ _ hru o1 _).mono ?_; rintro _ _ ⟨rx, nrx, rfl, hrx, rfl⟩))
            go_ret
            exact ⟨_, _, _, rfl, by rw [hP.out]; exact hrx, by rw [hP.out]; exact hry, rfl⟩
          by_cases hj3 : j = 3
          · subst hj3
            have hW := Lib.hid (phW_3 hqf)
            rw [hW.out] at hB
            have o1 := narrow_b hB.1 (by omega)
            have o2 := narrow_b hB.2 (by omega)
            have hP : Hid (phF t = (fnarrow (phW t).1, fnarrow (phW t).2)) := phF_near hfar
            rw [hW.out] at hP
            clear hW hB hqf
            go_wp2_with (first | (refine wl_cmp rfl rfl rfl rfl rfl hf hq25 hg ?_) | (refine wl_bin rfl rfl rfl rfl rfl hq25 hf ?_; intro rk nrk hrk) | ((have hO := hrc); (go_at_call 180; refine (sineS_any _ _ hf a2 _).mono ?_; rintro _ _ ⟨rs, nrs, rfl, hrs, rfl⟩); clear hO) | (go_at_call 180; refine (sineS_any _ _ hrk a1 _).mono ?_; rintro _ _ ⟨rc, nrc, rfl, hrc, rfl⟩) | (refine wl_bin rfl rfl rfl rfl rfl h0 hrc ?_; intro ru nru hru) | ((have hO := hrx); (go_at_call 181; refine (l01Narrow_any _ _ hru o2 _).mono ?_; rintro _ _ ⟨ry, nry, rfl, hry, rfl⟩); clear hO) | (go_at_call 181; refine (l01Narrow_any _ _ hrs o1 _).mono ?_; rintro _ _ ⟨rx, nrx, rfl, hrx, rfl⟩))
            go_ret
            exact ⟨_, _, _, rfl, by rw [hP.out]; exact hrx, by rw [hP.out]; exact hry, rfl⟩
          by_cases hj4 : j = 4
          · subst hj4
            have hW := Lib.hid (phW_4 hqf)
            rw [hW.out] at hB
            have o1 := narrow_b hB.1 (by omega)
            have o2 := narrow_b hB.2 (by omega)
            have hP : Hid (phF t = (fnarrow (phW t).1, fnarrow (phW t).2)) := phF_near hfar
            rw [hW.out] at hP
            clear hW hB hqf
            go_wp2_with (first | (refine wl_cmp rfl rfl rfl rfl rfl hf hq25 hg ?_) | (refine wl_bin rfl rfl rfl rfl rfl hq25 hf ?_; intro rk nrk hrk) | ((have hO := hrc); (go_at_call 180; refine (sineS_any _ _ hf a2 _).mono ?_; rintro _ _ ⟨rs, nrs, rfl, hrs, rfl⟩); clear hO) | (go_at_call 180; refine (sineS_any _ _ hrk a1 _).mono ?_; rintro _ _ ⟨rc, nrc, rfl, hrc, rfl⟩) | ((have hO := hrx); (go_at_call 181; refine (l01Narrow_any _ _ hrs o2 _).mono ?_; rintro _ _ ⟨ry, nry, rfl, hry, rfl⟩); clear hO) | (go_at_call 181; refine (l01Narrow_any _ _ hrc o1 _).mono ?_; rintro _ _ ⟨rx, nrx, rfl, hrx, rfl⟩))
            go_ret
            exact ⟨_, _, _, rfl, by rw [hP.out]; exact hrx, by rw [hP.out]; exact hry, rfl⟩
          omega
    | false =>
      have HFE : Hid (fop .sub .f64 t (whF t) = frF t) := by unfold Hid frF; rw [hl]; rfl
      go_enter Try.func147, Try.ntmps147
      go_wp2_with (first | (refine wl_bin rfl rfl rfl rfl rfl hb hb ?_; intro rs nrs hrs) | (refine wl_cmp rfl rfl rfl rfl rfl hrs h0 hff ?_) | (refine wl_cmp rfl rfl rfl rfl rfl hb hc52 hg1 ?_) | (refine wl_cmp rfl rfl rfl rfl rfl hb hn52 hg2 ?_) | (refine wl_toInt rfl rfl rfl (by first | exact rfl | kernel_rfl) (by kernel_rfl) hb hn hint hrg ?_) | (refine wl_bin rfl rfl rfl rfl rfl hb hwI ?_; intro rq nrq hrq) | (refine wl_cmp rfl rfl rfl rfl rfl hrq h0 hl ?_))
      have HF0 := cast_is hrq HFE.out
      go_loopw [3, 4] (fun fv qv wr => ∃ (j n0 bf f : Nat), j ≤ 4 ∧ qv = .int .i64 j ∧ fv = .float .f64 bf ∧ Is .f64 bf f ∧ okF f (qB j) ∧ Hid (qres (4 - j) f j = qF t) ∧ wr = w.drewN n0) (fun _ qv _ => 4 - (intOf qv).toNat)
      case atStart => exact ⟨0, _, _, _, by omega, rfl, rfl, HF0, frF_ok hnear, rfl, rfl⟩
      case round =>
        obtain ⟨j, n0, bf, f, hj, rfl, rfl, hf, hok, hqr, rfl⟩ := hrel
        clear HF0
        cases hg : fcmp .geq .f64 f q25 with
        | true =>
          have hj4 : j < 4 := by
            rcases Nat.lt_or_eq_of_le hj with h | h
            · exact h
            · subst h; rw [q_end hok] at hg; cases hg
          have hqr2 : Hid (qres (4 - (j + 1)) (fop .sub .f64 f q25) (j + 1) = qF t) := by
            unfold Hid; rw [← hqr.out, show 4 - j = (4 - (j + 1)) + 1 by omega]; exact (qres_go hg).symm
          have hok2 := Lib.hid (q_step hj4 hok hg)
          clear hok
          go_wp2_with (first | (refine wl_cmp rfl rfl rfl rfl rfl hf hq25 hg ?_) | (refine wl_bin rfl rfl rfl rfl rfl hf hq25 ?_; intro rg nrg hrg))
          go_roundw
          case rel => exact ⟨j + 1, _, rg, _, by omega, by go_num, rfl, hrg, hok2.out, hqr2, rfl⟩
          case measure => simp [intOf]; omega
        | false =>
          have hqf : qF t = (f, j) := by rw [← hqr.out]; exact qres_stop hg
          obtain ⟨a1, a2⟩ := args_ok hok
          have hB := phW_b hnear
          clear hok hqr
          by_cases hj0 : j = 0
          · subst hj0
            have hW := Lib.hid (phW_0 hqf)
            rw [hW.out] at hB
            have o1 := narrow_b hB.1 (by omega)
            have o2 := narrow_b hB.2 (by omega)
            have hP : Hid (phF t = (fnarrow (phW t).1, fnarrow (phW t).2)) := phF_near hfar
            rw [hW.out] at hP
            clear hW hB hqf
            go_wp2_with (first | (refine wl_cmp rfl rfl rfl rfl rfl hf hq25 hg ?_) | (refine wl_bin rfl rfl rfl rfl rfl hq25 hf ?_; intro rk nrk hrk) | ((have hO := hrc); (go_at_call 180; refine (sineS_any _ _ hf a2 _).mono ?_; rintro _ _ ⟨rs, nrs, rfl, hrs, rfl⟩); clear hO) | (go_at_call 180; refine (sineS_any _ _ hrk a1 _).mono ?_; rintro _ _ ⟨rc, nrc, rfl, hrc, rfl⟩) | ((have hO := hrx); (go_at_call 181; refine (l01Narrow_any _ _ hrs o2 _).mono ?_; rintro _ _ ⟨ry, nry, rfl, hry, rfl⟩); clear hO) | (go_at_call 181; refine (l01Narrow_any _ _ hrc o1 _).mono ?_; rintro _ _ ⟨rx, nrx, rfl, hrx, rfl⟩))
            go_ret
            exact ⟨_, _, _, rfl, by rw [hP.out]; exact hrx, by rw [hP.out]; exact hry, rfl⟩
          by_cases hj1 : j = 1
          · subst hj1
            have hW := Lib.hid (phW_1 hqf)
            rw [hW.out] at hB
            have o1 := narrow_b hB.1 (by omega)
            have o2 := narrow_b hB.2 (by omega)
            have hP : Hid (phF t = (fnarrow (phW t).1, fnarrow (phW t).2)) := phF_near hfar
            rw [hW.out] at hP
            clear hW hB hqf
            go_wp2_with (first | (refine wl_cmp rfl rfl rfl rfl rfl hf hq25 hg ?_) | (refine wl_bin rfl rfl rfl rfl rfl hq25 hf ?_; intro rk nrk hrk) | ((have hO := hrc); (go_at_call 180; refine (sineS_any _ _ hf a2 _).mono ?_; rintro _ _ ⟨rs, nrs, rfl, hrs, rfl⟩); clear hO) | (go_at_call 180; refine (sineS_any _ _ hrk a1 _).mono ?_; rintro _ _ ⟨rc, nrc, rfl, hrc, rfl⟩) | (refine wl_bin rfl rfl rfl rfl rfl h0 hrs ?_; intro ru nru hru) | ((have hO := hrx); (go_at_call 181; refine (l01Narrow_any _ _ hrc o2 _).mono ?_; rintro _ _ ⟨ry, nry, rfl, hry, rfl⟩); clear hO) | (go_at_call 181; refine (l01Narrow_any _ _ hru o1 _).mono ?_; rintro _ _ ⟨rx, nrx, rfl, hrx, rfl⟩))
            go_ret
            exact ⟨_, _, _, rfl, by rw [hP.out]; exact hrx, by rw [hP.out]; exact hry, rfl⟩
          by_cases hj2 : j = 2
          · subst hj2
            have hW := Lib.hid (phW_2 hqf)
            rw [hW.out] at hB
            have o1 := narrow_b hB.1 (by omega)
            have o2 := narrow_b hB.2 (by omega)
            have hP : Hid (phF t = (fnarrow (phW t).1, fnarrow (phW t).2)) := phF_near hfar
            rw [hW.out] at hP
            clear hW hB hqf
            go_wp2_with (first | (refine wl_cmp rfl rfl rfl rfl rfl hf hq25 hg ?_) | (refine wl_bin rfl rfl rfl rfl rfl hq25 hf ?_; intro rk nrk hrk) | ((have hO := hrc); (go_at_call 180; refine (sineS_any _ _ hf a2 _).mono ?_; rintro _ _ ⟨rs, nrs, rfl, hrs, rfl⟩); clear hO) | (go_at_call 180; refine (sineS_any _ _ hrk a1 _).mono ?_; rintro _ _ ⟨rc, nrc, rfl, hrc, rfl⟩) | (refine wl_bin rfl rfl rfl rfl rfl h0 hrc ?_; intro ru nru hru) | (refine wl_bin rfl rfl rfl rfl rfl h0 hrs ?_; intro rv nrv hrv) | ((have hO := hrx); (go_at_call 181; refine (l01Narrow_any _ _ hrv o2 _).mono ?_; rintro _ _ ⟨ry, nry, rfl, hry, rfl⟩); clear hO) | (go_at_call 181; refine (l01Narrow_any _ _ hru o1 _).mono ?_; rintro _ _ ⟨rx, nrx, rfl, hrx, rfl⟩))
            go_ret
            exact ⟨_, _, _, rfl, by rw [hP.out]; exact hrx, by rw [hP.out]; exact hry, rfl⟩
          by_cases hj3 : j = 3
          · subst hj3
            have hW := Lib.hid (phW_3 hqf)
            rw [hW.out] at hB
            have o1 := narrow_b hB.1 (by omega)
            have o2 := narrow_b hB.2 (by omega)
            have hP : Hid (phF t = (fnarrow (phW t).1, fnarrow (phW t).2)) := phF_near hfar
            rw [hW.out] at hP
            clear hW hB hqf
            go_wp2_with (first | (refine wl_cmp rfl rfl rfl rfl rfl hf hq25 hg ?_) | (refine wl_bin rfl rfl rfl rfl rfl hq25 hf ?_; intro rk nrk hrk) | ((have hO := hrc); (go_at_call 180; refine (sineS_any _ _ hf a2 _).mono ?_; rintro _ _ ⟨rs, nrs, rfl, hrs, rfl⟩); clear hO) | (go_at_call 180; refine (sineS_any _ _ hrk a1 _).mono ?_; rintro _ _ ⟨rc, nrc, rfl, hrc, rfl⟩) | (refine wl_bin rfl rfl rfl rfl rfl h0 hrc ?_; intro ru nru hru) | ((have hO := hrx); (go_at_call 181; refine (l01Narrow_any _ _ hru o2 _).mono ?_; rintro _ _ ⟨ry, nry, rfl, hry, rfl⟩); clear hO) | (go_at_call 181; refine (l01Narrow_any _ _ hrs o1 _).mono ?_; rintro _ _ ⟨rx, nrx, rfl, hrx, rfl⟩))
            go_ret
            exact ⟨_, _, _, rfl, by rw [hP.out]; exact hrx, by rw [hP.out]; exact hry, rfl⟩
          by_cases hj4 : j = 4
          · subst hj4
            have hW := Lib.hid (phW_4 hqf)
            rw [hW.out] at hB
            have o1 := narrow_b hB.1 (by omega)
            have o2 := narrow_b hB.2 (by omega)
            have hP : Hid (phF t = (fnarrow (phW t).1, fnarrow (phW t).2)) := phF_near hfar
            rw [hW.out] at hP
            clear hW hB hqf
            go_wp2_with (first | (refine wl_cmp rfl rfl rfl rfl rfl hf hq25 hg ?_) | (refine wl_bin rfl rfl rfl rfl rfl hq25 hf ?_; intro rk nrk hrk) | ((have hO := hrc); (go_at_call 180; refine (sineS_any _ _ hf a2 _).mono ?_; rintro _ _ ⟨rs, nrs, rfl, hrs, rfl⟩); clear hO) | (go_at_call 180; refine (sineS_any _ _ hrk a1 _).mono ?_; rintro _ _ ⟨rc, nrc, rfl, hrc, rfl⟩) | ((have hO := hrx); (go_at_call 181; refine (l01Narrow_any _ _ hrs o2 _).mono ?_; rintro _ _ ⟨ry, nry, rfl, hry, rfl⟩); clear hO) | (go_at_call 181; refine (l01Narrow_any _ _ hrc o1 _).mono ?_; rintro _ _ ⟨rx, nrx, rfl, hrx, rfl⟩))
            go_ret
            exact ⟨_, _, _, rfl, by rw [hP.out]; exact hrx, by rw [hP.out]; exact hry, rfl⟩
          omega
end Go.Proofs.Ytnjgcacnfobmiaa.tr
