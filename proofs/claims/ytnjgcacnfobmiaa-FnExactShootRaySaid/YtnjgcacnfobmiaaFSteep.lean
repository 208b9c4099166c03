/- The greatest speed, the steepest ray. -/
import Derived.Test.YtnjgcacnfobmiaaFHead
import Derived.Test.YtnjgcacnfobmiaaFEchR
namespace Go.Proofs.Ytnjgcacnfobmiaa
open Go.RowKit
set_option maxRecDepth 100000
set_option linter.unusedVariables false

/-! ### The greatest speed -/
theorem mostG_step {l : List Nat} {j : Nat} (h : 1 ≤ j) : mostG l j = if fcmp .gtr .f32 (lay l j 1) (mostG l (j - 1)) then lay l j 1 else mostG l (j - 1) := by
  obtain ⟨i, rfl⟩ : ∃ i, j = i + 1 := ⟨j - 1, by omega⟩
  rfl
theorem mostG_pos {n : Nat} {l : List Nat} {s d : Nat} (hg : grdB n l s d = true) : ∀ j, j < n → Pos (mostG l j) := by
  intro j
  induction j with
  | zero => intro h; exact (lay_pos hg h).2
  | succ j ih =>
    intro h
    rw [mostG_step (by omega)]
    split
    · exact (lay_pos hg h).2
    · exact ih (by omega)
theorem Pos.not {s : Nat} (h : Pos s) : isNan .f32 s = false := by
  rw [isNan_mg]
  have := h.hi
  simp; omega
theorem is_same {b s : Nat} (h : Is .f32 b s) (hs : isNan .f32 s = false) : b = s := by
  have h1 : canon .f32 b = s := h
  cases hb : isNan .f32 b with
  | true =>
    have h2 := isNan_canon .f32 b
    rw [h1, hs, hb] at h2; cases h2
  | false => rw [canon_of_not hb] at h1; exact h1
theorem gtr_self {s : Nat} (h : Pos s) : fcmp .gtr .f32 s s = false := by
  rw [fcmp_fin h.hi h.hi]
  exact decide_eq_false (by omega)
theorem run_max {P : Program} {tys : Array TypeId} {ty : TypeId} {s t : Nat} (ps : Pos s) (pt : Pos t) (w : World) :
    (Builtin.max_ tys ty #[.float .f32 s, .float .f32 t]).run P w = .ok (.float .f32 (if fcmp .gtr .f32 t s then t else s)) w := by
  have h1 := order_fin ps.hi pt.hi
  have h2 := fcmp_fin pt.hi ps.hi .gtr
  obtain ⟨m, e, h3, _, _⟩ := read_fin ps.hi
  rw [ps.sg] at h3
  have h4 : (FloatKind.f32.decode s).neg = false := by
    have : FloatKind.f32.decode s = .number false m e := h3
    rw [this]; rfl
  rw [h2]
  rcases Int.lt_trichotomy (sv .f32 s) (sv .f32 t) with h | h | h
  · rw [Int.compare_eq_lt.2 h] at h1
    simp [Builtin.max_, Builtin.max2, h1, h]
  · rw [Int.compare_eq_eq.2 h] at h1
    simp [Builtin.max_, Builtin.max2, h1, h, h4]
  · rw [Int.compare_eq_gt.2 h] at h1
    have h5 : ¬ sv .f32 s < sv .f32 t := by omega
    simp [Builtin.max_, Builtin.max2, h1, h5]
set_option maxHeartbeats 1000000 in
theorem l02Steep_any (B : Nat) (la : Option Addr) (lc n : Nat) (ls : List Nat) (sp de : Nat) (k : Nat) (w : World) (h0 : w.cell? ⟨B, 0, none⟩ = some (.slice la n lc)) (h1 : w.cell? ⟨B, 1, none⟩ = some (.float .f32 sp)) (h2 : w.cell? ⟨B, 2, none⟩ = some (.float .f32 de)) (hc : LR w la n ls) (hl : n ≤ 1048576) (hk : k < n) :
    Calls Try.prog 127 #[.pointer (some ⟨B, 0, none⟩), .int .i64 (k : Int)] w (GivesF .f32 (stpG (cl ls) k) w) := by
  have i1 := is_lay hc.1 (show 0 < n by omega) (j := 1) (by omega)
  have hc' := hc
  obtain ⟨b, off, rfl, _, q0, q1, q2, q3⟩ := hc'.at (show 0 < n by omega)
  clear hc'
  simp only [Nat.zero_mul, Nat.add_zero] at q0 q1 q2 q3
  go_enter Try.func127, Try.ntmps127
  go_wp2_with fail
  clear q0 q1 q2 q3
  go_loopw [5, 6] (fun q i wr => ∃ (j mb : Nat), 1 ≤ j ∧ j ≤ k + 1 ∧ i = .int .i64 j ∧ q = .float .f32 mb ∧ Is .f32 mb (mostG (cl ls) (j - 1)) ∧ wr = w) (fun _ i _ => k + 1 - (intOf i).toNat)
  case atStart => exact ⟨1, _, Nat.le_refl _, by omega, rfl, rfl, i1, rfl⟩
  case round =>
    clear i1
    obtain ⟨j, mb, hj1, hj, rfl, rfl, hmb, rfl⟩ := hrel
    by_cases hlt : j ≤ k
    · have e1 : (j : Int) ≤ (k : Int) := by omega
      have hjl : j < n := by omega
      have i1 := is_lay hc.1 hjl (j := 1) (by omega)
      obtain ⟨b', off', hbo, _, q0, q1, q2, q3⟩ := hc.at hjl
      simp only [Option.some.injEq, Addr.mk.injEq, and_true] at hbo
      obtain ⟨rfl, rfl⟩ := hbo
      cases hq : fcmp .gtr .f32 (lay (cl ls) j 1) (mostG (cl ls) (j - 1)) with
      | true =>
        have HS : Hid (mostG (cl ls) j = lay (cl ls) j 1) := by unfold Hid; rw [mostG_step hj1, hq]; rfl
        go_wp2_with (refine wl_cmp rfl rfl rfl rfl rfl i1 hmb hq ?_)
        go_roundw
        case rel => exact ⟨j + 1, _, by omega, by omega, by go_num, rfl, by rw [Nat.add_sub_cancel, HS.out]; exact i1, (by first | rfl | trivial)⟩
        case measure => simp [intOf]; omega
      | false =>
        have HS : Hid (mostG (cl ls) j = mostG (cl ls) (j - 1)) := by unfold Hid; rw [mostG_step hj1, hq]; rfl
        go_wp2_with (refine wl_cmp rfl rfl rfl rfl rfl i1 hmb hq ?_)
        go_roundw
        case rel => exact ⟨j + 1, _, by omega, by omega, by go_num, rfl, by rw [Nat.add_sub_cancel, HS.out]; exact hmb, (by first | rfl | trivial)⟩
        case measure => simp [intOf]; omega
    · have e1 : ¬ (j : Int) ≤ (k : Int) := by omega
      obtain rfl : j = k + 1 := by omega
      rw [Nat.add_sub_cancel] at hmb
      go_wp2_with (refine wl_bin rfl rfl rfl rfl rfl is_self hmb ?_; intro r n1 hr)
      go_ret
      exact ⟨_, _, rfl, hr, rfl⟩
def stpO (n : Nat) (l : List Nat) (s d : Nat) (k : Int) : Option Nat := if bndB n l s d k then finO1 (stpG l k.toNat) else none
set_option maxHeartbeats 4000000 in
theorem steep_any (la : Option Addr) (lc n : Nat) (ls : List Nat) (sp de : Nat) (k : Int) (w : World) (hc : LR w la n ls) (hl : n ≤ 1048576) (hcap : n ≤ lc) (hk1 : -9223372036854775808 ≤ k) (hk2 : k ≤ 9223372036854775807) :
    Calls Try.prog 128 #[.agg #[.slice la n lc, .float .f32 sp, .float .f32 de], .int .i64 k] w (GivesFE (stpO n (cl ls) (canon .f32 sp) (canon .f32 de) k) w) := by
  generalize hA : w.alloc (.cells #[.slice la n lc, .float .f32 sp, .float .f32 de] 79) = w0
  have E0 : Ext w w0 := by rw [← hA]; exact (Ext.refl w).alloc _
  have c0 : w0.cell? ⟨w.heap.size, 0, none⟩ = some (.slice la n lc) := by rw [← hA]; exact boxed (Ext.refl _) rfl
  have c1 : w0.cell? ⟨w.heap.size, 1, none⟩ = some (.float .f32 sp) := by rw [← hA]; exact boxed (Ext.refl _) rfl
  have c2 : w0.cell? ⟨w.heap.size, 2, none⟩ = some (.float .f32 de) := by rw [← hA]; exact boxed (Ext.refl _) rfl
  have hcw := hc.ext E0
  have HA := Lib.hid hA
  clear hA
  cases hb : bndB n (cl ls) (canon .f32 sp) (canon .f32 de) k with
  | false =>
    have h : Hid (stpO n (cl ls) (canon .f32 sp) (canon .f32 de) k = none) := by unfold Hid stpO; rw [hb]; rfl
    go_enter Try.func128, Try.ntmps128
    go_wp2_with fail
    rw [HA.out]
    go_wp2_with (go_at_call 121; refine (isBnd_any _ _ _ _ _ _ _ _ _ hcw hl hb).mono ?_; rintro _ w1 ⟨rfl, E1⟩; (have c0 := E1.cell c0); (have c1 := E1.cell c1); (have c2 := E1.cell c2))
    go_ret2
    exact givesFE_none h.out (E0.trans E1)
  | true =>
  obtain ⟨hgr, hn, hk0, hkn'⟩ := bnd_parts hb
  obtain ⟨k, rfl⟩ := Int.eq_ofNat_of_zero_le hk0
  have hkn : k < n := by omega
  have h : Hid (stpO n (cl ls) (canon .f32 sp) (canon .f32 de) (k : Int) = finB1 true (stpG (cl ls) k)) := by unfold Hid stpO; rw [hb]; rfl
  have HM := Lib.hid (mostG_pos hgr)
  have HL := Lib.hid (fun j hj => (lay_pos (j := j) hgr hj).2)
  have i1 := is_lay hc.1 (show 0 < n by omega) (j := 1) (by omega)
  have hcw' := hcw
  obtain ⟨b, off, rfl, _, q0, q1, q2, q3⟩ := hcw'.at (show 0 < n by omega)
  clear hcw'
  simp only [Nat.zero_mul, Nat.add_zero] at q0 q1 q2 q3
  have e1 : (k : Int) + 1 ≤ (lc : Int) := by omega
  go_enter Try.func128, Try.ntmps128
  go_wp2_with fail
  rw [HA.out]
  go_wp2_with ((go_at_call 121; refine (isBnd_any _ _ _ _ _ _ _ _ _ hcw hl hb).mono ?_; rintro _ w1 ⟨rfl, E1⟩; (have c0 := E1.cell c0); (have c1 := E1.cell c1); (have c2 := E1.cell c2)); (have q1 := E1.cell q1))
  clear q0 q1 q2 q3 hb hgr
  have hcw1 := hcw.ext E1
  clear hcw
  go_loopw [6, 24] (fun q i wr => ∃ (j mb : Nat), j ≤ k + 1 ∧ i = .int .i64 j ∧ q = .float .f32 mb ∧ Is .f32 mb (mostG (cl ls) (j - 1)) ∧ Ext w1 wr) (fun _ i _ => k + 1 - (intOf i).toNat)
  case atStart => exact ⟨0, _, Nat.zero_le _, rfl, rfl, i1, Ext.refl _⟩
  case round =>
    clear i1
    obtain ⟨j, mb, hj, rfl, rfl, hmb, hE⟩ := hrel
    by_cases hlt : j < k + 1
    · have hjl : j < n := by omega
      have i1 := is_lay hc.1 hjl (j := 1) (by omega)
      obtain ⟨b', off', hbo, _, q0, q1, q2, q3⟩ := (hcw1.ext hE).at hjl
      simp only [Option.some.injEq, Addr.mk.injEq, and_true] at hbo
      obtain ⟨rfl, rfl⟩ := hbo
      have ps := HM.out (j - 1) (by omega)
      have pt := HL.out j hjl
      have HS : Hid ((if fcmp .gtr .f32 (lay (cl ls) j 1) (mostG (cl ls) (j - 1)) then lay (cl ls) j 1 else mostG (cl ls) (j - 1)) = mostG (cl ls) j) := by
        unfold Hid
        by_cases h0 : 1 ≤ j
        · rw [mostG_step h0]
        · obtain rfl : j = 0 := by omega
          show (if fcmp .gtr .f32 (lay (cl ls) 0 1) (lay (cl ls) 0 1) then _ else _) = _
          rw [gtr_self pt]; rfl
      obtain ⟨r, hr, hM⟩ : ∃ r, Is .f32 r (mostG (cl ls) j) ∧ ∀ w', (Builtin.max_ #[34, 34] 34 #[.float .f32 mb, .float .f32 (lay ls j 1)]).run Try.prog w' = .ok (.float .f32 r) w' := by
        refine ⟨_, ?_, fun w' => run_max (by rw [is_same hmb ps.not]; exact ps) (by rw [is_same i1 pt.not]; exact pt) w'⟩
        rw [← HS.out, is_same hmb ps.not, is_same i1 pt.not]
        split
        · exact canon_of_not pt.not
        · exact canon_of_not ps.not
      go_wp2_with fail
      go_roundw
      case rel => exact ⟨j + 1, _, by omega, by go_num, rfl, by rw [Nat.add_sub_cancel]; exact hr, hE.alloc (.cells #[.float .f32 (lay ls j 0), .float .f32 (lay ls j 1), .float .f32 (lay ls j 2), .float .f32 (lay ls j 3)] 125)⟩
      case measure => simp [intOf]; omega
    · obtain rfl : j = k + 1 := by omega
      rw [Nat.add_sub_cancel] at hmb
      go_wp2_with (first | (refine wl_bin rfl rfl rfl rfl rfl is_self hmb ?_; intro r n1 hr) | (go_at_call 133; refine (finG_any _ _ _ hr _).mono ?_; rintro _ w4 ⟨r4, m4, rfl, hr4, rfl⟩))
      go_ret2
      exact ⟨r4, by rw [h.out]; rfl, by rw [h.out]; exact hr4, E0.trans (E1.trans (by repeat (first | assumption | apply Ext.drewN)))⟩
end Go.Proofs.Ytnjgcacnfobmiaa
