/- SortGather: the program's. -/
import Derived.Test.YtnjgcacnfobmiaaSrt
import Derived.Test.YtnjgcacnfobmiaaFShgS
namespace Go.Proofs.Ytnjgcacnfobmiaa
open Go.RowKit
set_option maxRecDepth 100000
set_option linter.unusedVariables false

def cmpC (s u : Nat) : Int := if fcmp .lss .f32 s u then -1 else if fcmp .gtr .f32 s u then 1 else 0
theorem isNaN_any (x s : Nat) (hx : Is .f32 x s) (hn : isNan .f32 s = false) (w : World) : Calls Try.prog 156 #[.float .f32 x] w fun e w' => e = .returned (.bool false) ∧ w = w' := by
  have hq : fcmp .neq .f32 s s = false := by rw [fcmp_neq_self]; exact hn
  go_enter Try.func156, Try.ntmps156
  go_wp2_with (refine wl_cmp rfl rfl rfl rfl rfl hx hx hq ?_)
  go_ret
  exact ⟨rfl, rfl⟩
theorem compare_any (x y s u : Nat) (hx : Is .f32 x s) (hy : Is .f32 y u) (hn : isNan .f32 s = false) (hm : isNan .f32 u = false) (w : World) : Calls Try.prog 115 #[.float .f32 x, .float .f32 y] w fun e w' => e = .returned (.int .i64 (cmpC s u)) ∧ w = w' := by
  cases h1 : fcmp .lss .f32 s u with
  | true =>
    have hc : Hid (cmpC s u = -1) := by unfold Hid cmpC; rw [h1]; rfl
    go_enter Try.func115, Try.ntmps115
    go_wp2_with (first | (go_at_call 156; refine (isNaN_any _ _ hx hn _).mono ?_; rintro _ _ ⟨rfl, rfl⟩) | (go_at_call 156; refine (isNaN_any _ _ hy hm _).mono ?_; rintro _ _ ⟨rfl, rfl⟩) | (refine wl_cmp rfl rfl rfl rfl rfl hx hy h1 ?_))
    go_ret
    exact ⟨by rw [hc.out]; rfl, rfl⟩
  | false =>
    cases h2 : fcmp .gtr .f32 s u with
    | true =>
      have hc : Hid (cmpC s u = 1) := by unfold Hid cmpC; rw [h1, h2]; rfl
      go_enter Try.func115, Try.ntmps115
      go_wp2_with (first | (go_at_call 156; refine (isNaN_any _ _ hx hn _).mono ?_; rintro _ _ ⟨rfl, rfl⟩) | (go_at_call 156; refine (isNaN_any _ _ hy hm _).mono ?_; rintro _ _ ⟨rfl, rfl⟩) | (refine wl_cmp rfl rfl rfl rfl rfl hx hy h1 ?_) | (refine wl_cmp rfl rfl rfl rfl rfl hx hy h2 ?_))
      go_ret
      exact ⟨by rw [hc.out]; rfl, rfl⟩
    | false =>
      have hc : Hid (cmpC s u = 0) := by unfold Hid cmpC; rw [h1, h2]; rfl
      go_enter Try.func115, Try.ntmps115
      go_wp2_with (first | (go_at_call 156; refine (isNaN_any _ _ hx hn _).mono ?_; rintro _ _ ⟨rfl, rfl⟩) | (go_at_call 156; refine (isNaN_any _ _ hy hm _).mono ?_; rintro _ _ ⟨rfl, rfl⟩) | (refine wl_cmp rfl rfl rfl rfl rfl hx hy h1 ?_) | (refine wl_cmp rfl rfl rfl rfl rfl hx hy h2 ?_))
      go_ret
      exact ⟨by rw [hc.out]; rfl, rfl⟩
set_option maxHeartbeats 1000000 in
theorem srtClo_any (B i k : Nat) (pa : Option Addr) (pc : Nat) (ps : List Nat) (w : World) (hB : w.cell? ⟨B, 1, none⟩ = some (.slice pa ps.length pc)) (hp : FR w pa ps) (hl : ps.length ≤ 1048576) (hi : i < ps.length) (hk : k < ps.length) (hn : ∀ i, i < ps.length → isNan .f32 (el (cl ps) i) = false) :
    Calls Try.prog 114 #[.int .i64 (i : Int), .int .i64 (k : Int), .pointer (some ⟨B, 0, none⟩)] w (Gives (.int .i64 (cmpC (el (cl ps) i) (el (cl ps) k))) w) := by
  obtain ⟨b, off, rfl, hx⟩ := hp i hi
  obtain ⟨b', off', e, hy⟩ := hp k hk
  injection e with e
  injection e with e1 e2
  subst e1 e2
  have hIx := is_el hi
  have hIy := is_el hk
  have hni := hn i hi
  have hnk := hn k hk
  go_enter Try.func114, Try.ntmps114
  go_wp2_with fail
  refine wp_region_lex (fun _ => Drawn w) (fun _ => false) (fun _ v => v = .int .i64 (cmpC (el (cl ps) i) (el (cl ps) k))) (by kernel_rfl) (by kernel_rfl) (by kernel_rfl) (fun _ => drawn_more _) (fun _ => ⟨0, rfl⟩) (fun n0 => ?_)
  (refine lw_valD rfl rfl (fun nn => by go_simp; rfl) ?_; go_simp)
  (refine lw_valD rfl rfl (fun nn => by go_simp; rfl) ?_; go_simp)
  (refine lw_move rfl rfl rfl rfl ?_; go_simp)
  (refine lw_valD rfl rfl (fun nn => by go_simp; rfl) ?_; go_simp)
  (refine lw_valD rfl rfl (fun nn => by go_simp; rfl) ?_; go_simp)
  (refine lw_valD rfl rfl (fun nn => by go_simp; rfl) ?_; go_simp)
  (refine lw_valD rfl rfl (fun nn => by go_simp; rfl) ?_; go_simp)
  (refine lw_move rfl rfl rfl rfl ?_; go_simp)
  (refine lw_valD rfl rfl (fun nn => by go_simp; rfl) ?_; go_simp)
  (refine lw_valD rfl rfl (fun nn => by go_simp; rfl) ?_; go_simp)
  refine lw_call (args := #[.float .f32 (el ps i), .float .f32 (el ps k)]) rfl rfl (fun w' hw' => by go_simp; try rfl) (fun w' hw' => (compare_any _ _ _ _ hIx hIy hni hnk w').mono fun e w'' ⟨h1, h2⟩ => ⟨_, h1, rfl, 0, h2.symm⟩) ?_
  rintro _ rfl
  go_simp
  (refine lw_assign rfl rfl rfl rfl ?_; go_simp)
  refine lw_nil fun n8 => ?_
  go_wp2_with fail
  go_ret
  exact ⟨rfl, _, by first | rfl | exact drewN_drewN' _ _ _⟩
theorem cmpC_neg {s u : Nat} (h : fcmp .lss .f32 s u = true) : cmpC s u = -1 := by unfold cmpC; rw [h]; rfl
theorem cmpC_not {s u : Nat} (h : fcmp .lss .f32 s u = false) : ¬ cmpC s u < 0 := by
  unfold cmpC; rw [h]
  cases fcmp .gtr .f32 s u <;> simp
set_option maxHeartbeats 4000000 in
theorem insSort_any (B g n c : Nat) (pa : Option Addr) (pc : Nat) (ps L0 : List Nat) (w0 w : World) (hB : w0.cell? ⟨B, 1, none⟩ = some (.slice pa ps.length pc)) (hp : FR w0 pa ps) (hl : ps.length ≤ 16) (hE0 : Ext w0 w) (hO0 : OwnV fN 3 w w0.heap.size (.slice (some ⟨g, 0, none⟩) n c) L0) (hgb : w0.heap.size ≤ g) (hLn : L0.length = n) (hnl : 1 ≤ n ∧ n ≤ 16) (hLb : below L0 ps.length) (hnan : ∀ i, i < ps.length → isNan .f32 (el (cl ps) i) = false) :
    Calls Try.prog 186 #[.slice (some ⟨g, 0, none⟩) n c, .int .i64 0, .int .i64 (n : Int), .func (.func 114) #[] #[.pointer (some ⟨B, 0, none⟩)]] w fun e w' => e = .returned (.tuple #[]) ∧ OwnV fN 3 w' w0.heap.size (.slice (some ⟨g, 0, none⟩) n c) (sortK (cl ps) L0 n) ∧ Ext w0 w' := by
  have eg : ∀ (args : Array Value) (w : World), (callFunc 114 args).run Try.prog w = .ok (.enter 114 args) w := enters_at Try.func114 (by kernel_rfl) rfl
  have HLN := Lib.hid hLn
  clear hLn
  go_enter Try.func186, Try.ntmps186
  go_wp2_with fail
  go_loopw [8] (fun i wr => ∃ m : Nat, 1 ≤ m ∧ m ≤ n ∧ i = .int .i64 m ∧ OwnV fN 3 wr w0.heap.size (.slice (some ⟨g, 0, none⟩) n c) (sortK (cl ps) L0 m) ∧ Ext w0 wr) (fun i _ => n - (intOf i).toNat)
  case atStart => exact ⟨1, Nat.le_refl _, hnl.1, rfl, hO0, hE0⟩
  case round =>
    obtain ⟨m, hm1, hm, rfl, hO, hE⟩ := hrel
    clear hO0 hE0
    by_cases hlt : m < n
    · go_wp2_with fail
      obtain ⟨SL, hSL⟩ : ∃ S, S = sortK (cl ps) L0 m := ⟨_, rfl⟩
      have HSL := Lib.hid hSL
      rw [← hSL] at hO
      have hSn : SL.length = n := by rw [hSL, sortK_len]; exact HLN.out
      have hSb : below SL ps.length := by rw [hSL]; exact below_sortK _ _ _ hLb _ (by rw [HLN.out]; omega)
      clear hSL
      go_loopw [9] (fun i wi => ∃ (j : Nat) (L : List Nat), j ≤ m ∧ i = .int .i64 j ∧ Hid (L.length = n) ∧ below L ps.length ∧ Hid (insK (cl ps) j L = insK (cl ps) m SL) ∧ OwnV fN 3 wi w0.heap.size (.slice (some ⟨g, 0, none⟩) n c) L ∧ Ext w0 wi) (fun i _ => (intOf i).toNat)
      case atStart => exact ⟨m, SL, Nat.le_refl _, rfl, hSn, hSb, rfl, hO, hE⟩
      case round =>
        obtain ⟨j, L, hj, rfl, hLn, hLb', hLi, hI, hEi⟩ := hrel
        rcases Nat.eq_zero_or_pos j with rfl | hj0
        · go_wp2_with fail
          refine wp_region_lex (fun _ => Drawn wr) (fun _ => false) (fun _ _ => True) (by kernel_rfl) (by kernel_rfl) (by kernel_rfl) (fun _ => drawn_more _) (fun _ => ⟨0, rfl⟩) (fun n0 => ?_)
          (refine lw_move rfl rfl rfl rfl ?_; go_simp)
          (refine lw_move rfl rfl rfl rfl ?_; go_simp)
          (refine lw_valD rfl rfl (fun nn => by go_simp; rfl) ?_; go_simp)
          (refine lw_move rfl rfl rfl rfl ?_; go_simp)
          (refine lw_skip rfl ?_; go_simp)
          (refine lw_skip rfl ?_; go_simp)
          (refine lw_skip rfl ?_; go_simp)
          (refine lw_skip rfl ?_; go_simp)
          (refine lw_skip rfl ?_; go_simp)
          (refine lw_skip rfl ?_; go_simp)
          (refine lw_skip rfl ?_; go_simp)
          (refine lw_skip rfl ?_; go_simp)
          (refine lw_skip rfl ?_; go_simp)
          (refine lw_skip rfl ?_; go_simp)
          (refine lw_skip rfl ?_; go_simp)
          (refine lw_skip rfl ?_; go_simp)
          (refine lw_valD rfl rfl (fun nn => by go_simp; rfl) ?_; go_simp)
          refine lw_nil fun n8 => ?_
          have hsrt : Hid (sortK (cl ps) L0 (m + 1) = L) := by
            unfold Hid; show insK (cl ps) m (sortK (cl ps) L0 m) = L; rw [← HSL.out]; exact hLi.out.symm
          go_wp2_with fail
          go_roundw
          case rel => exact ⟨m + 1, by omega, by omega, by go_num, by rw [hsrt.out]; exact hI.drewN _, hEi.drewN _⟩
          case measure => simp [intOf]; omega
        · obtain ⟨jp, rfl⟩ : ∃ jp, j = jp + 1 := ⟨j - 1, by omega⟩
          have hLn' := hLn.out
          obtain ⟨_, e5, _, _, hcx, hfx⟩ := OwnV.at hI (k := jp + 1) (by omega)
          injection e5 with e5; injection e5 with e5; subst e5
          obtain ⟨_, e5, _, _, hcy, hfy⟩ := OwnV.at hI (k := jp) (by omega)
          injection e5 with e5; injection e5 with e5; subst e5
          have hbx := hLb' (jp + 1) (by omega)
          have hby := hLb' jp (by omega)
          replace hLn := Lib.hid hLn'
          clear hLn'
          have hB' := hEi.cell hB
          have hp' := hp.ext hEi
          have hwp : IntKind.i64.wrap (jp : Int) = (jp : Int) := IntWalk.i64_in _ (by omega)
          have p0 : (0 : Int) ≤ (jp : Int) + 1 := by omega
          have p1 : (0 : Int) < (jp : Int) + 1 := by omega
          have e0 : ((jp : Int) + 1).toNat = jp + 1 := by omega
          have jz : (jp : Int) + 1 < (n : Int) := by omega
          have jz1 : (jp : Int) < (n : Int) := by omega
          have jzn : jp < n := by omega
          cases hq : fcmp .lss .f32 (el (cl ps) (elv L (jp + 1))) (el (cl ps) (elv L jp)) with
          | false =>
            obtain ⟨cv, hcv⟩ : ∃ cv, cmpC (el (cl ps) (elv L (jp + 1))) (el (cl ps) (elv L jp)) = cv := ⟨_, rfl⟩
            have hcm : ¬ cv < 0 := by rw [← hcv]; exact cmpC_not hq
            have HCV := Lib.hid hcv
            clear hcv
            go_wp2_with fail
            refine wp_region_lex (fun _ => Drawn wr) (fun _ => false) (fun _ v => v = .int .i64 cv) (by kernel_rfl) (by kernel_rfl) (by kernel_rfl) (fun _ => drawn_more _) (fun _ => ⟨0, rfl⟩) (fun n0 => ?_)
            (refine lw_move rfl rfl rfl rfl ?_; go_simp)
            (refine lw_move rfl rfl rfl rfl ?_; go_simp)
            (refine lw_valD rfl rfl (fun nn => by go_simp; rfl) ?_; go_simp)
            (refine lw_move rfl rfl rfl rfl ?_; go_simp)
            (refine lw_move rfl rfl rfl rfl ?_; go_simp)
            (refine lw_move rfl rfl rfl rfl ?_; go_simp)
            (refine lw_move rfl rfl rfl rfl ?_; go_simp)
            (refine lw_valD rfl rfl (fun nn => by go_simp; rfl) ?_; go_simp)
            (refine lw_valD rfl rfl (fun nn => by go_simp; rfl) ?_; go_simp)
            (refine lw_move rfl rfl rfl rfl ?_; go_simp)
            (refine lw_move rfl rfl rfl rfl ?_; go_simp)
            (refine lw_valD rfl rfl (fun nn => by go_simp; rfl) ?_; go_simp)
            (refine lw_valD rfl rfl (fun nn => by go_simp; rfl) ?_; go_simp)
            (refine lw_valD rfl rfl (fun nn => by go_simp; rfl) ?_; go_simp)
            refine lw_call (args := #[.int .i64 ((elv L (jp + 1) : Nat) : Int), .int .i64 ((elv L jp : Nat) : Int), .pointer (some ⟨B, 0, none⟩)]) rfl rfl (fun w' hw' => by go_simp; try rfl) (fun w' hw' => by (obtain ⟨mm, rfl⟩ : Drawn wr w' := hw'); exact (srtClo_any B _ _ pa pc ps (wr.drewN mm) (by exact hB') (by exact hp') (by omega) hbx hby hnan).mono fun e w'' ⟨h1, h2⟩ => ⟨_, h1, congrArg (Value.int .i64) HCV.out, h2⟩) ?_
            rintro _ rfl
            go_simp
            (refine lw_valD rfl rfl (fun nn => by go_simp; rfl) ?_; go_simp)
            (refine lw_valD rfl rfl (fun nn => by go_simp; rfl) ?_; go_simp)
            refine lw_nil fun n8 => ?_
            have hsrt : Hid (sortK (cl ps) L0 (m + 1) = L) := by
              unfold Hid; show insK (cl ps) m (sortK (cl ps) L0 m) = L; rw [← HSL.out, ← hLi.out]; exact insK_stop hq
            clear hwp p0 p1 e0 jz jz1
            go_wp2_with fail
            go_roundw
            case rel => exact ⟨m + 1, by omega, by omega, by go_num, by rw [hsrt.out]; exact hI.drewN _, hEi.drewN _⟩
            case measure => simp [intOf]; omega
          | true =>
            have HCV := Lib.hid (cmpC_neg hq)
            have hins : Hid (insK (cl ps) jp (swp L jp) = insK (cl ps) m SL) := by unfold Hid; rw [← hLi.out]; exact (insK_go hq).symm
            go_wp2_with fail
            refine wp_region_lex (fun _ => Drawn wr) (fun _ => false) (fun _ v => v = .int .i64 (-1)) (by kernel_rfl) (by kernel_rfl) (by kernel_rfl) (fun _ => drawn_more _) (fun _ => ⟨0, rfl⟩) (fun n0 => ?_)
            (refine lw_move rfl rfl rfl rfl ?_; go_simp)
            (refine lw_move rfl rfl rfl rfl ?_; go_simp)
            (refine lw_valD rfl rfl (fun nn => by go_simp; rfl) ?_; go_simp)
            (refine lw_move rfl rfl rfl rfl ?_; go_simp)
            (refine lw_move rfl rfl rfl rfl ?_; go_simp)
            (refine lw_move rfl rfl rfl rfl ?_; go_simp)
            (refine lw_move rfl rfl rfl rfl ?_; go_simp)
            (refine lw_valD rfl rfl (fun nn => by go_simp; rfl) ?_; go_simp)
            (refine lw_valD rfl rfl (fun nn => by go_simp; rfl) ?_; go_simp)
            (refine lw_move rfl rfl rfl rfl ?_; go_simp)
            (refine lw_move rfl rfl rfl rfl ?_; go_simp)
            (refine lw_valD rfl rfl (fun nn => by go_simp; rfl) ?_; go_simp)
            (refine lw_valD rfl rfl (fun nn => by go_simp; rfl) ?_; go_simp)
            (refine lw_valD rfl rfl (fun nn => by go_simp; rfl) ?_; go_simp)
            refine lw_call (args := #[.int .i64 ((elv L (jp + 1) : Nat) : Int), .int .i64 ((elv L jp : Nat) : Int), .pointer (some ⟨B, 0, none⟩)]) rfl rfl (fun w' hw' => by go_simp; try rfl) (fun w' hw' => by (obtain ⟨mm, rfl⟩ : Drawn wr w' := hw'); exact (srtClo_any B _ _ pa pc ps (wr.drewN mm) (by exact hB') (by exact hp') (by omega) hbx hby hnan).mono fun e w'' ⟨h1, h2⟩ => ⟨_, h1, congrArg (Value.int .i64) HCV.out, h2⟩) ?_
            rintro _ rfl
            go_simp
            (refine lw_valD rfl rfl (fun nn => by go_simp; rfl) ?_; go_simp)
            (refine lw_valD rfl rfl (fun nn => by go_simp; rfl) ?_; go_simp)
            refine lw_nil fun n8 => ?_
            have hI9 := (hI.drewN n0).drewN n8
            have hE9 : Ext w0 ((wr.drewN n0).drewN n8) := (hEi.drewN n0).drewN n8
            clear hcx hcy hfx hfy
            generalize (wr.drewN n0).drewN n8 = w9 at hI9 hE9 ⊢
            clear hI hEi n0 n8 hB' hp'
            have hcx : w9.cell? ⟨g, jp + 1, none⟩ = some (fN (elv L (jp + 1))) := by
              obtain ⟨_, e5, _, _, h, _⟩ := OwnV.at hI9 (k := jp + 1) (by have := hLn.out; omega)
              injection e5 with e5; injection e5 with e5; subst e5; exact h
            have hcy : w9.cell? ⟨g, jp, none⟩ = some (fN (elv L jp)) := by
              obtain ⟨_, e5, _, _, h, _⟩ := OwnV.at hI9 (k := jp) (by have := hLn.out; omega)
              injection e5 with e5; injection e5 with e5; subst e5; exact h
            have hfx := OwnV.frozen hI9 (jp + 1)
            go_wp2_with fail
            refine wp_region_mix (ownU [9, 13] (Drawn w9) (fun _ => True)) (fun i => i == 15 || i == 17) (fun _ _ => True) (by kernel_rfl) (by kernel_rfl) (by kernel_rfl) (ownU_drew (drawn_more _) (fun _ _ h => h)) (ownU_all (drawn_self _) trivial) (fun n0 => ?_)
            repeat (first
          | (refine lx_nil ?_; intro nq)
          | (refine lx_skip rfl ?_; go_simp)
          | (refine lx_move rfl rfl rfl rfl ?_; go_simp)
          | (refine lx_assign rfl rfl rfl rfl ?_; go_simp)
          | (refine lx_bin rfl rfl rfl rfl rfl rfl (by first | assumption | exact is_ofInt _ _ | exact is_self) (by first | assumption | exact is_ofInt _ _ | exact is_self) ?_; intro r hr; go_simp)
          | (refine lx_val rfl rfl (fun w' _ => by go_simp; rfl) ?_; go_simp)
          | (refine lx_val rfl rfl (fun w' hw' => by (obtain ⟨mm, rfl⟩ : Drawn w9 w' := hw'); go_simp; rfl) ?_; go_simp))
            refine lx_effS rfl rfl (W' := fun n => ((w9.drewN n0).drewN n).setCell ⟨g, jp + 1, none⟩ (fN (elv L jp))) (fun n => by go_simp; try rfl) (fun n => ownU_aft (by kernel_rfl) trivial) (fun n1 => ?_)
            have hI10 := (OwnV.stored ((hI9.drewN n0).drewN n1) (jp + 1) (elv L jp)).1
            have hE10 : Ext w0 (((w9.drewN n0).drewN n1).setCell ⟨g, jp + 1, none⟩ (fN (elv L jp))) := Ext.setCell ((hE9.drewN n0).drewN n1) hgb _
            clear hcx hcy hfx
            generalize ((w9.drewN n0).drewN n1).setCell ⟨g, jp + 1, none⟩ (fN (elv L jp)) = w10 at hI10 hE10 ⊢
            have hcy : ∃ v, w10.cell? ⟨g, jp, none⟩ = some v := by
              obtain ⟨_, e5, _, _, h, _⟩ := OwnV.at hI10 (k := jp) (by rw [List.length_set]; have := hLn.out; omega)
              injection e5 with e5; injection e5 with e5; subst e5; exact ⟨_, h⟩
            obtain ⟨vy, hcy⟩ := hcy
            have hfy := OwnV.frozen hI10 jp
            go_simp
            repeat (first
          | (refine lx_nil ?_; intro nq)
          | (refine lx_skip rfl ?_; go_simp)
          | (refine lx_move rfl rfl rfl rfl ?_; go_simp)
          | (refine lx_assign rfl rfl rfl rfl ?_; go_simp)
          | (refine lx_bin rfl rfl rfl rfl rfl rfl (by first | assumption | exact is_ofInt _ _ | exact is_self) (by first | assumption | exact is_ofInt _ _ | exact is_self) ?_; intro r hr; go_simp)
          | (refine lx_val rfl rfl (fun w' _ => by go_simp; rfl) ?_; go_simp)
          | (refine lx_val rfl rfl (fun w' hw' => by (obtain ⟨mm, rfl⟩ : Drawn w9 w' := hw'); go_simp; rfl) ?_; go_simp))
            refine lx_effS rfl rfl (W' := fun n => (w10.drewN n).setCell ⟨g, jp, none⟩ (fN (elv L (jp + 1)))) (fun n => by go_simp; try rfl) (fun n => ownU_aft (by kernel_rfl) trivial) (fun n2 => ?_)
            refine lx_nil fun n3 => ?_
            have hI11 := ((OwnV.stored (hI10.drewN n2) jp (elv L (jp + 1))).1).drewN n3
            have hE11 : Ext w0 (((w10.drewN n2).setCell ⟨g, jp, none⟩ (fN (elv L (jp + 1)))).drewN n3) := (Ext.setCell (hE10.drewN n2) hgb _).drewN n3
            replace hI11 := Lib.hid hI11
            clear hI10 hE10 hI9 hE9 hcy hfy
            generalize ((w10.drewN n2).setCell ⟨g, jp, none⟩ (fN (elv L (jp + 1)))).drewN n3 = w11 at hI11 hE11 ⊢
            go_wp2_with fail
            go_roundw
            case rel => exact ⟨jp, swp L jp, by omega, (by first | rfl | go_num), by unfold Hid; rw [swp_len]; exact hLn.out, below_swp hLb' (by rw [hLn.out]; omega), hins, hI11.out, hE11⟩
            case measure => simp [intOf]
    · obtain rfl : n = m := by omega
      go_wp2_with fail
      first | go_end0 | go_ret
      exact ⟨rfl, hO, hE⟩
end Go.Proofs.Ytnjgcacnfobmiaa
