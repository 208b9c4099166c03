/- Slices of complex numbers: the laws' own helpers over them. -/
import Derived.Test.YtnjgcacnfobmiaaHeapV
import Derived.Test.YtnjgcacnfobmiaaLexw
import Derived.Test.YtnjgcacnfobmiaaSqr
import Derived.Test.YtnjgcacnfobmiaaCpx
namespace Go.Proofs.Ytnjgcacnfobmiaa
open Go.RowKit
set_option maxRecDepth 100000
set_option linter.unusedVariables false
set_option linter.unusedSectionVars false

abbrev cx (z : Nat × Nat) : Value := .complex .f32 z.1 z.2
abbrev FRK := FRV cx
abbrev OwnK := OwnV cx 43
theorem info43 : (Try.prog.info? 43).map (fun i => (i.zero, i.size, i.bytes)) = some (some (.complex .f32 0 0), 1, 8) := by kernel_rfl
theorem underKS : Try.prog.underlying 49 = some (.slice 43) := by kernel_rfl
theorem cxCells (x : Nat × Nat) : (cx x).cells = #[cx x] ∧ (cx x).oneCell' = true := ⟨rfl, rfl⟩
/-- The classes. -/
def clz (xs : List (Nat × Nat)) : List (Nat × Nat) := xs.map fun z => (canon .f32 z.1, canon .f32 z.2)
theorem clz_length (xs : List (Nat × Nat)) : (clz xs).length = xs.length := by simp [clz]
theorem clz_append (xs ys : List (Nat × Nat)) : clz (xs ++ ys) = clz xs ++ clz ys := by simp [clz]
theorem is_elz {xs : List (Nat × Nat)} {k : Nat} (h : k < xs.length) : Is .f32 (elv xs k).1 (elv (clz xs) k).1 ∧ Is .f32 (elv xs k).2 (elv (clz xs) k).2 := by
  have e : elv (clz xs) k = (canon .f32 (elv xs k).1, canon .f32 (elv xs k).2) := by simp [elv, clz, List.getD, h]
  rw [e]
  exact ⟨rfl, rfl⟩
section
variable {P : Program} {ops : Array Oper} {Q : Exit → Act → World → Prop} {a : Act} {w : World} {rest : List Oper} {o : Oper}
variable {U : Nat → World → Prop} {eff : Nat → Bool} {An : Nat → Value → Prop} {k : Nat}
theorem lw_cwiden (hg : Region.wanted o (yielded ops a.tmps) = true) (he : eff k = false) {src dst : TypeId} {x : Operand} (ho : o.op = .convert src dst x) {xr xi s t : Nat} (hx : a.eval x = .complex .f32 xr xi)
    (hs : (P.underlying src).isSome = true) (hd : P.underlying dst = some (.complex .f64)) (i1 : Is .f32 xr s) (i2 : Is .f32 xi t)
    (h : ∀ r i, Is .f64 r (fwiden s) → Is .f64 i (fwiden t) → LexW P ops U eff An Q (k + 1) rest (a.put o.dst (.complex .f64 r i)) w) : LexW P ops U eff An Q k (o :: rest) a w :=
  ⟨lx_some hg he (fun v => ∃ r i, v = .complex .f64 r i ∧ Is .f64 r (fwiden s) ∧ Is .f64 i (fwiden t)) (fun w' _ => by
    obtain ⟨r, n, h1, h2⟩ := run_fwid (P := P) i1 w'
    obtain ⟨i, m, h3, h4⟩ := run_fwid (P := P) i2 (w'.drewN n)
    rw [drewN_drewN'] at h3
    obtain ⟨u, hs'⟩ := Option.isSome_iff_exists.1 hs
    refine ⟨_, n + m, ?_, r, i, rfl, h2, h4⟩
    cases u <;> simp [execOp, ho, hx, convert, run_underlying hs', run_underlying hd, Conv.complexToComplex, h1, h3, Result.andThen]) (fun v ⟨r, i, hv, h5, h6⟩ => by subst hv; exact (h r i h5 h6).out)⟩
theorem run_fnar {b : Nat} (hb : isNan .f64 b = false) (hok : narrowOk b = true) (w : World) : (Conv.floatToFloat .f64 b .f32).run P w = .ok (.float .f32 (fnarrow b)) w := by
  have hc : fnarrow b = FloatKind.f32.encode (FloatKind.f64.decode b) := by unfold fnarrow; rw [hb]; rfl
  rcases read_not hb with ⟨sg, m, e, he⟩ | ⟨sg, he⟩
  · have he' : FloatKind.f64.decode b = .number sg m e := he
    have hf : (FloatKind.f32.decode (FloatKind.f32.encode (.number sg m e))).isInfinity = false := by unfold narrowOk at hok; rw [he'] at hok; simpa using hok
    rw [hc, he']
    simp [Conv.floatToFloat, he', hf]
  · have he' : FloatKind.f64.decode b = .infinity sg := he
    rw [hc, he']
    simp [Conv.floatToFloat, he']
theorem wl_cnarrow (hg : Region.wanted o (yielded ops a.tmps) = true) {src dst : TypeId} {x : Operand} (ho : o.op = .convert src dst x) {xr xi : Nat} (hx : a.eval x = .complex .f64 xr xi)
    (hs : (P.underlying src).isSome = true) (hd : P.underlying dst = some (.complex .f32)) (n1 : isNan .f64 xr = false) (n2 : isNan .f64 xi = false) (o1 : narrowOk xr = true) (o2 : narrowOk xi = true)
    (h : wpList P ops Q rest (a.put o.dst (.complex .f32 (fnarrow xr) (fnarrow xi))) w) : wpList P ops Q (o :: rest) a w := by
  obtain ⟨u, hs'⟩ := Option.isSome_iff_exists.1 hs
  have h1 := run_fnar (P := P) n1 o1 w
  have h2 := run_fnar (P := P) n2 o2 w
  refine wl_of_run hg ?_ h
  cases u <;> simp [execOp, ho, hx, convert, run_underlying hs', run_underlying hd, Conv.complexToComplex, h1, h2, Result.andThen]
theorem run_ceq {k : FloatKind} {r : Nat} (h : isNan k r = false) (w : World) : (Op.Complex.cmp .eql k r r).run P w = .ok true w := by
  have h1 : fcmp .eql k r r = true := by rw [fcmp_eql_self, h]; rfl
  unfold fcmp at h1
  simp [Op.Complex.cmp, Op.floatCmp, asBool, h1]
theorem wl_cneq (hg : Region.wanted o (yielded ops a.tmps) = true) {ty ty' : TypeId} {x y : Operand} (ho : o.op = .binOp .neq ty x y ty') {k : FloatKind} {r i : Nat}
    (hx : a.eval x = .complex k r i) (hy : a.eval y = .complex k r i) (n1 : isNan k r = false) (n2 : isNan k i = false)
    (h : wpList P ops Q rest (a.put o.dst (.bool false)) w) : wpList P ops Q (o :: rest) a w := by
  have h1 := run_ceq (P := P) n1 w
  have h2 := run_ceq (P := P) n2 w
  refine wl_of_run hg ?_ h
  simp [execOp, ho, hx, hy, eqGuard, binOp, Op.complexOp, h1, h2, Result.andThen]
end
/-! ### The marks -/
theorem ofInt_narrow {n : Int} (h0 : 0 ≤ n) (h1 : n ≤ 2000000000) : narrowOk (floatOfInt .f64 n) = true := by
  have e : floatOfInt .f64 n = mk .f64 (decide (n < 0)) (RR FloatKind.f64.format (nv n.natAbs 0)) := by
    unfold floatOfInt FloatKind.nearest
    exact nearest_mk .f64 _ _ _ (by decide)
  rw [e]
  refine narrow_of_le _ ?_
  have e2 : nv n.natAbs 0 = n.natAbs * tp 4096 := by unfold nv tp; rw [show ((0 : Int) + 4096).toNat = 4096 from rfl]
  have e3 : n.natAbs ≤ tp 65 := by
    have h4 : tp 65 = 36893488147419103232 := by decide
    rw [h4]; omega
  rw [e2, show tp 4161 = tp 65 * tp 4096 from (tp_add 65 4096).symm]
  exact Nat.mul_le_mul_right _ e3
theorem isNan_narrow {b : Nat} (hb : isNan .f64 b = false) : isNan .f32 (fnarrow b) = false := by
  have hc : fnarrow b = FloatKind.f32.encode (FloatKind.f64.decode b) := by unfold fnarrow; rw [hb]; rfl
  rw [hc]
  refine write_not Ieee.single ?_
  rcases read_not hb with ⟨sg, m, e, he⟩ | ⟨sg, he⟩ <;> (show (FloatKind.f64.format.read b).isNaN = false) <;> rw [he] <;> rfl
theorem one_nan : isNan .f64 4607182418800017408 = false := by decide +kernel
theorem one_ok : narrowOk 4607182418800017408 = true := by decide +kernel
def mkz (n : Int) : Nat × Nat := (fnarrow (floatOfInt .f64 n), fnarrow 4607182418800017408)
def marksK (m : Int) (n : Nat) : List (Nat × Nat) := (List.range n).map fun (i : Nat) => mkz (m + (i : Int))
theorem marksK_length (m : Int) (n : Nat) : (marksK m n).length = n := by simp [marksK]
theorem marksK_succ (m : Int) (n : Nat) : marksK m (n + 1) = marksK m n ++ [mkz (m + (n : Int))] := by simp [marksK, List.range_succ]
theorem elv_marksK (m : Int) (n i : Nat) (h : i < n) : elv (marksK m n) i = mkz (m + (i : Int)) := by simp [elv, marksK, List.getD, h]
set_option maxHeartbeats 1000000 in
theorem eqComplex64S_yes (ao bo : Option Addr) (ca cb : Nat) (xs ys : List (Nat × Nat)) (w : World) (hx : FRK w ao xs) (hy : FRK w bo ys) (he : clz xs = clz ys) (hl : xs.length ≤ 1048576) :
    Calls Try.prog 41 #[.slice ao xs.length ca, .slice bo ys.length cb] w (Gives (.bool true) w) := by
  have hlen : ys.length = xs.length := by have := congrArg List.length he; rw [clz_length, clz_length] at this; exact this.symm
  rw [hlen]
  go_enter Try.func41, Try.ntmps41
  go_wp2
  go_loopw [5] (fun i wr => ∃ k n : Nat, k ≤ xs.length ∧ i = .int .i64 k ∧ wr = w.drewN n) (fun i _ => xs.length - (intOf i).toNat)
  case atStart => exact ⟨0, 0, Nat.zero_le _, rfl, rfl⟩
  case round =>
    obtain ⟨k, n, hk, rfl, rfl⟩ := hrel
    by_cases hlt : k < xs.length
    · obtain ⟨b, off, rfl, hcell⟩ := hx k hlt
      obtain ⟨b', off', rfl, hcell'⟩ := hy k (by omega)
      change w.cell? ⟨b, off + k, none⟩ = some (.complex .f32 (elv xs k).1 (elv xs k).2) at hcell
      change w.cell? ⟨b', off' + k, none⟩ = some (.complex .f32 (elv ys k).1 (elv ys k).2) at hcell'
      obtain ⟨i1, i2⟩ := is_elz hlt
      obtain ⟨i3, i4⟩ := is_elz (xs := ys) (k := k) (by omega)
      rw [← he] at i3 i4
      have hlt2 : (k : Int) < (xs.length : Int) := by omega
      go_wp2
      refine wp_region_lex (fun _ => Drawn (w.drewN n)) (fun _ => false) (fun j v => v = .bool true) (by kernel_rfl) (by kernel_rfl) (by kernel_rfl) (fun _ => drawn_more _) (fun _ => ⟨0, rfl⟩) (fun nz => ?_)
      (refine lw_move rfl rfl rfl rfl ?_; go_simp)
      (refine lw_move rfl rfl rfl rfl ?_; go_simp)
      (refine lw_valD rfl rfl (fun nn => by go_simp; rfl) ?_; go_simp)
      (refine lw_valD rfl rfl (fun nn => by go_simp; rfl) ?_; go_simp)
      (refine lw_cwiden rfl rfl rfl rfl (by first | exact rfl | kernel_rfl) (by kernel_rfl) i1 i2 ?_; intro r1 r2 hr1 hr2; go_simp)
      (refine lw_move rfl rfl rfl rfl ?_; go_simp)
      (refine lw_move rfl rfl rfl rfl ?_; go_simp)
      (refine lw_valD rfl rfl (fun nn => by go_simp; rfl) ?_; go_simp)
      (refine lw_valD rfl rfl (fun nn => by go_simp; rfl) ?_; go_simp)
      (refine lw_cwiden rfl rfl rfl rfl (by first | exact rfl | kernel_rfl) (by kernel_rfl) i3 i4 ?_; intro q1 q2 hq1 hq2; go_simp)
      refine lw_call (args := #[.complex .f64 r1 r2, .complex .f64 q1 q2]) rfl rfl (fun w' hw' => by go_simp; try rfl) (fun w' hw' => (sameC_yes _ _ _ _ _ _ w' hr1 hr2 hq1 hq2).mono fun e w'' ⟨h1, m, h2⟩ => ⟨_, h1, rfl, m, h2⟩) ?_
      rintro _ rfl
      go_simp
      (refine lw_not rfl rfl rfl rfl ?_; go_simp)
      (refine lw_nil ?_; intro nq)
      go_wp2
      go_roundw
      case rel => exact ⟨k + 1, _, by omega, by go_num, by first | rfl | (simp only [drewN_drewN']; rfl)⟩
      case measure => simp [intOf]; omega
    · go_wp2
      go_ret
      exact ⟨rfl, _, rfl⟩
/-- The marks are laid. -/
theorem markComplex64S_any (base : Nat) (v : Value) (xs : List (Nat × Nat)) (m : Int) (w : World) (hown : OwnK w base v xs) (hl : xs.length ≤ 1048576) (h0 : 0 ≤ m) (h1 : m ≤ 1000000000) :
    Calls Try.prog 42 #[v, .int .i64 m] w fun e w' => e = .returned (.int .i64 (m + (xs.length : Int))) ∧ w.grownBy w' v.ownBlock ∧ OwnK w' base v (marksK m xs.length) := by
  obtain ⟨ao, cap, rfl, _⟩ := hown.fr
  go_enter Try.func42, Try.ntmps42
  go_wp2
  go_loopw [1, 5] (fun q i wr => ∃ k : Nat, k ≤ xs.length ∧ i = .int .i64 k ∧ q = .int .i64 (m + (k : Int)) ∧ w.grownBy wr (Value.slice ao xs.length cap).ownBlock ∧ OwnK wr base (.slice ao xs.length cap) (marksK m k ++ xs.drop k)) (fun _ i _ => xs.length - (intOf i).toNat)
  case atStart => exact ⟨0, Nat.zero_le _, rfl, by simp, grownBy_refl _ _, by simpa [marksK] using hown⟩
  case round =>
    obtain ⟨k, hk, rfl, rfl, hE, hO⟩ := hrel
    clear hown
    by_cases hlt : k < xs.length
    · have hlen : (marksK m k ++ xs.drop k).length = xs.length := by simp [marksK_length]; omega
      obtain ⟨g, rfl, _, _, hcur, hfz⟩ := hO.at (k := k) (by omega)
      have hst := hO.stored k (mkz (m + (k : Int)))
      have hO2 : Hid (OwnK (wr.setCell ⟨g, k, none⟩ (cx (mkz (m + (k : Int))))) base (.slice (some ⟨g, 0, none⟩) xs.length cap) (marksK m (k + 1) ++ xs.drop (k + 1))) := by
        have e : (marksK m k ++ xs.drop k).set k (mkz (m + (k : Int))) = marksK m (k + 1) ++ xs.drop (k + 1) := by
          rw [set_midV _ _ _ _ (marksK_length m k) (by simp; omega), marksK_succ, List.drop_drop]
        rw [← e]; exact hst.1
      have hE2 : Hid (w.grownBy (wr.setCell ⟨g, k, none⟩ (cx (mkz (m + (k : Int))))) (Value.slice (some ⟨g, 0, none⟩) xs.length cap).ownBlock) := grownBy_trans hE hst.2
      clear hst
      change wr.cell? ⟨g, k, none⟩ = some (.complex .f32 (elv (marksK m k ++ xs.drop k) k).1 (elv (marksK m k ++ xs.drop k) k).2) at hcur
      have n1 : isNan .f64 (floatOfInt .f64 (m + (k : Int))) = false := isNan_ofInt _ _
      have o1 : narrowOk (floatOfInt .f64 (m + (k : Int))) = true := ofInt_narrow (by omega) (by omega)
      have hsto := fun mm => run_store Try.prog wr ⟨g, k, none⟩ (.complex .f32 (fnarrow (floatOfInt .f64 (m + (k : Int)))) (fnarrow 4607182418800017408)) mm rfl
      go_wp2_with (refine wl_cnarrow rfl rfl rfl (by first | exact rfl | kernel_rfl) (by kernel_rfl) n1 one_nan o1 one_ok ?_)
      go_roundw
      case rel => exact ⟨k + 1, by omega, by go_num, by go_num, hE2.out, hO2.out⟩
      case measure => simp [intOf]; omega
    · go_wp2
      go_ret
      obtain rfl : k = xs.length := by omega
      exact ⟨rfl, hE, by simpa using hO⟩
/-- The marks are found. -/
theorem heldComplex64S_any (ao : Option Addr) (cap : Nat) (n : Nat) (m : Int) (w : World) (hc : FRK w ao (marksK m n)) (hl : n ≤ 1048576) (h0 : 0 ≤ m) (h1 : m ≤ 1000000000) :
    Calls Try.prog 43 #[.slice ao n cap, .int .i64 m] w fun e w' => e = .returned (.int .i64 (m + (n : Int))) ∧ w = w' := by
  go_enter Try.func43, Try.ntmps43
  go_wp2
  go_loop [1, 5] (fun q i => ∃ k : Nat, k ≤ n ∧ i = .int .i64 k ∧ q = .int .i64 (m + (k : Int))) (fun _ i => n - (intOf i).toNat)
  case atStart => exact ⟨0, Nat.zero_le _, rfl, by simp⟩
  case round =>
    obtain ⟨k, hk, rfl, rfl⟩ := hrel
    by_cases hlt : k < n
    · obtain ⟨b, off, rfl, hcell⟩ := hc k (by rw [marksK_length]; exact hlt)
      rw [elv_marksK m n k hlt] at hcell
      change w.cell? ⟨b, off + k, none⟩ = some (.complex .f32 (fnarrow (floatOfInt .f64 (m + (k : Int)))) (fnarrow 4607182418800017408)) at hcell
      have n1 : isNan .f64 (floatOfInt .f64 (m + (k : Int))) = false := isNan_ofInt _ _
      have o1 : narrowOk (floatOfInt .f64 (m + (k : Int))) = true := ofInt_narrow (by omega) (by omega)
      have n3 := isNan_narrow n1
      have n4 := isNan_narrow one_nan
      go_wp2_with (first | (refine wl_cnarrow rfl rfl rfl (by first | exact rfl | kernel_rfl) (by kernel_rfl) n1 one_nan o1 one_ok ?_) | (refine wl_cneq rfl rfl rfl rfl n3 n4 ?_))
      go_roundw
      case rel => exact ⟨k + 1, by omega, by go_num, by go_num⟩
      case measure => simp [intOf]; omega
    · go_wp2
      go_ret
      obtain rfl : k = n := by omega
      exact ⟨rfl, rfl⟩
/-- A slice of complex numbers and a Bool, by an option: none: a nil slice and false. -/
def GivesKO (o : Option (List (Nat × Nat))) (w : World) (e : Ending) (w' : World) : Prop := ∃ v zs, e = .returned (.tuple #[v, .bool o.isSome]) ∧ Ext w w' ∧ OwnK w' w.heap.size v zs ∧ clz zs = o.getD []
theorem givesKO_none {o : Option (List (Nat × Nat))} (h : o = none) {w w' : World} (he : Ext w w') : GivesKO o w (.returned (.tuple #[.slice none 0 0, .bool false])) w' := by
  subst h
  exact ⟨_, [], rfl, he, OwnV.nil _ _, rfl⟩
theorem givesKO_some {o : Option (List (Nat × Nat))} {ys zs : List (Nat × Nat)} (h : o = some ys) {w w' : World} {v : Value} (he : Ext w w') (hO : OwnK w' w.heap.size v zs) (hz : clz zs = ys) : GivesKO o w (.returned (.tuple #[v, .bool true])) w' := by
  subst h
  exact ⟨_, zs, rfl, he, hO, hz⟩
theorem OwnK.lt {w : World} {base : Nat} {v : Value} {xs : List (Nat × Nat)} (h : OwnK w base v xs) : ∀ k, v.ownBlock = some k → base ≤ k ∧ k < w.heap.size := OwnV.lt h
theorem OwnK.ext {w w' : World} {base : Nat} {v : Value} {xs : List (Nat × Nat)} (h : OwnK w base v xs) (he : Ext w w') : OwnK w' base v xs := OwnV.ext h he
theorem OwnK.mono {w : World} {base base' : Nat} {v : Value} {xs : List (Nat × Nat)} (h : OwnK w base v xs) (hb : base' ≤ base) : OwnK w base' v xs := OwnV.mono h hb
theorem OwnK.chg {w w' : World} {bs : Nat → Prop} {base : Nat} {v : Value} {xs : List (Nat × Nat)} (h : OwnK w base v xs) (hg : Chg bs w w') (hne : ∀ k, v.ownBlock = some k → ¬ bs k) : OwnK w' base v xs := OwnV.chg h hg hne
theorem OwnK.toFR {w : World} {base n cap : Nat} {ao : Option Addr} {xs : List (Nat × Nat)} (h : OwnK w base (.slice ao n cap) xs) : FRK w ao xs := OwnV.toFR h
theorem ownK_drew {w w1 w' : World} {base n : Nat} {v : Value} {xs : List (Nat × Nat)} (h : OwnK w base v xs) (e : w' = w1.drewN n) (hw : OwnK w base v xs → OwnK w1 base v xs := by exact id) : OwnK w' base v xs := by subst e; exact hw h
end Go.Proofs.Ytnjgcacnfobmiaa
