/- Complex numbers: the walk's laws, and the small functions over them, the reference's and the program's. -/
import Derived.Test.YtnjgcacnfobmiaaFRayI
import Derived.Test.YtnjgcacnfobmiaaCpxF
namespace Go.Proofs.Ytnjgcacnfobmiaa
open Go.RowKit
set_option maxRecDepth 100000
set_option linter.unusedVariables false

section
variable {P : Program} {ops : Array Oper} {Q : Exit → Act → World → Prop} {a : Act} {w : World} {rest : List Oper} {o : Oper}
theorem run_part {op : BinOp} (hop : op = .add ∨ op = .sub) {k : FloatKind} {x y s t : Nat} (hx : Is k x s) (hy : Is k y t) (w : World) :
    ∃ r n, (Op.Complex.arith op k x y).run P w = .ok r (w.drewN n) ∧ Is k r (fop op k s t) := by
  cases h : floatBits op k x y with
  | some r =>
    refine ⟨r, 0, ?_, is_fop_some hx hy h⟩
    unfold floatBits at h
    show _ = Result.ok r w
    rcases hop with rfl | rfl <;> simp only [] at h <;> simp [Op.Complex.arith, Op.floatArith, h]
  | none =>
    refine ⟨_, 1, ?_, is_fop_none hx hy h (nanBits_nan k x y (w.tape w.drawn (.nanBits k x y)))⟩
    unfold floatBits at h
    rw [← drew_one]
    rcases hop with rfl | rfl <;> simp only [] at h <;> simp [Op.Complex.arith, Op.floatArith, h, Question.forced]
theorem wl_cbin (hg : Region.wanted o (yielded ops a.tmps) = true) {op : BinOp} {ty ty' : TypeId} {x y : Operand} (ho : o.op = .binOp op ty x y ty') (hop : op = .add ∨ op = .sub) {xr xi yr yi : Nat}
    (hx : a.eval x = .complex .f32 xr xi) (hy : a.eval y = .complex .f32 yr yi) {s t : Nat × Nat} (i1 : Is .f32 xr s.1) (i2 : Is .f32 xi s.2) (i3 : Is .f32 yr t.1) (i4 : Is .f32 yi t.2)
    (h : ∀ r i n, Is .f32 r (fop op .f32 s.1 t.1) → Is .f32 i (fop op .f32 s.2 t.2) → wpList P ops Q rest (a.put o.dst (.complex .f32 r i)) (w.drewN n)) : wpList P ops Q (o :: rest) a w := by
  obtain ⟨r, n, h1, h2⟩ := run_part (P := P) hop i1 i3 w
  obtain ⟨i, m, h3, h4⟩ := run_part (P := P) hop i2 i4 (w.drewN n)
  rw [drewN_drewN'] at h3
  refine wl_of_run hg ?_ (h r i (n + m) h2 h4)
  rcases hop with rfl | rfl <;> simp [execOp, ho, hx, hy, eqGuard, binOp, Op.complexOp, h1, h3, Result.andThen]
theorem run_fwid {b s : Nat} (h : Is .f32 b s) (w : World) : ∃ r n, (Conv.floatToFloat .f32 b .f64).run P w = .ok (.float .f64 r) (w.drewN n) ∧ Is .f64 r (fwiden s) := by
  unfold Is at *
  subst h
  cases hb : isNan .f32 b with
  | true =>
    obtain ⟨sg, t, e⟩ := read_nan hb
    have e' : FloatKind.f32.decode b = .nan sg t := e
    refine ⟨(Question.nanConv .f64 b).cut (w.tape w.drawn (.nanConv .f64 b)), 1, ?_, ?_⟩
    · rw [← drew_one]
      simp [Conv.floatToFloat, e', Question.forced]
    · rw [canon_of_nan (nanConv_nan _ _ _), fwiden, isNan_canon, hb]; rfl
  | false =>
    have hc : fwiden (canon .f32 b) = FloatKind.f64.encode (FloatKind.f32.decode b) := by rw [canon_of_not hb]; unfold fwiden; rw [hb]; rfl
    have hn : isNan .f64 (FloatKind.f64.encode (FloatKind.f32.decode b)) = false := by
      refine write_not Ieee.double ?_
      rcases read_not hb with ⟨sg, m, e, he⟩ | ⟨sg, he⟩ <;> (show (FloatKind.f32.format.read b).isNaN = false) <;> rw [he] <;> rfl
    refine ⟨FloatKind.f64.encode (FloatKind.f32.decode b), 0, ?_, ?_⟩
    · show _ = Result.ok _ w
      rcases read_not hb with ⟨sg, m, e, he⟩ | ⟨sg, he⟩
      · have he' : FloatKind.f32.decode b = .number sg m e := he
        have hf : (FloatKind.f64.decode (FloatKind.f64.encode (.number sg m e))).isInfinity = false := widen_finite b he
        simp [Conv.floatToFloat, he', hf]
      · have he' : FloatKind.f32.decode b = .infinity sg := he
        simp [Conv.floatToFloat, he']
    · rw [hc, canon_of_not hn]
theorem wl_cwiden (hg : Region.wanted o (yielded ops a.tmps) = true) {src dst : TypeId} {x : Operand} (ho : o.op = .convert src dst x) {xr xi s t : Nat} (hx : a.eval x = .complex .f32 xr xi)
    (hs : (P.underlying src).isSome = true) (hd : P.underlying dst = some (.complex .f64)) (i1 : Is .f32 xr s) (i2 : Is .f32 xi t)
    (h : ∀ r i n, Is .f64 r (fwiden s) → Is .f64 i (fwiden t) → wpList P ops Q rest (a.put o.dst (.complex .f64 r i)) (w.drewN n)) : wpList P ops Q (o :: rest) a w := by
  obtain ⟨r, n, h1, h2⟩ := run_fwid (P := P) i1 w
  obtain ⟨i, m, h3, h4⟩ := run_fwid (P := P) i2 (w.drewN n)
  rw [drewN_drewN'] at h3
  obtain ⟨u, hs'⟩ := Option.isSome_iff_exists.1 hs
  refine wl_of_run hg ?_ (h r i (n + m) h2 h4)
  cases u <;> simp [execOp, ho, hx, convert, run_underlying hs', run_underlying hd, Conv.complexToComplex, h1, h3, Result.andThen]
end
/-- A complex number of two classes. -/
def GivesC (z : Nat × Nat) (w : World) (e : Ending) (w' : World) : Prop := ∃ r i n, e = .returned (.complex .f32 r i) ∧ Is .f32 r z.1 ∧ Is .f32 i z.2 ∧ w' = w.drewN n
def GivesCW (z : Nat × Nat) (w : World) (e : Ending) (w' : World) : Prop := ∃ r i n, e = .returned (.complex .f64 r i) ∧ Is .f64 r z.1 ∧ Is .f64 i z.2 ∧ w' = w.drewN n
def GivesDD (s t : Nat) (w : World) (e : Ending) (w' : World) : Prop := ∃ r i n, e = .returned (.tuple #[.float .f64 r, .float .f64 i]) ∧ Is .f64 r s ∧ Is .f64 i t ∧ w' = w.drewN n
/-- A complex number and a Bool. -/
def GivesCE (o : Option (Nat × Nat)) (w : World) (e : Ending) (w' : World) : Prop := ∃ r i, e = .returned (.tuple #[.complex .f32 r i, .bool o.isSome]) ∧ Is .f32 r ((o.map (·.1)).getD 0) ∧ Is .f32 i ((o.map (·.2)).getD 0) ∧ Ext w w'
theorem givesCE_none {o : Option (Nat × Nat)} (h : o = none) {w w' : World} (he : Ext w w') : GivesCE o w (.returned (.tuple #[.complex .f32 0 0, .bool false])) w' := by
  subst h; exact ⟨0, 0, rfl, is_zero, is_zero, he⟩
theorem givesCE_some {o : Option (Nat × Nat)} {z : Nat × Nat} {r i : Nat} (h : o = some z) (hr : Is .f32 r z.1) (hi : Is .f32 i z.2) {w w' : World} (he : Ext w w') : GivesCE o w (.returned (.tuple #[.complex .f32 r i, .bool true])) w' := by
  subst h; exact ⟨r, i, rfl, hr, hi, he⟩
theorem GivesCE.no {o : Option (Nat × Nat)} {w : World} {e : Ending} {w' : World} (h : o = none) (hg : GivesCE o w e w') : ∃ r q, e = .returned (.tuple #[.complex .f32 r q, .bool false]) ∧ Is .f32 r 0 ∧ Is .f32 q 0 ∧ Ext w w' := by
  subst h; obtain ⟨r, q, h1, h2, h3, h4⟩ := hg; exact ⟨r, q, h1, h2, h3, h4⟩
theorem GivesCE.yes {o : Option (Nat × Nat)} {c : Nat × Nat} {w : World} {e : Ending} {w' : World} (h : o = some c) (hg : GivesCE o w e w') : ∃ r q, e = .returned (.tuple #[.complex .f32 r q, .bool true]) ∧ Is .f32 r c.1 ∧ Is .f32 q c.2 ∧ Ext w w' := by
  subst h; obtain ⟨r, q, h1, h2, h3, h4⟩ := hg; exact ⟨r, q, h1, h2, h3, h4⟩

/-! ### The program's -/
theorem scaleI_any (a b h : Nat) (x : Nat × Nat) (t : Nat) (w : World) (ha : Is .f32 a x.1) (hb : Is .f32 b x.2) (hh : Is .f32 h t) : Calls Try.prog 149 #[.complex .f32 a b, .float .f32 h] w (GivesC (scl x t) w) := by
  go_enter Try.func149, Try.ntmps149
  go_wp2_with (first | (refine wl_bin rfl rfl rfl rfl rfl ha hh ?_; intro r1 n1 hr1) | (refine wl_bin rfl rfl rfl rfl rfl hb hh ?_; intro r2 n2 hr2))
  go_ret
  exact ⟨_, _, _, rfl, hr1, hr2, rfl⟩
theorem lessI_any (a b c d : Nat) (x y : Nat × Nat) (w : World) (ha : Is .f32 a x.1) (hb : Is .f32 b x.2) (hc : Is .f32 c y.1) (hd : Is .f32 d y.2) : Calls Try.prog 176 #[.complex .f32 a b, .complex .f32 c d] w (GivesC (csub x y) w) := by
  go_enter Try.func176, Try.ntmps176
  go_wp2_with (first | (refine wl_bin rfl rfl rfl rfl rfl ha hc ?_; intro r1 n1 hr1) | (refine wl_bin rfl rfl rfl rfl rfl hb hd ?_; intro r2 n2 hr2))
  go_ret
  exact ⟨_, _, _, rfl, hr1, hr2, rfl⟩
theorem plusI_any (a b c d : Nat) (x y : Nat × Nat) (w : World) (ha : Is .f32 a x.1) (hb : Is .f32 b x.2) (hc : Is .f32 c y.1) (hd : Is .f32 d y.2) : Calls Try.prog 141 #[.complex .f32 a b, .complex .f32 c d] w (GivesC (cadd x y) w) := by
  go_enter Try.func141, Try.ntmps141
  go_wp2_with (first | (refine wl_bin rfl rfl rfl rfl rfl ha hc ?_; intro r1 n1 hr1) | (refine wl_bin rfl rfl rfl rfl rfl hb hd ?_; intro r2 n2 hr2))
  go_ret
  exact ⟨_, _, _, rfl, hr1, hr2, rfl⟩
theorem conjI_any (a b : Nat) (x : Nat × Nat) (w : World) (ha : Is .f32 a x.1) (hb : Is .f32 b x.2) : Calls Try.prog 196 #[.complex .f32 a b] w (GivesC (cnj x) w) := by
  go_enter Try.func196, Try.ntmps196
  go_wp2_with (refine wl_neg rfl rfl rfl hb ?_; intro r hr)
  go_ret
  exact ⟨_, _, 0, rfl, ha, hr, rfl⟩
theorem partsI_any (a b s t : Nat) (w : World) (ha : Is .f32 a s) (hb : Is .f32 b t) : Calls Try.prog 204 #[.complex .f32 a b] w (GivesDD (fwiden s) (fwiden t) w) := by
  go_enter Try.func204, Try.ntmps204
  go_wp2_with (first | (refine wl_widen rfl rfl rfl (by first | exact rfl | kernel_rfl) (by kernel_rfl) ha ?_; intro r1 n1 hr1) | (refine wl_widen rfl rfl rfl (by first | exact rfl | kernel_rfl) (by kernel_rfl) hb ?_; intro r2 n2 hr2))
  go_ret2
  exact ⟨_, _, _, rfl, hr1, hr2, rfl⟩
theorem productI_any (a b c d : Nat) (x y : Nat × Nat) (w : World) (ha : Is .f32 a x.1) (hb : Is .f32 b x.2) (hc : Is .f32 c y.1) (hd : Is .f32 d y.2) : Calls Try.prog 195 #[.complex .f32 a b, .complex .f32 c d] w (GivesDD (wre x y) (wim x y) w) := by
  go_enter Try.func195, Try.ntmps195
  go_wp2_with (first | (go_at_call 204; refine (partsI_any _ _ _ _ _ (by assumption) (by assumption)).mono ?_; first | ((have hp0 := hp1); rintro _ _ ⟨q1, q2, m2, rfl, hq1, hq2, rfl⟩; clear hp0) | rintro _ _ ⟨p1, p2, m1, rfl, hp1, hp2, rfl⟩) | (refine wl_bin rfl rfl rfl rfl rfl hp1 hq1 ?_; intro r1 n1 hr1) | (refine wl_bin rfl rfl rfl rfl rfl hp2 hq2 ?_; intro r2 n2 hr2) | (refine wl_bin rfl rfl rfl rfl rfl hr1 hr2 ?_; intro r3 n3 hr3) | (refine wl_bin rfl rfl rfl rfl rfl hp1 hq2 ?_; intro r4 n4 hr4) | (refine wl_bin rfl rfl rfl rfl rfl hp2 hq1 ?_; intro r5 n5 hr5) | (refine wl_bin rfl rfl rfl rfl rfl hr4 hr5 ?_; intro r6 n6 hr6))
  go_ret2
  exact ⟨_, _, _, rfl, hr3, hr6, rfl⟩
theorem powerI_any (a b : Nat) (x : Nat × Nat) (w : World) (ha : Is .f32 a x.1) (hb : Is .f32 b x.2) : Calls Try.prog 197 #[.complex .f32 a b] w (GivesF .f64 (pow2 x) w) := by
  go_enter Try.func197, Try.ntmps197
  go_wp2_with (first | (go_at_call 204; refine (partsI_any _ _ _ _ _ ha hb).mono ?_; rintro _ _ ⟨p1, p2, m1, rfl, hp1, hp2, rfl⟩) | (refine wl_bin rfl rfl rfl rfl rfl hp1 hp1 ?_; intro r1 n1 hr1) | (refine wl_bin rfl rfl rfl rfl rfl hp2 hp2 ?_; intro r2 n2 hr2) | (refine wl_bin rfl rfl rfl rfl rfl hr1 hr2 ?_; intro r3 n3 hr3))
  go_ret
  exact ⟨_, _, rfl, hr3, rfl⟩
theorem quotI_any (a b c d : Nat) (x y : Nat × Nat) (w : World) (ha : Is .f32 a x.1) (hb : Is .f32 b x.2) (hc : Is .f32 c y.1) (hd : Is .f32 d y.2) (hok : quoOk x y) : Calls Try.prog 175 #[.complex .f32 a b, .complex .f32 c d] w (GivesC (quoC x y) w) := by
  go_enter Try.func175, Try.ntmps175
  go_wp2_with (first | (go_at_call 196; refine (conjI_any _ _ y _ hc hd).mono ?_; rintro _ _ ⟨p1, p2, m1, rfl, hp1, hp2, rfl⟩) | (go_at_call 195; refine (productI_any _ _ _ _ x (cnj y) _ ha hb hp1 hp2).mono ?_; rintro _ _ ⟨q1, q2, m2, rfl, hq1, hq2, rfl⟩) | (go_at_call 197; refine (powerI_any _ _ y _ hc hd).mono ?_; rintro _ _ ⟨by1, m3, rfl, hby, rfl⟩) | (refine wl_bin rfl rfl rfl rfl rfl hq1 hby ?_; intro r1 n1 hr1) | (refine wl_bin rfl rfl rfl rfl rfl hq2 hby ?_; intro r2 n2 hr2) | (refine wl_narrow rfl rfl rfl (by first | exact rfl | kernel_rfl) (by kernel_rfl) hr1 hok.1 ?_; intro r3 n3 hr3) | (refine wl_narrow rfl rfl rfl (by first | exact rfl | kernel_rfl) (by kernel_rfl) hr2 hok.2 ?_; intro r4 n4 hr4))
  go_ret
  exact ⟨_, _, _, rfl, hr3, hr4, rfl⟩
/-! ### The reference's -/
theorem scaleS_any (a b h : Nat) (x : Nat × Nat) (t : Nat) (w : World) (ha : Is .f32 a x.1) (hb : Is .f32 b x.2) (hh : Is .f32 h t) : Calls Try.prog 146 #[.complex .f32 a b, .float .f32 h] w (GivesC (scl x t) w) := by
  go_enter Try.func146, Try.ntmps146
  go_wp2_with (first | (refine wl_bin rfl rfl rfl rfl rfl ha hh ?_; intro r1 n1 hr1) | (refine wl_bin rfl rfl rfl rfl rfl hb hh ?_; intro r2 n2 hr2))
  go_ret
  exact ⟨_, _, _, rfl, hr1, hr2, rfl⟩
theorem conjS_any (a b : Nat) (x : Nat × Nat) (w : World) (ha : Is .f32 a x.1) (hb : Is .f32 b x.2) : Calls Try.prog 193 #[.complex .f32 a b] w (GivesC (cnj x) w) := by
  go_enter Try.func193, Try.ntmps193
  go_wp2_with (refine wl_neg rfl rfl rfl hb ?_; intro r hr)
  go_ret
  exact ⟨_, _, 0, rfl, ha, hr, rfl⟩
theorem wideS_any (a b s t : Nat) (w : World) (ha : Is .f32 a s) (hb : Is .f32 b t) : Calls Try.prog 192 #[.complex .f32 a b] w (GivesCW (fwiden s, fwiden t) w) := by
  go_enter Try.func192, Try.ntmps192
  go_wp2_with (first | (refine wl_widen rfl rfl rfl (by first | exact rfl | kernel_rfl) (by kernel_rfl) ha ?_; intro r1 n1 hr1) | (refine wl_widen rfl rfl rfl (by first | exact rfl | kernel_rfl) (by kernel_rfl) hb ?_; intro r2 n2 hr2))
  go_ret
  exact ⟨_, _, _, rfl, hr1, hr2, rfl⟩
theorem wideMulS_any (a b c d : Nat) (x y : Nat × Nat) (w : World) (hp1 : Is .f64 a (fwiden x.1)) (hp2 : Is .f64 b (fwiden x.2)) (hq1 : Is .f64 c (fwiden y.1)) (hq2 : Is .f64 d (fwiden y.2)) : Calls Try.prog 191 #[.complex .f64 a b, .complex .f64 c d] w (GivesCW (wre x y, wim x y) w) := by
  go_enter Try.func191, Try.ntmps191
  go_wp2_with (first | (refine wl_bin rfl rfl rfl rfl rfl hp1 hq1 ?_; intro r1 n1 hr1) | (refine wl_bin rfl rfl rfl rfl rfl hp2 hq2 ?_; intro r2 n2 hr2) | (refine wl_bin rfl rfl rfl rfl rfl hr1 hr2 ?_; intro r3 n3 hr3) | (refine wl_bin rfl rfl rfl rfl rfl hp1 hq2 ?_; intro r4 n4 hr4) | (refine wl_bin rfl rfl rfl rfl rfl hp2 hq1 ?_; intro r5 n5 hr5) | (refine wl_bin rfl rfl rfl rfl rfl hr4 hr5 ?_; intro r6 n6 hr6))
  go_ret
  exact ⟨_, _, _, rfl, hr3, hr6, rfl⟩
theorem powerS_any (a b : Nat) (x : Nat × Nat) (w : World) (ha : Is .f32 a x.1) (hb : Is .f32 b x.2) : Calls Try.prog 194 #[.complex .f32 a b] w (GivesF .f64 (pow2 x) w) := by
  go_enter Try.func194, Try.ntmps194
  go_wp2_with (first | (refine wl_widen rfl rfl rfl (by first | exact rfl | kernel_rfl) (by kernel_rfl) ha ?_; intro p1 n1 hp1) | (refine wl_widen rfl rfl rfl (by first | exact rfl | kernel_rfl) (by kernel_rfl) hb ?_; intro p2 n2 hp2) | (refine wl_bin rfl rfl rfl rfl rfl hp1 hp1 ?_; intro r1 n1 hr1) | (refine wl_bin rfl rfl rfl rfl rfl hp2 hp2 ?_; intro r2 n2 hr2) | (refine wl_bin rfl rfl rfl rfl rfl hr1 hr2 ?_; intro r3 n3 hr3))
  go_ret
  exact ⟨_, _, rfl, hr3, rfl⟩
theorem quotS_any (a b c d : Nat) (x y : Nat × Nat) (w : World) (ha : Is .f32 a x.1) (hb : Is .f32 b x.2) (hc : Is .f32 c y.1) (hd : Is .f32 d y.2) (hok : quoOk x y) : Calls Try.prog 170 #[.complex .f32 a b, .complex .f32 c d] w (GivesC (quoC x y) w) := by
  go_enter Try.func170, Try.ntmps170
  go_wp2_with (first | (go_at_call 192; refine (wideS_any _ _ _ _ _ (by assumption) (by assumption)).mono ?_; first | ((have hp0 := hs1); rintro _ _ ⟨t1, t2, m4, rfl, ht1, ht2, rfl⟩; clear hp0) | rintro _ _ ⟨s1, s2, m0, rfl, hs1, hs2, rfl⟩) | (go_at_call 193; refine (conjS_any _ _ y _ hc hd).mono ?_; rintro _ _ ⟨p1, p2, m1, rfl, hp1, hp2, rfl⟩) | (go_at_call 191; refine (wideMulS_any _ _ _ _ x (cnj y) _ hs1 hs2 ht1 ht2).mono ?_; rintro _ _ ⟨q1, q2, m2, rfl, hq1, hq2, rfl⟩) | (go_at_call 194; refine (powerS_any _ _ y _ hc hd).mono ?_; rintro _ _ ⟨by1, m3, rfl, hby, rfl⟩) | (refine wl_bin rfl rfl rfl rfl rfl hq1 hby ?_; intro r1 n1 hr1) | (refine wl_bin rfl rfl rfl rfl rfl hq2 hby ?_; intro r2 n2 hr2) | (go_at_call 181; refine (l01Narrow_any _ _ hr1 hok.1 _).mono ?_; rintro _ _ ⟨r3, m5, rfl, hr3, rfl⟩) | (go_at_call 181; refine (l01Narrow_any _ _ hr2 hok.2 _).mono ?_; rintro _ _ ⟨r4, m6, rfl, hr4, rfl⟩))
  go_ret
  exact ⟨_, _, _, rfl, hr3, hr4, rfl⟩
/-! ### Is it finite? -/
def cfin (z : Nat × Nat) : Bool := finK .f32 z.1 && finK .f32 z.2
theorem cfinS_any (a b : Nat) (x : Nat × Nat) (v : Bool) (w : World) (ha : Is .f32 a x.1) (hb : Is .f32 b x.2) (hv : cfin x = v) : Calls Try.prog 171 #[.complex .f32 a b] w (Gives (.bool v) w) := by
  have HV := Lib.hid hv
  clear hv
  cases h1 : finK .f32 x.1 with
  | false =>
    have h : Hid (v = false) := by unfold Hid; rw [← HV.out]; unfold cfin; rw [h1]; rfl
    go_enter Try.func171, Try.ntmps171
    go_wp2_with (go_at_call 97; refine (l01Finite_any _ _ _ ha h1 _).mono ?_; rintro _ _ ⟨rfl, n, rfl⟩)
    go_ret
    exact ⟨by rw [h.out]; rfl, _, rfl⟩
  | true =>
  cases h2 : finK .f32 x.2 with
  | false =>
    have h : Hid (v = false) := by unfold Hid; rw [← HV.out]; unfold cfin; rw [h1, h2]; rfl
    go_enter Try.func171, Try.ntmps171
    go_wp2_with (first | (go_at_call 97; refine (l01Finite_any _ _ _ ha h1 _).mono ?_; rintro _ _ ⟨rfl, n, rfl⟩) | (go_at_call 97; refine (l01Finite_any _ _ _ hb h2 _).mono ?_; rintro _ _ ⟨rfl, n, rfl⟩))
    go_ret
    exact ⟨by rw [h.out]; rfl, _, rfl⟩
  | true =>
    have h : Hid (v = true) := by unfold Hid; rw [← HV.out]; unfold cfin; rw [h1, h2]; rfl
    go_enter Try.func171, Try.ntmps171
    go_wp2_with (first | (go_at_call 97; refine (l01Finite_any _ _ _ ha h1 _).mono ?_; rintro _ _ ⟨rfl, n, rfl⟩) | (go_at_call 97; refine (l01Finite_any _ _ _ hb h2 _).mono ?_; rintro _ _ ⟨rfl, n, rfl⟩))
    go_ret
    exact ⟨by rw [h.out]; rfl, _, rfl⟩
theorem cfinI_any (a b : Nat) (x : Nat × Nat) (v : Bool) (w : World) (ha : Is .f32 a x.1) (hb : Is .f32 b x.2) (hv : cfin x = v) : Calls Try.prog 173 #[.complex .f32 a b] w (Gives (.bool v) w) := by
  have HV := Lib.hid hv
  clear hv
  cases h1 : finK .f32 x.1 with
  | false =>
    have h : Hid (v = false) := by unfold Hid; rw [← HV.out]; unfold cfin; rw [h1]; rfl
    go_enter Try.func173, Try.ntmps173
    go_wp2_with (go_at_call 99; refine (isFinite_any _ _ _ ha h1 _).mono ?_; rintro _ _ ⟨rfl, n, rfl⟩)
    go_ret
    exact ⟨by rw [h.out]; rfl, _, rfl⟩
  | true =>
  cases h2 : finK .f32 x.2 with
  | false =>
    have h : Hid (v = false) := by unfold Hid; rw [← HV.out]; unfold cfin; rw [h1, h2]; rfl
    go_enter Try.func173, Try.ntmps173
    go_wp2_with (first | (go_at_call 99; refine (isFinite_any _ _ _ ha h1 _).mono ?_; rintro _ _ ⟨rfl, n, rfl⟩) | (go_at_call 99; refine (isFinite_any _ _ _ hb h2 _).mono ?_; rintro _ _ ⟨rfl, n, rfl⟩))
    go_ret
    exact ⟨by rw [h.out]; rfl, _, rfl⟩
  | true =>
    have h : Hid (v = true) := by unfold Hid; rw [← HV.out]; unfold cfin; rw [h1, h2]; rfl
    go_enter Try.func173, Try.ntmps173
    go_wp2_with (first | (go_at_call 99; refine (isFinite_any _ _ _ ha h1 _).mono ?_; rintro _ _ ⟨rfl, n, rfl⟩) | (go_at_call 99; refine (isFinite_any _ _ _ hb h2 _).mono ?_; rintro _ _ ⟨rfl, n, rfl⟩))
    go_ret
    exact ⟨by rw [h.out]; rfl, _, rfl⟩
def cfinO (ok : Bool) (z : Nat × Nat) : Option (Nat × Nat) := if ok && cfin z then some z else none
theorem finCI_any (a b : Nat) (x : Nat × Nat) (ok : Bool) (w : World) (ha : Is .f32 a x.1) (hb : Is .f32 b x.2) : Calls Try.prog 139 #[.complex .f32 a b, .bool ok] w (GivesCE (cfinO ok x) w) := by
  cases ok with
  | false =>
    go_enter Try.func139, Try.ntmps139
    go_wp2_with fail
    go_ret2
    exact givesCE_none rfl (Ext.refl _)
  | true =>
  cases hf : cfin x with
  | false =>
    have h : Hid (cfinO true x = none) := by unfold Hid cfinO; rw [hf]; rfl
    go_enter Try.func139, Try.ntmps139
    go_wp2_with (go_at_call 173; refine (cfinI_any _ _ x _ _ ha hb hf).mono ?_; rintro _ _ ⟨rfl, n, rfl⟩)
    go_ret2
    exact givesCE_none h.out (by repeat (first | assumption | exact Ext.refl _ | apply Ext.drewN | apply Ext.alloc | (refine Ext.setCell ?_ (by first | assumption | exact Nat.le_refl _) _)))
  | true =>
    have h : Hid (cfinO true x = some x) := by unfold Hid cfinO; rw [hf]; rfl
    go_enter Try.func139, Try.ntmps139
    go_wp2_with (go_at_call 173; refine (cfinI_any _ _ x _ _ ha hb hf).mono ?_; rintro _ _ ⟨rfl, n, rfl⟩)
    go_ret2
    exact givesCE_some h.out ha hb (by repeat (first | assumption | exact Ext.refl _ | apply Ext.drewN | apply Ext.alloc | (refine Ext.setCell ?_ (by first | assumption | exact Nat.le_refl _) _)))
/-! ### The comparison -/
theorem sameC_yes (a b c d s t : Nat) (w : World) (ha : Is .f64 a s) (hb : Is .f64 b t) (hc : Is .f64 c s) (hd : Is .f64 d t) : Calls Try.prog 38 #[.complex .f64 a b, .complex .f64 c d] w (Gives (.bool true) w) := by
  go_enter Try.func38, Try.ntmps38
  go_wp2_with (go_at_call 30; refine (sameFloat_yes _ _ _ (by assumption) (by assumption) _).mono ?_; rintro _ _ ⟨rfl, n, rfl⟩)
  go_ret
  exact ⟨rfl, _, rfl⟩
end Go.Proofs.Ytnjgcacnfobmiaa
