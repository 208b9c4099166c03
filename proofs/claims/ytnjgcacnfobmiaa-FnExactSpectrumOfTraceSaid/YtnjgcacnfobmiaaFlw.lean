/- The walk's laws for operations on floats whose NaN bits the tape picks. -/
import Derived.Test.YtnjgcacnfobmiaaFlo
import Derived.Test.YtnjgcacnfobmiaaMix
namespace Go.Proofs.Ytnjgcacnfobmiaa

/-! ### Comparisons on classes -/
theorem order_nan {k : FloatKind} {x y : Nat} (h : isNan k x = true ∨ isNan k y = true) : k.format.order x y = none := by
  unfold Ieee.Format.order
  rcases h with h | h
  · obtain ⟨s, t, e⟩ := read_nan h; rw [e]; rfl
  · obtain ⟨s, t, e⟩ := read_nan h; rw [e]; cases k.format.read x <;> rfl
theorem order_canon (k : FloatKind) (x y : Nat) : k.format.order (canon k x) (canon k y) = k.format.order x y := by
  cases hx : isNan k x with
  | true => rw [order_nan (.inl hx), order_nan (.inl (by rw [isNan_canon]; exact hx))]
  | false =>
    cases hy : isNan k y with
    | true => rw [order_nan (.inr hy), order_nan (.inr (by rw [isNan_canon]; exact hy))]
    | false => rw [canon_of_not hx, canon_of_not hy]
/-- A comparison, on classes. -/
def fcmp (op : BinOp) (k : FloatKind) (s t : Nat) : Bool :=
  match op with
  | .eql => k.format.order s t == some .eq
  | .neq => k.format.order s t != some .eq
  | .lss => k.format.order s t == some .lt
  | .leq => k.format.order s t == some .lt || k.format.order s t == some .eq
  | .gtr => k.format.order s t == some .gt
  | .geq => k.format.order s t == some .gt || k.format.order s t == some .eq
  | _ => false
def isCmp : BinOp → Bool
  | .eql | .neq | .lss | .leq | .gtr | .geq => true
  | _ => false
theorem fcmp_canon (op : BinOp) (k : FloatKind) (x y : Nat) : fcmp op k (canon k x) (canon k y) = fcmp op k x y := by unfold fcmp; rw [order_canon]

/-- The sign turned. -/
def fneg (k : FloatKind) (s : Nat) : Nat := if isNan k s then nanOf k else Op.negFloat k s
theorem isNan_neg (k : FloatKind) (b : Nat) : isNan k (Op.negFloat k b) = isNan k b := by
  cases k
  · have e : Op.negFloat .f32 b = b ^^^ 2 ^ 31 := rfl
    rw [isNan32, isNan32, e]
    have h : (b ^^^ 2 ^ 31) % 2147483648 = b % 2147483648 := by
      have := Nat.xor_mod_two_pow (a := b) (b := 2 ^ 31) (n := 31)
      simpa using this
    rw [h]
  · have e : Op.negFloat .f64 b = b ^^^ 2 ^ 63 := rfl
    rw [isNan64, isNan64, e]
    have h : (b ^^^ 2 ^ 63) % 9223372036854775808 = b % 9223372036854775808 := by
      have := Nat.xor_mod_two_pow (a := b) (b := 2 ^ 63) (n := 63)
      simpa using this
    rw [h]
theorem is_neg {k : FloatKind} {b s : Nat} (h : Is k b s) : Is k (Op.negFloat k b) (fneg k s) := by
  unfold Is at *
  subst h
  unfold fneg
  rw [isNan_canon]
  cases hb : isNan k b with
  | true => simp only [if_true]; exact canon_of_nan (by rw [isNan_neg, hb])
  | false => rw [canon_of_not hb, canon_of_not (by rw [isNan_neg, hb])]; simp
theorem is_self {k : FloatKind} {b : Nat} : Is k b (canon k b) := rfl
theorem isNan_ofInt (k : FloatKind) (n : Int) : isNan k (floatOfInt k n) = false := write_not k.format (d := .number (n < 0) n.natAbs 0) rfl
theorem is_ofInt (k : FloatKind) (n : Int) : Is k (floatOfInt k n) (floatOfInt k n) := canon_of_not (isNan_ofInt k n)

section
variable {P : Program}
theorem run_fcmp {op : BinOp} (hop : isCmp op = true) (ty : TypeId) {k : FloatKind} {x y s t : Nat} (hx : Is k x s) (hy : Is k y t) (w : World) :
    (binOp op ty (.float k x) (.float k y)).run P w = .ok (.bool (fcmp op k s t)) w := by
  unfold Is at hx hy
  rw [← hx, ← hy, fcmp_canon]
  cases op <;> simp only [isCmp, Bool.false_eq_true] at hop <;> simp [binOp, Op.floatCmp, fcmp]

theorem run_widen (src dst : TypeId) {b s : Nat} (h : Is .f32 b s) (hs : (P.underlying src).isSome = true) (hd : P.underlying dst = some (.float .f64)) (w : World) :
    ∃ r n, (convert src dst (.float .f32 b)).run P w = .ok (.float .f64 r) (w.drewN n) ∧ Is .f64 r (fwiden s) := by
  unfold Is at *
  subst h
  obtain ⟨u, hs'⟩ := Option.isSome_iff_exists.1 hs
  cases hb : isNan .f32 b with
  | true =>
    obtain ⟨sg, t, e⟩ := read_nan hb
    have e' : FloatKind.f32.decode b = .nan sg t := e
    refine ⟨(Question.nanConv .f64 b).cut (w.tape w.drawn (.nanConv .f64 b)), 1, ?_, ?_⟩
    · rw [← drew_one]
      cases u <;> simp [convert, run_underlying hs', run_underlying hd, Conv.floatToFloat, e', Question.forced]
    · rw [canon_of_nan (nanConv_nan _ _ _), fwiden, isNan_canon, hb]; rfl
  | false =>
    have hc : fwiden (canon .f32 b) = FloatKind.f64.encode (FloatKind.f32.decode b) := by rw [canon_of_not hb]; unfold fwiden; rw [hb]; rfl
    have hn : isNan .f64 (FloatKind.f64.encode (FloatKind.f32.decode b)) = false := by
      refine write_not Ieee.double ?_
      rcases read_not hb with ⟨sg, m, e, he⟩ | ⟨sg, he⟩ <;> (show (FloatKind.f32.format.read b).isNaN = false) <;> rw [he] <;> rfl
    refine ⟨FloatKind.f64.encode (FloatKind.f32.decode b), 0, ?_, ?_⟩
    · show _ = Result.ok _ w
      rcases read_not hb with ⟨sg, m, e, he⟩ | ⟨sg, he⟩
      · have he' : FloatKind.f32.decode b = .number sg m e := he
        have hf : (FloatKind.f64.decode (FloatKind.f64.encode (.number sg m e))).isInfinity = false := widen_finite b he
        cases u <;> simp [convert, run_underlying hs', run_underlying hd, Conv.floatToFloat, he', hf]
      · have he' : FloatKind.f32.decode b = .infinity sg := he
        cases u <;> simp [convert, run_underlying hs', run_underlying hd, Conv.floatToFloat, he']
    · rw [hc, canon_of_not hn]

theorem run_narrow (src dst : TypeId) {b s : Nat} (h : Is .f64 b s) (hok : narrowOk s = true) (hs : (P.underlying src).isSome = true) (hd : P.underlying dst = some (.float .f32)) (w : World) :
    ∃ r n, (convert src dst (.float .f64 b)).run P w = .ok (.float .f32 r) (w.drewN n) ∧ Is .f32 r (fnarrow s) := by
  unfold Is at *
  subst h
  obtain ⟨u, hs'⟩ := Option.isSome_iff_exists.1 hs
  cases hb : isNan .f64 b with
  | true =>
    obtain ⟨sg, t, e⟩ := read_nan hb
    have e' : FloatKind.f64.decode b = .nan sg t := e
    refine ⟨(Question.nanConv .f32 b).cut (w.tape w.drawn (.nanConv .f32 b)), 1, ?_, ?_⟩
    · rw [← drew_one]
      cases u <;> simp [convert, run_underlying hs', run_underlying hd, Conv.floatToFloat, e', Question.forced]
    · rw [canon_of_nan (nanConv_nan _ _ _), fnarrow, isNan_canon, hb]; rfl
  | false =>
    have hc : fnarrow (canon .f64 b) = FloatKind.f32.encode (FloatKind.f64.decode b) := by rw [canon_of_not hb]; unfold fnarrow; rw [hb]; rfl
    rw [canon_of_not hb] at hok
    have hn : isNan .f32 (FloatKind.f32.encode (FloatKind.f64.decode b)) = false := by
      refine write_not Ieee.single ?_
      rcases read_not hb with ⟨sg, m, e, he⟩ | ⟨sg, he⟩ <;> (show (FloatKind.f64.format.read b).isNaN = false) <;> rw [he] <;> rfl
    refine ⟨FloatKind.f32.encode (FloatKind.f64.decode b), 0, ?_, ?_⟩
    · show _ = Result.ok _ w
      rcases read_not hb with ⟨sg, m, e, he⟩ | ⟨sg, he⟩
      · have he' : FloatKind.f64.decode b = .number sg m e := he
        have hf : (FloatKind.f32.decode (FloatKind.f32.encode (.number sg m e))).isInfinity = false := by unfold narrowOk at hok; rw [he'] at hok; simpa using hok
        cases u <;> simp [convert, run_underlying hs', run_underlying hd, Conv.floatToFloat, he', hf]
      · have he' : FloatKind.f64.decode b = .infinity sg := he
        cases u <;> simp [convert, run_underlying hs', run_underlying hd, Conv.floatToFloat, he']
    · rw [hc, canon_of_not hn]

theorem run_fneg (k : FloatKind) (b : Nat) (w : World) : (Op.unary .neg (.float k b)).run P w = .ok (.float k (Op.negFloat k b)) w := by
  simp [Op.unary]

/-! ### The laws at a list of operations -/
variable {ops : Array Oper} {Q : Exit → Act → World → Prop} {a : Act} {w : World} {rest : List Oper} {o : Oper}

theorem wl_of_run {v : Value} {w' : World} (hg : Region.wanted o (yielded ops a.tmps) = true) (hr : (execOp a.eval o).run P w = .ok (.value v) w') (h : wpList P ops Q rest (a.put o.dst v) w') : wpList P ops Q (o :: rest) a w := by
  refine wpList_step fun K hK => ?_
  rw [if_pos hg]
  unfold Oper.wp
  rw [hr]
  exact hK _ _ h

theorem wl_bin (hg : Region.wanted o (yielded ops a.tmps) = true) {op : BinOp} {ty ty' : TypeId} {x y : Operand} (ho : o.op = .binOp op ty x y ty') (ha : isArith op = true) {k : FloatKind} {bx bY : Nat}
    (hx : a.eval x = .float k bx) (hy : a.eval y = .float k bY) {s t : Nat} (is : Is k bx s) (it : Is k bY t)
    (h : ∀ r n, Is k r (fop op k s t) → wpList P ops Q rest (a.put o.dst (.float k r)) (w.drewN n)) : wpList P ops Q (o :: rest) a w := by
  obtain ⟨r, n, hr, hi⟩ := run_farith (P := P) ha ty is it w
  refine wl_of_run hg ?_ (h r n hi)
  have hq : (eqGuard op ty x y (.float k bx) (.float k bY)).run P w = .ok () w := by
    cases op <;> simp only [isArith, Bool.false_eq_true] at ha <;> simp [eqGuard]
  simp [execOp, ho, hx, hy, hr, hq, Result.andThen]

theorem wl_cmp (hg : Region.wanted o (yielded ops a.tmps) = true) {op : BinOp} {ty ty' : TypeId} {x y : Operand} (ho : o.op = .binOp op ty x y ty') (ha : isCmp op = true) {k : FloatKind} {bx bY : Nat}
    (hx : a.eval x = .float k bx) (hy : a.eval y = .float k bY) {s t : Nat} (is : Is k bx s) (it : Is k bY t) {b : Bool} (hv : fcmp op k s t = b)
    (h : wpList P ops Q rest (a.put o.dst (.bool b)) w) : wpList P ops Q (o :: rest) a w := by
  subst hv
  refine wl_of_run hg ?_ h
  have hr := run_fcmp (P := P) ha ty is it w
  simp [execOp, ho, hx, hy, hr, eqGuard, Result.andThen]

theorem wl_widen (hg : Region.wanted o (yielded ops a.tmps) = true) {src dst : TypeId} {x : Operand} (ho : o.op = .convert src dst x) {bx s : Nat} (hx : a.eval x = .float .f32 bx)
    (hs : (P.underlying src).isSome = true) (hd : P.underlying dst = some (.float .f64)) (is : Is .f32 bx s)
    (h : ∀ r n, Is .f64 r (fwiden s) → wpList P ops Q rest (a.put o.dst (.float .f64 r)) (w.drewN n)) : wpList P ops Q (o :: rest) a w := by
  obtain ⟨r, n, hr, hi⟩ := run_widen (P := P) src dst is hs hd w
  refine wl_of_run hg ?_ (h r n hi)
  simp [execOp, ho, hx, hr, Result.andThen]

theorem wl_narrow (hg : Region.wanted o (yielded ops a.tmps) = true) {src dst : TypeId} {x : Operand} (ho : o.op = .convert src dst x) {bx s : Nat} (hx : a.eval x = .float .f64 bx)
    (hs : (P.underlying src).isSome = true) (hd : P.underlying dst = some (.float .f32)) (is : Is .f64 bx s) (hok : narrowOk s = true)
    (h : ∀ r n, Is .f32 r (fnarrow s) → wpList P ops Q rest (a.put o.dst (.float .f32 r)) (w.drewN n)) : wpList P ops Q (o :: rest) a w := by
  obtain ⟨r, n, hr, hi⟩ := run_narrow (P := P) src dst is hok hs hd w
  refine wl_of_run hg ?_ (h r n hi)
  simp [execOp, ho, hx, hr, Result.andThen]

theorem wl_neg (hg : Region.wanted o (yielded ops a.tmps) = true) {ty : TypeId} {x : Operand} (ho : o.op = .unOp .neg ty x) {k : FloatKind} {bx s : Nat} (hx : a.eval x = .float k bx) (is : Is k bx s)
    (h : ∀ r, Is k r (fneg k s) → wpList P ops Q rest (a.put o.dst (.float k r)) w) : wpList P ops Q (o :: rest) a w := by
  refine wl_of_run hg ?_ (h _ (is_neg is))
  have hr := run_fneg (P := P) k bx w
  simp [execOp, ho, hx, hr, Result.andThen]

/-! ### The laws of the lexical walk (a region that draws its order): the worlds are 'w0' after some draws -/
def Drawn (w0 : World) (w : World) : Prop := ∃ n, w = w0.drewN n
theorem drawn_self (w0 : World) : Drawn w0 w0 := ⟨0, rfl⟩
theorem drawn_more (w0 w : World) (n : Nat) (h : Drawn w0 w) : Drawn w0 (w.drewN n) := by
  obtain ⟨m, rfl⟩ := h; exact ⟨m + n, drewN_drewN' _ _ _⟩

variable {w0 : World} {U : Nat → World → Prop} {eff : Nat → Bool} {An : Nat → Value → Prop} {k : Nat}

theorem lx_nil (h : ∀ n, Q .normal a (w.drewN n)) : wpLex P ops U eff An Q k [] a w := h
theorem lx_skip (hg : Region.wanted o (yielded ops a.tmps) = false) (h : wpLex P ops U eff An Q (k + 1) rest (a.put o.dst undef) w) : wpLex P ops U eff An Q k (o :: rest) a w := by
  unfold wpLex; simp only [hg]; exact h
theorem lx_some (hg : Region.wanted o (yielded ops a.tmps) = true) (he : eff k = false) (V : Value → Prop) (hr : ∀ w', U k w' → ∃ v m, (execOp a.eval o).run P w' = .ok (.value v) (w'.drewN m) ∧ V v)
    (h : ∀ v, V v → wpLex P ops U eff An Q (k + 1) rest (a.put o.dst v) w) : wpLex P ops U eff An Q k (o :: rest) a w := by
  unfold wpLex
  simp only [hg, he, if_true]
  refine ⟨fun w' hw' => ?_, fun v ⟨w', hw', hv⟩ => ?_⟩
  · obtain ⟨v, m, hr', _⟩ := hr w' hw'
    rw [hr']
    exact ⟨m, rfl⟩
  · obtain ⟨v', m, hr', hV⟩ := hr w' hw'
    rw [hr'] at hv
    simp only [] at hv
    subst hv
    exact h _ hV
theorem lx_val (hg : Region.wanted o (yielded ops a.tmps) = true) (he : eff k = false) {v : Value} (hr : ∀ w', U k w' → (execOp a.eval o).run P w' = .ok (.value v) w')
    (h : wpLex P ops U eff An Q (k + 1) rest (a.put o.dst v) w) : wpLex P ops U eff An Q k (o :: rest) a w :=
  lx_some hg he (· = v) (fun w' hw' => ⟨v, 0, hr w' hw', rfl⟩) (fun _ hv => by subst hv; exact h)
theorem lx_valD (hg : Region.wanted o (yielded ops a.tmps) = true) (he : eff k = false) {v : Value} (hr : ∀ n, (execOp a.eval o).run P (w0.drewN n) = .ok (.value v) (w0.drewN n))
    (h : wpLex P ops (fun _ => Drawn w0) eff An Q (k + 1) rest (a.put o.dst v) w) : wpLex P ops (fun _ => Drawn w0) eff An Q k (o :: rest) a w :=
  lx_val hg he (fun w' ⟨n, hn⟩ => by subst hn; exact hr n) h
/-- A call that hands back what An lets. -/
theorem lx_call (hg : Region.wanted o (yielded ops a.tmps) = true) (he : eff k = false) {f : FuncId} {args : Array Value} (hr : ∀ w', U k w' → (execOp a.eval o).run P w' = .ok (.enter f args) w')
    (hc : ∀ w', U k w' → Calls P f args w' fun e w'' => ∃ v, e = .returned v ∧ An k v ∧ ∃ m, w'' = w'.drewN m)
    (h : ∀ v, An k v → wpLex P ops U eff An Q (k + 1) rest (a.put o.dst v) w) : wpLex P ops U eff An Q k (o :: rest) a w := by
  unfold wpLex
  simp only [hg, he, if_true]
  refine ⟨fun w' hw' => ?_, fun v ⟨w', hw', hv⟩ => ?_⟩
  · rw [hr w' hw']
    exact ⟨⟨0, rfl⟩, hc w' hw'⟩
  · rw [hr w' hw'] at hv
    exact h _ hv

theorem lx_move (hg : Region.wanted o (yielded ops a.tmps) = true) (he : eff k = false) {x : Operand} (ho : o.op = .move x) {v : Value} (hx : a.eval x = v)
    (h : wpLex P ops U eff An Q (k + 1) rest (a.put o.dst v) w) : wpLex P ops U eff An Q k (o :: rest) a w :=
  lx_val hg he (fun w' _ => by simp [execOp, ho, hx]) h
theorem lx_assign (hg : Region.wanted o (yielded ops a.tmps) = true) (he : eff k = false) {x : Operand} (ho : o.op = .assign x) {v : Value} (hx : a.eval x = v)
    (h : wpLex P ops U eff An Q (k + 1) rest (a.put o.dst v) w) : wpLex P ops U eff An Q k (o :: rest) a w :=
  lx_val hg he (fun w' _ => by simp [execOp, ho, hx]) h
theorem lx_not (hg : Region.wanted o (yielded ops a.tmps) = true) (he : eff k = false) {ty : TypeId} {x : Operand} (ho : o.op = .unOp .not ty x) {b : Bool} (hx : a.eval x = .bool b)
    (h : wpLex P ops U eff An Q (k + 1) rest (a.put o.dst (.bool !b)) w) : wpLex P ops U eff An Q k (o :: rest) a w :=
  lx_val hg he (fun w' _ => by simp [execOp, ho, hx, Op.unary]) h
theorem lx_bin (hg : Region.wanted o (yielded ops a.tmps) = true) (he : eff k = false) {op : BinOp} {ty ty' : TypeId} {x y : Operand} (ho : o.op = .binOp op ty x y ty') (ha : isArith op = true) {fk : FloatKind} {bx bY : Nat}
    (hx : a.eval x = .float fk bx) (hy : a.eval y = .float fk bY) {s t : Nat} (is : Is fk bx s) (it : Is fk bY t)
    (h : ∀ r, Is fk r (fop op fk s t) → wpLex P ops U eff An Q (k + 1) rest (a.put o.dst (.float fk r)) w) : wpLex P ops U eff An Q k (o :: rest) a w := by
  refine lx_some hg he (fun v => ∃ r, v = .float fk r ∧ Is fk r (fop op fk s t)) (fun w' _ => ?_) (fun v ⟨r, hv, hr⟩ => by subst hv; exact h r hr)
  obtain ⟨r, n, hr, hi⟩ := run_farith (P := P) ha ty is it w'
  refine ⟨_, n, ?_, r, rfl, hi⟩
  have hq : (eqGuard op ty x y (.float fk bx) (.float fk bY)).run P w' = .ok () w' := by
    cases op <;> simp only [isArith, Bool.false_eq_true] at ha <;> simp [eqGuard]
  simp [execOp, ho, hx, hy, hr, hq, Result.andThen]
theorem lx_cmp (hg : Region.wanted o (yielded ops a.tmps) = true) (he : eff k = false) {op : BinOp} {ty ty' : TypeId} {x y : Operand} (ho : o.op = .binOp op ty x y ty') (ha : isCmp op = true) {fk : FloatKind} {bx bY : Nat}
    (hx : a.eval x = .float fk bx) (hy : a.eval y = .float fk bY) {s t : Nat} (is : Is fk bx s) (it : Is fk bY t) {b : Bool} (hv : fcmp op fk s t = b)
    (h : wpLex P ops U eff An Q (k + 1) rest (a.put o.dst (.bool b)) w) : wpLex P ops U eff An Q k (o :: rest) a w := by
  subst hv
  refine lx_val hg he (fun w' _ => ?_) h
  have hr := run_fcmp (P := P) ha ty is it w'
  simp [execOp, ho, hx, hy, hr, eqGuard, Result.andThen]
theorem lx_widen (hg : Region.wanted o (yielded ops a.tmps) = true) (he : eff k = false) {src dst : TypeId} {x : Operand} (ho : o.op = .convert src dst x) {bx s : Nat} (hx : a.eval x = .float .f32 bx)
    (hs : (P.underlying src).isSome = true) (hd : P.underlying dst = some (.float .f64)) (is : Is .f32 bx s)
    (h : ∀ r, Is .f64 r (fwiden s) → wpLex P ops U eff An Q (k + 1) rest (a.put o.dst (.float .f64 r)) w) : wpLex P ops U eff An Q k (o :: rest) a w := by
  refine lx_some hg he (fun v => ∃ r, v = .float .f64 r ∧ Is .f64 r (fwiden s)) (fun w' _ => ?_) (fun v ⟨r, hv, hr⟩ => by subst hv; exact h r hr)
  obtain ⟨r, n, hr, hi⟩ := run_widen (P := P) src dst is hs hd w'
  exact ⟨_, n, by simp [execOp, ho, hx, hr, Result.andThen], r, rfl, hi⟩
theorem lx_eff (hg : Region.wanted o (yielded ops a.tmps) = true) (he : eff k = true)
    (h : ∀ n, ∃ u w', yieldsE ((execOp a.eval o).run P (w.drewN n)) u w' ∧ AftU .any ops U k w' ∧ wpLex P ops U eff An Q (k + 1) rest (a.put o.dst u) w') : wpLex P ops U eff An Q k (o :: rest) a w := by
  unfold wpLex; simp only [hg, he, if_true]; exact h
/-- An operation that writes: a value. -/
theorem lx_effV (hg : Region.wanted o (yielded ops a.tmps) = true) (he : eff k = true) {v : Value} {W' : Nat → World} (hr : ∀ n, (execOp a.eval o).run P (w.drewN n) = .ok (.value v) (W' n)) (hU : ∀ n, AftU .any ops U k (W' n))
    (h : ∀ n, wpLex P ops U eff An Q (k + 1) rest (a.put o.dst v) (W' n)) : wpLex P ops U eff An Q k (o :: rest) a w :=
  lx_eff hg he fun n => ⟨_, _, .inl (hr n), hU n, h n⟩
/-- .. : no result (a store). -/
theorem lx_effS (hg : Region.wanted o (yielded ops a.tmps) = true) (he : eff k = true) {W' : Nat → World} (hr : ∀ n, (execOp a.eval o).run P (w.drewN n) = .ok .skip (W' n)) (hU : ∀ n, AftU .any ops U k (W' n))
    (h : ∀ n, wpLex P ops U eff An Q (k + 1) rest (a.put o.dst undef) (W' n)) : wpLex P ops U eff An Q k (o :: rest) a w :=
  lx_eff hg he fun n => ⟨_, _, .inr ⟨hr n, rfl⟩, hU n, h n⟩
end
end Go.Proofs.Ytnjgcacnfobmiaa
