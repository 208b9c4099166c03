/- The lexical walk of a region that draws its order, behind a wall: so that nothing unfolds what is still to come. -/
import Derived.Test.YtnjgcacnfobmiaaIs
namespace Go.Proofs.Ytnjgcacnfobmiaa
open Go.RowKit
set_option maxRecDepth 100000

structure LexW (P : Program) (ops : Array Oper) (U : Nat → World → Prop) (eff : Nat → Bool) (An : Nat → Value → Prop) (Q : Exit → Act → World → Prop) (k : Nat) (l : List Oper) (a : Act) (w : World) : Prop where
  out : wpLex P ops U eff An Q k l a w
section
variable {P : Program} {ops : Array Oper} {Q : Exit → Act → World → Prop} {a : Act} {w : World} {rest : List Oper} {o : Oper}
variable {w0 : World} {U : Nat → World → Prop} {eff : Nat → Bool} {An : Nat → Value → Prop} {k : Nat}
theorem wp_region_lex {id : Nat} {l : List Oper} (U : Nat → World → Prop) (eff : Nat → Bool) (An : Nat → Value → Prop) (hm : P.follows .mixedOrders = true) (hB : Region.lexB .any l.toArray = true) (hc : effChain .any l.toArray eff = true)
    (hU : ∀ j w n, U j w → U j (w.drewN n)) (hw : ∀ j, U j w) (h : ∀ n, LexW P l.toArray U eff An Q 0 l a (w.drewN n)) : (Code.region id l.toArray true).wp P Q a w :=
  wp_region_mix U eff An hm hB hc hU hw (fun n => (h n).out)
theorem lw_nil (h : ∀ n, Q .normal a (w.drewN n)) : LexW P ops U eff An Q k [] a w := ⟨lx_nil h⟩
theorem lw_skip (hg : Region.wanted o (yielded ops a.tmps) = false) (h : LexW P ops U eff An Q (k + 1) rest (a.put o.dst undef) w) : LexW P ops U eff An Q k (o :: rest) a w := ⟨lx_skip hg h.out⟩
theorem lw_valD (hg : Region.wanted o (yielded ops a.tmps) = true) (he : eff k = false) {v : Value} (hr : ∀ n, (execOp a.eval o).run P (w0.drewN n) = .ok (.value v) (w0.drewN n))
    (h : LexW P ops (fun _ => Drawn w0) eff An Q (k + 1) rest (a.put o.dst v) w) : LexW P ops (fun _ => Drawn w0) eff An Q k (o :: rest) a w := ⟨lx_valD hg he hr h.out⟩
theorem lw_call (hg : Region.wanted o (yielded ops a.tmps) = true) (he : eff k = false) {f : FuncId} {args : Array Value} (hr : ∀ w', U k w' → (execOp a.eval o).run P w' = .ok (.enter f args) w')
    (hc : ∀ w', U k w' → Calls P f args w' fun e w'' => ∃ v, e = .returned v ∧ An k v ∧ ∃ m, w'' = w'.drewN m)
    (h : ∀ v, An k v → LexW P ops U eff An Q (k + 1) rest (a.put o.dst v) w) : LexW P ops U eff An Q k (o :: rest) a w := ⟨lx_call hg he hr hc (fun v hv => (h v hv).out)⟩
theorem lw_move (hg : Region.wanted o (yielded ops a.tmps) = true) (he : eff k = false) {x : Operand} (ho : o.op = .move x) {v : Value} (hx : a.eval x = v)
    (h : LexW P ops U eff An Q (k + 1) rest (a.put o.dst v) w) : LexW P ops U eff An Q k (o :: rest) a w := ⟨lx_move hg he ho hx h.out⟩
theorem lw_assign (hg : Region.wanted o (yielded ops a.tmps) = true) (he : eff k = false) {x : Operand} (ho : o.op = .assign x) {v : Value} (hx : a.eval x = v)
    (h : LexW P ops U eff An Q (k + 1) rest (a.put o.dst v) w) : LexW P ops U eff An Q k (o :: rest) a w := ⟨lx_assign hg he ho hx h.out⟩
theorem lw_not (hg : Region.wanted o (yielded ops a.tmps) = true) (he : eff k = false) {ty : TypeId} {x : Operand} (ho : o.op = .unOp .not ty x) {b : Bool} (hx : a.eval x = .bool b)
    (h : LexW P ops U eff An Q (k + 1) rest (a.put o.dst (.bool !b)) w) : LexW P ops U eff An Q k (o :: rest) a w := ⟨lx_not hg he ho hx h.out⟩
theorem lw_bin (hg : Region.wanted o (yielded ops a.tmps) = true) (he : eff k = false) {op : BinOp} {ty ty' : TypeId} {x y : Operand} (ho : o.op = .binOp op ty x y ty') (ha : isArith op = true) {fk : FloatKind} {bx bY : Nat}
    (hx : a.eval x = .float fk bx) (hy : a.eval y = .float fk bY) {s t : Nat} (is : Is fk bx s) (it : Is fk bY t)
    (h : ∀ r, Is fk r (fop op fk s t) → LexW P ops U eff An Q (k + 1) rest (a.put o.dst (.float fk r)) w) : LexW P ops U eff An Q k (o :: rest) a w := ⟨lx_bin hg he ho ha hx hy is it (fun r hr => (h r hr).out)⟩
theorem lw_cmp (hg : Region.wanted o (yielded ops a.tmps) = true) (he : eff k = false) {op : BinOp} {ty ty' : TypeId} {x y : Operand} (ho : o.op = .binOp op ty x y ty') (ha : isCmp op = true) {fk : FloatKind} {bx bY : Nat}
    (hx : a.eval x = .float fk bx) (hy : a.eval y = .float fk bY) {s t : Nat} (is : Is fk bx s) (it : Is fk bY t) {b : Bool} (hv : fcmp op fk s t = b)
    (h : LexW P ops U eff An Q (k + 1) rest (a.put o.dst (.bool b)) w) : LexW P ops U eff An Q k (o :: rest) a w := ⟨lx_cmp hg he ho ha hx hy is it hv h.out⟩
theorem lw_widen (hg : Region.wanted o (yielded ops a.tmps) = true) (he : eff k = false) {src dst : TypeId} {x : Operand} (ho : o.op = .convert src dst x) {bx s : Nat} (hx : a.eval x = .float .f32 bx)
    (hs : (P.underlying src).isSome = true) (hd : P.underlying dst = some (.float .f64)) (is : Is .f32 bx s)
    (h : ∀ r, Is .f64 r (fwiden s) → LexW P ops U eff An Q (k + 1) rest (a.put o.dst (.float .f64 r)) w) : LexW P ops U eff An Q k (o :: rest) a w := ⟨lx_widen hg he ho hx hs hd is (fun r hr => (h r hr).out)⟩
end
end Go.Proofs.Ytnjgcacnfobmiaa
