/- A region that draws its order and whose first two operations stand first in every order: a value, then a call that may make memory. -/
import Derived.Test.YtnjgcacnfobmiaaLexw
namespace Go.Proofs.Ytnjgcacnfobmiaa
open Go.RowKit
set_option maxRecDepth 100000
set_option linter.unusedVariables false

theorem wpOp_at {P : Program} {ops : Array Oper} {Q : Exit → Act → World → Prop} {i : Nat} {o : Oper} {K : Act → World → Prop} {a : Act} {w : World} (ho : ops[i]? = some o) (hg : Region.wanted o (yielded ops a.tmps) = true) (h : o.wp P a w K Q) : wpOp P ops Q i K a w := by
  unfold wpOp
  simp only [ho, hg, if_true]
  exact .inl h
theorem wp_region_first2 {P : Program} {Q : Exit → Act → World → Prop} {id : Nat} {a : Act} {w : World} {o0 o1 : Oper} {rest : List Oper} (An : Nat → Value → Prop) (hm : P.follows .mixedOrders = true)
    (hs : Region.noSelect (o0 :: o1 :: rest).toArray = true) (hx : effChain .any (o0 :: o1 :: rest).toArray (fun _ => false) = true)
    (hr0 : Region.ready .any (o0 :: o1 :: rest).toArray (Array.replicate (o0 :: o1 :: rest).toArray.size false) = [0])
    (hr1 : Region.ready .any (o0 :: o1 :: rest).toArray ((Array.replicate (o0 :: o1 :: rest).toArray.size false).setIfInBounds 0 true) = [1])
    (hB : Region.lexFrom .any (o0 :: o1 :: rest).toArray rest.length 2 (((Array.replicate (o0 :: o1 :: rest).toArray.size false).setIfInBounds 0 true).setIfInBounds 1 true) = true)
    (hg0 : Region.wanted o0 (yielded (o0 :: o1 :: rest).toArray a.tmps) = true) {v0 : Value} (h0 : ∀ n, (execOp a.eval o0).run P (w.drewN n) = .ok (.value v0) (w.drewN n))
    (hg1 : Region.wanted o1 (yielded (o0 :: o1 :: rest).toArray (a.put o0.dst v0).tmps) = true) {f : FuncId} {args : Array Value} (h1 : ∀ n, (execOp (a.put o0.dst v0).eval o1).run P (w.drewN n) = .ok (.enter f args) (w.drewN n))
    (hc : ∀ n, Calls P f args (w.drewN n) fun e w1 => ∃ v1, e = .returned v1 ∧ LexW P (o0 :: o1 :: rest).toArray (fun _ => Drawn w1) (fun _ => false) An Q 2 rest ((a.put o0.dst v0).put o1.dst v1) w1) :
    (Code.region id (o0 :: o1 :: rest).toArray true).wp P Q a w := by
  have hcl0 : ClosedL .any (o0 :: o1 :: rest).toArray (Array.replicate (o0 :: o1 :: rest).toArray.size false) := fun j oj _ hl => by
    rw [getD_replicate_false] at hl; cases hl
  have hcl1 := hcl0.set (i := 0) (by rw [hr0]; exact List.mem_singleton.2 rfl)
  have hcl2 := hcl1.set (i := 1) (by rw [hr1]; exact List.mem_singleton.2 rfl)
  refine wp_region_any hm ?_
  show wpAny P .any _ Q (rest.length + 1 + 1) _ a (w.drewN 1)
  unfold wpAny
  refine ⟨(fun h => by rw [hr0] at h; cases h), fun i hi => ?_⟩
  rw [hr0] at hi
  obtain rfl := List.mem_singleton.1 hi
  refine wpOp_at (o := o0) (by simp) hg0 ?_
  unfold Oper.wp
  rw [h0 1]
  show wpAny P .any _ Q (rest.length + 1) _ (a.put o0.dst v0) (w.drewN 1)
  unfold wpAny
  refine ⟨(fun h => by rw [hr1] at h; cases h), fun i hi => ?_⟩
  rw [hr1] at hi
  obtain rfl := List.mem_singleton.1 hi
  refine wpOp_at (o := o1) (by simp) hg1 ?_
  unfold Oper.wp
  rw [h1 1]
  refine (hc 1).mono fun e w1 ⟨v1, he, hl⟩ => ?_
  subst he
  have hU : InvU (fun _ => Drawn w1) (((Array.replicate (o0 :: o1 :: rest).toArray.size false).setIfInBounds 0 true).setIfInBounds 1 true) w1 := fun j _ => drawn_self _
  have h3 := wpAnyM_lex (P := P) (Q := Q) hx hs rest 2 _ _ w1 hcl2 hU (fun j => by
    rw [List.getElem?_toArray, show 2 + j = j + 1 + 1 by omega, List.getElem?_cons_succ, List.getElem?_cons_succ]) hB hl.out
  exact wpAny_of_M (fun _ => drawn_more _) _ _ _ _ hcl2 hU h3 0
end Go.Proofs.Ytnjgcacnfobmiaa
