/- chosen: the gather of some traces. -/
import Derived.Test.YtnjgcacnfobmiaaFOwn
import Derived.Test.YtnjgcacnfobmiaaFFlatImp
import Derived.Test.YtnjgcacnfobmiaaInt
namespace Go.Proofs.Ytnjgcacnfobmiaa
open Go.RowKit
set_option maxRecDepth 100000
set_option linter.unusedVariables false

abbrev fN : Nat → Value := fun i => .int .i64 (i : Int)
theorem infoN : (Try.prog.info? 3).map (fun i => (i.zero, i.size, i.bytes)) = some (some (fN 0), 1, 8) := by kernel_rfl
theorem underN : Try.prog.underlying 102 = some (.slice 3) := by kernel_rfl
theorem fN_cells (x : Nat) : (fN x).cells = #[fN x] ∧ (fN x).oneCell' = true := ⟨rfl, rfl⟩
def pick (l : List Nat) (ps : List Nat) : List Nat := l.map (el ps)
def pickR (l : List Nat) (rs : List (List Nat)) : List (List Nat) := l.map (row rs)
theorem pick_length (l ps : List Nat) : (pick l ps).length = l.length := by simp [pick]
theorem pickR_length (l : List Nat) (rs : List (List Nat)) : (pickR l rs).length = l.length := by simp [pickR]
theorem cl_pick (l ps : List Nat) : cl (pick l ps) = pick l (cl ps) := by
  unfold pick cl
  rw [List.map_map]
  apply List.map_congr_left
  intro i _
  show canon .f32 (el ps i) = el (cl ps) i
  by_cases h : i < ps.length
  · rw [cl_el ps i h]
  · have h1 : el ps i = 0 := by simp [el, List.getD, List.getElem?_eq_none (by omega : ps.length ≤ i)]
    have h2 : el (cl ps) i = 0 := by simp [el, List.getD, List.getElem?_eq_none (by rw [cl_length]; omega : (cl ps).length ≤ i)]
    rw [h1, h2]
    exact is_zero
theorem cls_pickR (l : List Nat) (rs : List (List Nat)) : cls (pickR l rs) = pickR l (cls rs) := by
  show (l.map (row rs)).map cl = l.map (row (cls rs))
  rw [List.map_map]
  apply List.map_congr_left
  intro i _
  exact (cls_row rs i).symm
def chosenO (t : Int) (ps : List Nat) (rs : List (List Nat)) (l : List Nat) : Option (Int × List Nat × List (List Nat)) :=
  if gOk t (pick l ps) (pickR l rs) then some (t, pick l ps, pickR l rs) else none
section
variable {P : Program} {w : World}
theorem step_appendR {ops : Array Oper} {o : Oper} {a : Act} {K : Act → World → Prop} {Q : Exit → Act → World → Prop} {E : Prop} (hg : o.guard = none)
    (s x : Operand) (hop : o.op = Op.call { callee := Callee.builtin Builtin.append, args := #[s, x], argTypes := #[23, 23] })
    (hT : P.underlying 23 = some (.slice 22)) {i1 : TypeInfo} (hi : P.info? 22 = some i1) (hz : i1.zero = some (.slice none 0 0)) (hs1 : i1.size = 1) (hb4 : i1.bytes = 24)
    {base : Nat} {v u : Value} {r : List Nat} {vs : List Value} {rs : List (List Nat)} (hs : a.eval s = v) (hx : ∃ g, a.eval x = .slice (some ⟨g, 0, none⟩) 1 1 ∧ w.cell? ⟨g, 0, none⟩ = some u) (hown : OwnRows w base v vs rs) (hl : rs.length ≤ 1073741824) (hbase : base ≤ w.heap.size) (hu : OwnF w base u r)
    (hgu : u.ownBlock ≠ v.ownBlock ∨ u.ownBlock = none) (hd : ∀ j k, j < vs.length → u.ownBlock = some k → (va vs j).ownBlock ≠ some k)
    (hK : ∀ v' wa, OwnRows wa base v' (vs ++ [u]) (rs ++ [r]) → Chg (fun q => v.ownBlock = some q) w wa → (v'.ownBlock = v.ownBlock ∨ v'.ownBlock = some w.heap.size) → K (a.put o.dst v') wa) :
    if Region.wanted o (yielded ops a.tmps) = true then Oper.wp P o a w K Q else E := by
  have hw : Region.wanted o (yielded ops a.tmps) = true := by simp [Region.wanted, hg]
  rw [if_pos hw]
  obtain ⟨g, hx, hc⟩ := hx
  obtain ⟨v', wa, hr, hR, hG, hv⟩ := run_appendR (P := P) (w := w) hT hi hz hs1 hb4 hown hl hbase hc hu hgu hd o.type
  unfold Oper.wp
  simp [execOp, hop, resolve, invoke, builtin, hs, hx, hr, Result.andThen]
  exact hK v' wa hR (Chg.of_grown hG (fun k e => e)) hv
end
end Go.Proofs.Ytnjgcacnfobmiaa
