/- A region that draws its order and whose operations may hand back one of several values (a float whose NaN bits the tape picks), with a chain of operations that write: one lexical walk serves every order. -/
import Derived.StillTail
import Derived.Deep.Draws
import Derived.Tactics2
import Derived.KernelRfl
namespace Go.Proofs.Ytnjgcacnfobmiaa

section
variable {P : Program} {ops : Array Oper} {md : Region.Mode} {Q : Exit → Act → World → Prop}

/-- What an operation may leave in its slot, over the worlds of U; a call: what An lets. -/
def mayY (P : Program) (U : World → Prop) (An : Value → Prop) (o : Oper) (a : Act) (v : Value) : Prop :=
  ∃ w, U w ∧ match (execOp a.eval o).run P w with
    | .ok (.value u) _ => v = u
    | .ok .skip _ => v = undef
    | .ok (.enter _ _) _ => An v
    | _ => False

/-- In every world of U the operation goes through and turns nothing but the count of draws. -/
def safeY (P : Program) (U : World → Prop) (An : Value → Prop) (o : Oper) (a : Act) : Prop :=
  ∀ w, U w → match (execOp a.eval o).run P w with
    | .ok (.value _) w' => ∃ m, w' = w.drewN m
    | .ok .skip w' => ∃ m, w' = w.drewN m
    | .ok (.enter f args) w' => (∃ m, w' = w.drewN m) ∧ Calls P f args w' (fun e w'' => ∃ v, e = .returned v ∧ An v ∧ ∃ m, w'' = w.drewN m)
    | _ => False

/-- An operation that writes leaves u in its slot (or has no result), in the world w'. -/
def yieldsE (r : Result Next) (u : Value) (w' : World) : Prop := r = .ok (.value u) w' ∨ (r = .ok .skip w' ∧ u = undef)
theorem yieldsE_det {r : Result Next} {u u2 : Value} {w1 w2 : World} (h : yieldsE r u w1) (k : yieldsE r u2 w2) : u = u2 ∧ w1 = w2 := by
  rcases h with h | ⟨h, h'⟩ <;> rcases k with k | ⟨k, k'⟩ <;> rw [h] at k
  · injection k with k1 k2; injection k1 with k1; exact ⟨k1, k2⟩
  · injection k with k1 k2; cases k1
  · injection k with k1 k2; cases k1
  · injection k with k1 k2; exact ⟨h'.trans k'.symm, k2⟩

/-- Operation j waits for operation i, at once or by way of others. -/
def waitsT (md : Region.Mode) (ops : Array Oper) : Nat → Nat → Nat → Bool
  | 0, _, _ => false
  | fuel + 1, j, i => match ops[j]? with
    | some oj => oj.after.any fun e => Region.binds md e && (e.on == i || waitsT md ops fuel e.on i)
    | none => false
/-- Whatever has come up, all that it waits for has come up. -/
def ClosedL (md : Region.Mode) (ops : Array Oper) (listed : Array Bool) : Prop :=
  ∀ j oj, ops[j]? = some oj → listed.getD j false = true → ∀ e ∈ oj.after, Region.binds md e = true → listed.getD e.on false = true
theorem getD_ft {listed : Array Bool} {j : Nat} (h : listed.getD j false = true) : listed.getD j true = true := by
  rcases Nat.lt_or_ge j listed.size with h' | h'
  · simp [h'] at h ⊢; exact h
  · simp [Array.getElem?_eq_none h']
theorem ClosedL.set {listed : Array Bool} {i : Nat} (inv : ClosedL md ops listed) (hi : i ∈ Region.ready md ops listed) : ClosedL md ops (listed.setIfInBounds i true) := by
  obtain ⟨_, oi, hoi, hall⟩ := mem_ready.1 hi
  intro j oj hj hl e he hb
  by_cases hij : i = j
  · subst hij
    have : oj = oi := Option.some.inj (hj.symm.trans hoi)
    subst this
    exact getD_set_true (hall e he hb)
  · rw [getD_set_ne false hij] at hl
    exact getD_set_true (inv j oj hj hl e he hb)
theorem waitsT_listed {listed : Array Bool} (inv : ClosedL md ops listed) {i : Nat} (hi : listed.getD i true = false) : ∀ (fuel j : Nat), waitsT md ops fuel j i = true → (∀ oj, ops[j]? = some oj → ∀ e ∈ oj.after, Region.binds md e = true → listed.getD e.on false = true) → False
  | 0, _, h, _ => by simp [waitsT] at h
  | fuel + 1, j, h, hall => by
    simp only [waitsT] at h
    split at h
    · rename_i oj hj
      obtain ⟨e, he, hb⟩ := Array.any_eq_true'.1 h
      simp only [Bool.and_eq_true, Bool.or_eq_true, beq_iff_eq] at hb
      have h1 := hall oj hj e he hb.1
      rcases hb.2 with h2 | h2
      · subst h2; rw [getD_ft h1] at hi; cases hi
      · exact waitsT_listed inv hi fuel e.on h2 fun o' ho' e' he' hb' => inv _ o' ho' h1 e' he' hb'
    · cases h
/-- What has not come up is not waited for by what is ready. -/
theorem not_waits {listed : Array Bool} (inv : ClosedL md ops listed) {i j : Nat} (hi : listed.getD i true = false) (hj : j ∈ Region.ready md ops listed) (fuel : Nat) : waitsT md ops fuel j i = false := by
  cases h : waitsT md ops fuel j i with
  | false => rfl
  | true =>
    obtain ⟨_, oj, hoj, hall⟩ := mem_ready.1 hj
    exact (waitsT_listed inv hi fuel j h fun o' ho' e he hb => by
      rw [hoj] at ho'
      obtain rfl := Option.some.inj ho'
      exact hall e he hb).elim

/-- The world is of the class of each operation that has not come up. -/
def InvU (U : Nat → World → Prop) (listed : Array Bool) (w : World) : Prop := ∀ j, listed.getD j true = false → U j w
/-- The world behind operation i, which writes: of the class of each operation that i does not wait for. -/
def AftU (md : Region.Mode) (ops : Array Oper) (U : Nat → World → Prop) (i : Nat) (w : World) : Prop := ∀ j, waitsT md ops ops.size i j = false → j ≠ i → U j w
theorem InvU.set {U : Nat → World → Prop} {listed : Array Bool} {w : World} (h : InvU U listed w) (i : Nat) : InvU U (listed.setIfInBounds i true) w := fun j hj => h j (by
  by_cases hij : i = j
  · subst hij
    rcases Nat.lt_or_ge i listed.size with h' | h'
    · simp [h'] at hj
    · simp at hj
  · rwa [getD_set_ne true hij] at hj)
theorem InvU.aft {U : Nat → World → Prop} {listed : Array Bool} {w : World} {i : Nat} (inv : ClosedL md ops listed) (hi : i ∈ Region.ready md ops listed) (h : AftU md ops U i w) : InvU U (listed.setIfInBounds i true) w := fun j hj => by
  have hij : i ≠ j := by
    rintro rfl
    rcases Nat.lt_or_ge i listed.size with h' | h'
    · simp [h'] at hj
    · simp at hj
  rw [getD_set_ne true hij] at hj
  exact h j (not_waits inv hj hi _) (Ne.symm hij)

/-- One operation of the region: a pure one (whatever it may yield), or one that writes. -/
def mOp (P : Program) (md : Region.Mode) (ops : Array Oper) (U : Nat → World → Prop) (eff : Nat → Bool) (An : Nat → Value → Prop) (i : Nat) (K : Act → World → Prop) (a : Act) (w : World) : Prop :=
  match ops[i]? with
  | none => K a w
  | some o =>
    if Region.wanted o (yielded ops a.tmps) then
      if eff i then ∀ n, ∃ u w', yieldsE ((execOp a.eval o).run P (w.drewN n)) u w' ∧ AftU md ops U i w' ∧ K (a.put o.dst u) w'
      else safeY P (U i) (An i) o a ∧ ∀ v, mayY P (U i) (An i) o a v → K (a.put o.dst v) w
    else K (a.put o.dst undef) w

def wpAnyM (P : Program) (md : Region.Mode) (ops : Array Oper) (U : Nat → World → Prop) (eff : Nat → Bool) (An : Nat → Value → Prop) (Q : Exit → Act → World → Prop) : Nat → Array Bool → Act → World → Prop
  | 0, listed, a, w => Region.ready md ops listed = [] ∧ ∀ n, Q .normal a (w.drewN n)
  | fuel + 1, listed, a, w =>
    (Region.ready md ops listed = [] → ∀ n, Q .normal a (w.drewN n)) ∧
    ∀ i ∈ Region.ready md ops listed, mOp P md ops U eff An i (wpAnyM P md ops U eff An Q fuel (listed.setIfInBounds i true)) a w

variable {U : Nat → World → Prop} {eff : Nat → Bool} {An : Nat → Value → Prop}

theorem drewN_zero' (w : World) : w.drewN 0 = w := rfl
theorem drewN_drewN' (w : World) (n m : Nat) : (w.drewN n).drewN m = w.drewN (n + m) := by
  show ({ w with drawn := w.drawn + n + m } : World) = { w with drawn := w.drawn + (n + m) }
  rw [Nat.add_assoc]

theorem wpOp_of_mOp (hU : ∀ j w n, U j w → U j (w.drewN n)) {i : Nat} {K : Act → World → Prop} {K' : Act → World → Prop} {I : World → Prop} {a : Act} {w : World} (hw : U i w) (hI : I w) (hA : ∀ w', AftU md ops U i w' → I w') (h : ∀ a w n, I w → K a w → K' a (w.drewN n)) (hh : mOp P md ops U eff An i K a w) :
    ∀ n, wpOp P ops Q i K' a (w.drewN n) := by
  intro n
  unfold mOp at hh
  unfold wpOp
  split
  · rename_i ho; simp only [ho] at hh; exact h _ _ _ hI hh
  · rename_i o ho
    simp only [ho] at hh
    split
    · rename_i hwt
      simp only [hwt, if_true] at hh
      left
      unfold Oper.wp
      split at hh
      · obtain ⟨u, w', h1, h2, h3⟩ := hh n
        rcases h1 with h1 | ⟨h1, rfl⟩
        · rw [h1]
          exact h _ w' 0 (hA w' h2) h3
        · rw [h1]
          exact h _ w' 0 (hA w' h2) h3
      · obtain ⟨hs, hy⟩ := hh
        have hs' := hs (w.drewN n) (hU i w n hw)
        have hm : ∀ v, (match (execOp a.eval o).run P (w.drewN n) with
            | .ok (.value u) _ => v = u
            | .ok .skip _ => v = undef
            | .ok (.enter _ _) _ => An i v
            | _ => False) → K (a.put o.dst v) w := fun v hv => hy v ⟨_, hU i w n hw, hv⟩
        clear hs hy
        generalize (execOp a.eval o).run P (w.drewN n) = r at hs' hm
        cases r with
        | ok nx w' =>
          cases nx <;> simp only [] at hs' hm <;> simp only [Oper.upon]
          case value u => obtain ⟨m, rfl⟩ := hs'; rw [drewN_drewN']; exact h _ _ _ hI (hm u rfl)
          case skip => obtain ⟨m, rfl⟩ := hs'; rw [drewN_drewN']; exact h _ _ _ hI (hm undef rfl)
          case enter f args =>
            obtain ⟨⟨m, rfl⟩, hc⟩ := hs'
            refine hc.mono fun e w'' ⟨v, he, hv, m', hw''⟩ => ?_
            subst he; subst hw''
            rw [drewN_drewN']
            exact h _ _ _ hI (hm v hv)
        | halt x w' => simp only [] at hs'
    · rename_i hwt; simp only [hwt] at hh; exact h _ _ _ hI hh

theorem wpAny_of_M (hU : ∀ j w n, U j w → U j (w.drewN n)) : ∀ (fuel : Nat) (listed : Array Bool) (a : Act) (w : World), ClosedL md ops listed → InvU U listed w →
    wpAnyM P md ops U eff An Q fuel listed a w → ∀ n, wpAny P md ops Q fuel listed a (w.drewN n)
  | 0, _, _, _, _, _, h, n => ⟨h.1, h.2 n⟩
  | fuel + 1, listed, _, _, hc, hw, h, n => ⟨fun h0 => h.1 h0 n, fun i hi =>
      wpOp_of_mOp (I := fun w' => InvU U (listed.setIfInBounds i true) w') hU (hw i (mem_ready.1 hi).1) (hw.set i) (fun _ h' => InvU.aft hc hi h')
        (fun a' w' m hw' hK => wpAny_of_M hU fuel _ a' w' (hc.set hi) hw' hK m) (h.2 i hi) n⟩

theorem mayY_same {C : World → Prop} {o : Oper} {V : Value → Prop} {a a' : Act} (he : execOp a'.eval o = execOp a.eval o) (v : Value) : mayY P C V o a' v ↔ mayY P C V o a v := by
  unfold mayY; rw [he]
theorem safeY_same {C : World → Prop} {o : Oper} {V : Value → Prop} {a a' : Act} (he : execOp a'.eval o = execOp a.eval o) : safeY P C V o a' ↔ safeY P C V o a := by
  unfold safeY; rw [he]

/-- What is safe yields something. -/
theorem mayY_some {C : World → Prop} {o : Oper} {V : Value → Prop} {a : Act} {w : World} (hw : C w) (h : safeY P C V o a) : ∃ v, mayY P C V o a v := by
  have h1 := h w hw
  unfold mayY
  generalize hr : (execOp a.eval o).run P w = r at h1
  cases r with
  | ok nx w' =>
    cases nx <;> simp only [] at h1
    case value u => exact ⟨u, w, hw, by rw [hr]⟩
    case skip => exact ⟨undef, w, hw, by rw [hr]⟩
    case enter f args =>
      obtain ⟨e, w', fr, ⟨v, _, hv, _⟩, _⟩ := h1.2 []
      exact ⟨v, w, hw, by rw [hr]; exact hv⟩
  | halt x w' => simp only [] at h1

/-- Operation i, pure: it may be taken now (or is passed over). -/
def okY (P : Program) (ops : Array Oper) (C : World → Prop) (V : Value → Prop) (o : Oper) (a : Act) : Prop :=
  Region.wanted o (yielded ops a.tmps) = true → safeY P C V o a
def outY (P : Program) (ops : Array Oper) (C : World → Prop) (V : Value → Prop) (o : Oper) (a : Act) (v : Value) : Prop :=
  if Region.wanted o (yielded ops a.tmps) then mayY P C V o a v else v = undef

theorem mOp_pure {i : Nat} {o : Oper} {K : Act → World → Prop} {a : Act} {w : World} (hi : ops[i]? = some o) (he : eff i = false) :
    mOp P md ops U eff An i K a w ↔ okY P ops (U i) (An i) o a ∧ ∀ v, outY P ops (U i) (An i) o a v → K (a.put o.dst v) w := by
  unfold mOp okY outY
  simp only [hi, he]
  by_cases hw : Region.wanted o (yielded ops a.tmps) = true
  · simp [hw]
  · simp [hw]

theorem okY_put {C : World → Prop} {oi oj : Oper} {V : Value → Prop} {a : Act} {v : Value} (hs : ∀ cs b, oj.op ≠ .select cs b) (h : ∀ d, oi.dst = some d → d ∉ oj.looksAt ops) :
    okY P ops C V oj (a.put oi.dst v) ↔ okY P ops C V oj a := by
  unfold okY
  rw [wanted_put oj a oi.dst v h, safeY_same (execOp_put oj hs a oi.dst v h)]
theorem outY_put {C : World → Prop} {oi oj : Oper} {V : Value → Prop} {a : Act} {v u : Value} (hs : ∀ cs b, oj.op ≠ .select cs b) (h : ∀ d, oi.dst = some d → d ∉ oj.looksAt ops) :
    outY P ops C V oj (a.put oi.dst v) u ↔ outY P ops C V oj a u := by
  unfold outY
  rw [wanted_put oj a oi.dst v h, mayY_same (execOp_put oj hs a oi.dst v h)]
theorem outY_some {C : World → Prop} {o : Oper} {V : Value → Prop} {a : Act} {w : World} (hw : C w) (h : okY P ops C V o a) : ∃ v, outY P ops C V o a v := by
  unfold outY okY at *
  by_cases hwt : Region.wanted o (yielded ops a.tmps) = true
  · simp only [hwt, if_true]; exact mayY_some hw (h hwt)
  · simp only [hwt]; exact ⟨undef, by simp⟩

/-- A pure operation i may be taken first. -/
theorem wpAnyM_first (hsel : ∀ (j : Nat) (o : Oper) cs b, ops[j]? = some o → o.op ≠ .select cs b) {i : Nat} {oi : Oper} (hi : ops[i]? = some oi) (hp : eff i = false) :
    ∀ (fuel : Nat) (listed : Array Bool) (a : Act) (w : World), ClosedL md ops listed → InvU U listed w →
      (∀ j oj, ops[j]? = some oj → j ≠ i → listed.getD j true = false → (∀ e ∈ oj.after, Region.binds md e = true → e.on ≠ i) → oi.apart ops oj = true) →
      i ∈ Region.ready md ops listed → okY P ops (U i) (An i) oi a →
      (∀ v, outY P ops (U i) (An i) oi a v → wpAnyM P md ops U eff An Q fuel (listed.setIfInBounds i true) (a.put oi.dst v) w) → wpAnyM P md ops U eff An Q (fuel + 1) listed a w := by
  intro fuel
  induction fuel with
  | zero =>
    intro listed a w hcl hw _ hr hy H
    refine ⟨fun h => (by rw [h] at hr; cases hr), fun j hj => ?_⟩
    by_cases hji : j = i
    · subst hji; exact (mOp_pure hi hp).2 ⟨hy, H⟩
    · obtain ⟨v, hv⟩ := outY_some (hw i (mem_ready.1 hr).1) hy
      have := ready_mono hj hji
      rw [(H v hv).1] at this
      cases this
  | succ fuel ih =>
    intro listed a w hcl hw hfree hr hy H
    refine ⟨fun h => (by rw [h] at hr; cases hr), fun j hj => ?_⟩
    by_cases hji : j = i
    · subst hji; exact (mOp_pure hi hp).2 ⟨hy, H⟩
    · have hj' := ready_mono hj hji
      obtain ⟨hjun, oj, hoj, hall⟩ := mem_ready.1 hj
      have hnot : ∀ e ∈ oj.after, Region.binds md e = true → e.on ≠ i := fun e he hb heq => by
        have h1 := hall e he hb
        have h0 := (mem_ready.1 hr).1
        rw [heq] at h1
        rw [getD_ft h1] at h0
        cases h0
      obtain ⟨h1, h2, h3⟩ := Oper.apart_spec (hfree j oj hoj hji hjun hnot)
      have hfree' : ∀ k ok, ops[k]? = some ok → k ≠ i → (listed.setIfInBounds j true).getD k true = false →
          (∀ e ∈ ok.after, Region.binds md e = true → e.on ≠ i) → oi.apart ops ok = true := fun k ok hk hki hun hno => by
        refine hfree k ok hk hki ?_ hno
        by_cases hjk : j = k
        · subst hjk; exact hjun
        · rw [getD_set_ne true hjk] at hun; exact hun
      have step : ∀ (a' : Act) (w' : World), InvU U (listed.setIfInBounds j true) w' → okY P ops (U i) (An i) oi a' → (∀ v, outY P ops (U i) (An i) oi a' v → wpAnyM P md ops U eff An Q fuel ((listed.setIfInBounds i true).setIfInBounds j true) (a'.put oi.dst v) w') →
          wpAnyM P md ops U eff An Q (fuel + 1) (listed.setIfInBounds j true) a' w' := fun a' w' hw' hy' H' => by
        refine ih (listed.setIfInBounds j true) a' w' (hcl.set hj) hw' hfree' (ready_mono hr (Ne.symm hji)) hy' fun v hv => ?_
        rw [Array.setIfInBounds_comm _ _ hji]
        exact H' v hv
      obtain ⟨v0, hv0⟩ := outY_some (hw i (mem_ready.1 hr).1) hy
      cases hje : eff j with
      | false =>
        refine (mOp_pure hoj hje).2 ⟨?_, fun u hu => ?_⟩
        · exact (okY_put (hsel j oj · · hoj) h1).1 ((mOp_pure hoj hje).1 ((H v0 hv0).2 j hj')).1
        · refine step _ w (hw.set j) ((okY_put (hsel i oi · · hi) h3).2 hy) fun v hv => ?_
          rw [← Act.put_comm a v u h2]
          exact ((mOp_pure hoj hje).1 ((H v ((outY_put (hsel i oi · · hi) h3).1 hv)).2 j hj')).2 u ((outY_put (hsel j oj · · hoj) h1).2 hu)
      | true =>
        have HH : ∀ v, outY P ops (U i) (An i) oi a v → mOp P md ops U eff An j (wpAnyM P md ops U eff An Q fuel ((listed.setIfInBounds i true).setIfInBounds j true)) (a.put oi.dst v) w := fun v hv => (H v hv).2 j hj'
        unfold mOp at HH ⊢
        simp only [hoj, hje, if_true] at HH ⊢
        simp only [wanted_put oj a oi.dst _ h1, execOp_put oj (hsel j oj · · hoj) a oi.dst _ h1] at HH
        split
        · rename_i hwt
          simp only [hwt, if_true] at HH
          intro n
          obtain ⟨u, w', e1, e2, _⟩ := HH v0 hv0 n
          refine ⟨u, w', e1, e2, step _ w' (InvU.aft hcl hj e2) ((okY_put (hsel i oi · · hi) h3).2 hy) fun v hv => ?_⟩
          obtain ⟨u2, w2, f1, _, f3⟩ := HH v ((outY_put (hsel i oi · · hi) h3).1 hv) n
          obtain ⟨rfl, rfl⟩ := yieldsE_det e1 f1
          rw [← Act.put_comm a v u h2]
          exact f3
        · rename_i hwt
          simp only [hwt] at HH
          refine step _ w (hw.set j) ((okY_put (hsel i oi · · hi) h3).2 hy) fun v hv => ?_
          rw [← Act.put_comm a v undef h2]
          exact HH v ((outY_put (hsel i oi · · hi) h3).1 hv)

/-- No two operations that write may come up at once. -/
def effChain (md : Region.Mode) (ops : Array Oper) (eff : Nat → Bool) : Bool :=
  (List.range ops.size).all fun i => (List.range ops.size).all fun j => i == j || !eff i || !eff j || waitsT md ops ops.size i j || waitsT md ops ops.size j i

theorem effChain_spec (h : effChain md ops eff = true) {i j : Nat} {listed : Array Bool} (inv : ClosedL md ops listed) (hne : j ≠ i) (hi : i ∈ Region.ready md ops listed) (hj : j ∈ Region.ready md ops listed) (he : eff i = true) : eff j = false := by
  cases hje : eff j with
  | false => rfl
  | true =>
    have hi' : i < ops.size := by obtain ⟨_, o, ho, _⟩ := mem_ready.1 hi; exact (Array.getElem?_eq_some_iff.1 ho).1
    have hj' : j < ops.size := by obtain ⟨_, o, ho, _⟩ := mem_ready.1 hj; exact (Array.getElem?_eq_some_iff.1 ho).1
    have := List.all_eq_true.1 (List.all_eq_true.1 h i (List.mem_range.2 hi')) j (List.mem_range.2 hj')
    simp only [he, hje, Bool.not_true, Bool.or_false, Bool.or_eq_true, beq_iff_eq] at this
    rcases this with (h1 | h1) | h1
    · exact absurd h1.symm hne
    · rw [not_waits inv (mem_ready.1 hj).1 hi] at h1; cases h1
    · rw [not_waits inv (mem_ready.1 hi).1 hj] at h1; cases h1

/-- An operation i that writes may be taken first. -/
theorem wpAnyM_first_eff (hc : effChain md ops eff = true) (hsel : ∀ (j : Nat) (o : Oper) cs b, ops[j]? = some o → o.op ≠ .select cs b) {i : Nat} {oi : Oper} (hi : ops[i]? = some oi) (hp : eff i = true) :
    ∀ (fuel : Nat) (listed : Array Bool) (a : Act) (w : World), ClosedL md ops listed → InvU U listed w →
      (∀ j oj, ops[j]? = some oj → j ≠ i → listed.getD j true = false → (∀ e ∈ oj.after, Region.binds md e = true → e.on ≠ i) → oi.apart ops oj = true) →
      i ∈ Region.ready md ops listed →
      mOp P md ops U eff An i (wpAnyM P md ops U eff An Q fuel (listed.setIfInBounds i true)) a w → wpAnyM P md ops U eff An Q (fuel + 1) listed a w := by
  intro fuel
  induction fuel with
  | zero =>
    intro listed a w hcl hw _ hr H
    refine ⟨fun h => (by rw [h] at hr; cases hr), fun j hj => ?_⟩
    by_cases hji : j = i
    · subst hji; exact H
    · have h1 := ready_mono hj hji
      unfold mOp at H
      simp only [hi, hp, if_true] at H
      split at H
      · obtain ⟨_, _, _, _, h2⟩ := H 0; rw [h2.1] at h1; cases h1
      · rw [H.1] at h1; cases h1
  | succ fuel ih =>
    intro listed a w hcl hw hfree hr H
    refine ⟨fun h => (by rw [h] at hr; cases hr), fun j hj => ?_⟩
    by_cases hji : j = i
    · subst hji; exact H
    · have hj' := ready_mono hj hji
      obtain ⟨hjun, oj, hoj, hall⟩ := mem_ready.1 hj
      have hnot : ∀ e ∈ oj.after, Region.binds md e = true → e.on ≠ i := fun e he hb heq => by
        have h1 := hall e he hb
        have h0 := (mem_ready.1 hr).1
        rw [heq] at h1
        rw [getD_ft h1] at h0
        cases h0
      obtain ⟨h1, h2, h3⟩ := Oper.apart_spec (hfree j oj hoj hji hjun hnot)
      have hfree' : ∀ k ok, ops[k]? = some ok → k ≠ i → (listed.setIfInBounds j true).getD k true = false →
          (∀ e ∈ ok.after, Region.binds md e = true → e.on ≠ i) → oi.apart ops ok = true := fun k ok hk hki hun hno => by
        refine hfree k ok hk hki ?_ hno
        by_cases hjk : j = k
        · subst hjk; exact hjun
        · rw [getD_set_ne true hjk] at hun; exact hun
      have hje := effChain_spec hc hcl hji hr hj hp
      -- what the walk behind i says of j
      have key : ∀ (u : Value) (w' : World), wpAnyM P md ops U eff An Q (fuel + 1) (listed.setIfInBounds i true) (a.put oi.dst u) w' →
          okY P ops (U j) (An j) oj a ∧ ∀ v, outY P ops (U j) (An j) oj a v → wpAnyM P md ops U eff An Q fuel ((listed.setIfInBounds i true).setIfInBounds j true) ((a.put oj.dst v).put oi.dst u) w' := fun u w' h => by
        have hm := (mOp_pure hoj hje).1 (h.2 j hj')
        refine ⟨(okY_put (hsel j oj · · hoj) h1).1 hm.1, fun v hv => ?_⟩
        rw [← Act.put_comm a u v h2]
        exact hm.2 v ((outY_put (hsel j oj · · hoj) h1).2 hv)
      unfold mOp at H
      simp only [hi, hp, if_true] at H
      have hnow : ∀ v, mOp P md ops U eff An i (wpAnyM P md ops U eff An Q fuel ((listed.setIfInBounds i true).setIfInBounds j true)) (a.put oj.dst v) w →
          wpAnyM P md ops U eff An Q (fuel + 1) (listed.setIfInBounds j true) (a.put oj.dst v) w := fun v h => by
        refine ih (listed.setIfInBounds j true) _ w (hcl.set hj) (hw.set j) hfree' (ready_mono hr (Ne.symm hji)) ?_
        rw [Array.setIfInBounds_comm _ _ hji]
        exact h
      by_cases hwt : Region.wanted oi (yielded ops a.tmps) = true
      · simp only [hwt, if_true] at H
        refine (mOp_pure hoj hje).2 ⟨?_, fun v hv => hnow v ?_⟩
        · obtain ⟨u, w', _, _, h5⟩ := H 0
          exact (key u w' h5).1
        · unfold mOp
          simp only [hi, hp, if_true, wanted_put oi a oj.dst v h3, hwt, execOp_put oi (hsel i oi · · hi) a oj.dst v h3]
          intro n
          obtain ⟨u, w', e1, e2, h5⟩ := H n
          exact ⟨u, w', e1, e2, (key u w' h5).2 v hv⟩
      · simp only [hwt] at H
        refine (mOp_pure hoj hje).2 ⟨(key undef w H).1, fun v hv => hnow v ?_⟩
        unfold mOp
        simp only [hi, wanted_put oi a oj.dst v h3, hwt]
        exact (key undef w H).2 v hv

/-- THE LEXICAL WALK. -/
def wpLex (P : Program) (ops : Array Oper) (U : Nat → World → Prop) (eff : Nat → Bool) (An : Nat → Value → Prop) (Q : Exit → Act → World → Prop) : Nat → List Oper → Act → World → Prop
  | _, [], a, w => ∀ n, Q .normal a (w.drewN n)
  | k, o :: rest, a, w =>
    if Region.wanted o (yielded ops a.tmps) then
      if eff k then ∀ n, ∃ u w', yieldsE ((execOp a.eval o).run P (w.drewN n)) u w' ∧ AftU .any ops U k w' ∧ wpLex P ops U eff An Q (k + 1) rest (a.put o.dst u) w'
      else safeY P (U k) (An k) o a ∧ ∀ v, mayY P (U k) (An k) o a v → wpLex P ops U eff An Q (k + 1) rest (a.put o.dst v) w
    else wpLex P ops U eff An Q (k + 1) rest (a.put o.dst undef) w

theorem wpAnyM_lex (hc : effChain .any ops eff = true) (hs : Region.noSelect ops = true) : ∀ (l : List Oper) (k : Nat) (listed : Array Bool) (a : Act) (w : World), ClosedL .any ops listed → InvU U listed w → (∀ j, l[j]? = ops[k + j]?) →
    Region.lexFrom .any ops l.length k listed = true → wpLex P ops U eff An Q k l a w → wpAnyM P .any ops U eff An Q l.length listed a w
  | [], _, _, _, _, _, _, _, hB, h => ⟨by simpa [Region.lexFrom] using hB, h⟩
  | o :: l, k, listed, a, w, hcl, hw, hl, hB, h => by
    have h0 : ops[k]? = some o := by simpa using (hl 0).symm
    simp only [List.length_cons, Region.lexFrom, Bool.and_eq_true] at hB
    obtain ⟨⟨hr, hf⟩, hB'⟩ := hB
    have hr' : k ∈ Region.ready .any ops listed := by simpa using hr
    have hl' : ∀ j, l[j]? = ops[k + 1 + j]? := fun j => by have := hl (j + 1); simpa [Nat.add_assoc, Nat.add_comm 1 j] using this
    have onn : ∀ a' w', InvU U (listed.setIfInBounds k true) w' → wpLex P ops U eff An Q (k + 1) l a' w' → wpAnyM P .any ops U eff An Q l.length (listed.setIfInBounds k true) a' w' := fun a' w' hw' h' =>
      wpAnyM_lex hc hs l (k + 1) _ a' w' (hcl.set hr') hw' hl' hB' h'
    simp only [wpLex] at h
    cases hk : eff k with
    | false =>
      simp only [hk] at h
      refine wpAnyM_first (Region.noSelect_spec hs) h0 hk l.length listed a w hcl hw (Region.free_spec h0 hf) hr' (fun hwt => ?_) (fun v hv => onn _ _ (hw.set k) ?_)
      · simp only [hwt, if_true] at h; exact h.1
      · unfold outY at hv
        by_cases hwt : Region.wanted o (yielded ops a.tmps) = true
        · simp only [hwt, if_true] at h hv; exact h.2 v hv
        · simp only [hwt] at h hv
          subst hv
          exact h
    | true =>
      simp only [hk, if_true] at h
      refine wpAnyM_first_eff hc (Region.noSelect_spec hs) h0 hk l.length listed a w hcl hw (Region.free_spec h0 hf) hr' ?_
      unfold mOp
      simp only [h0, hk, if_true]
      split
      · rename_i hwt
        simp only [hwt, if_true] at h
        intro n
        obtain ⟨u, w', e1, e2, e3⟩ := h n
        exact ⟨u, w', e1, e2, onn _ _ (InvU.aft hcl hr' e2) e3⟩
      · rename_i hwt
        simp only [hwt] at h
        exact onn _ _ (hw.set k) h

/-- ONE LEXICAL WALK SERVES EVERY ORDER. -/
theorem wp_region_mix {id : Nat} {a : Act} {w : World} {l : List Oper} (U : Nat → World → Prop) (eff : Nat → Bool) (An : Nat → Value → Prop) (hm : P.follows .mixedOrders = true) (hB : Region.lexB .any l.toArray = true) (hc : effChain .any l.toArray eff = true)
    (hU : ∀ j w n, U j w → U j (w.drewN n)) (hw : ∀ j, U j w) (h : ∀ n, wpLex P l.toArray U eff An Q 0 l a (w.drewN n)) : (Code.region id l.toArray true).wp P Q a w := by
  simp only [Region.lexB, Bool.and_eq_true] at hB
  refine wp_region_any hm ?_
  have hw1 : InvU U (Array.replicate l.toArray.size false) (w.drewN 1) := fun j _ => hU j w 1 (hw j)
  have hcl : ClosedL .any l.toArray (Array.replicate l.toArray.size false) := fun j oj _ hl => by
    rw [getD_replicate_false] at hl; cases hl
  have h1 := wpAnyM_lex hc hB.1 l 0 (Array.replicate l.toArray.size false) a (w.drewN 1) hcl hw1 (by simp) (by simpa using hB.2) (h 1)
  have h2 := wpAny_of_M hU _ _ _ _ hcl hw1 h1 0
  rw [show l.toArray.size = l.length by simp]
  simp only [List.size_toArray] at h2
  exact h2
/-- The classes: of the operations listed in own: R; of the others: E. -/
def ownU (own : List Nat) (R E : World → Prop) (j : Nat) : World → Prop := if own.contains j then R else E
theorem ownU_drew {own : List Nat} {R E : World → Prop} (hR : ∀ w n, R w → R (w.drewN n)) (hE : ∀ w n, E w → E (w.drewN n)) : ∀ j w n, ownU own R E j w → ownU own R E j (w.drewN n) := fun j w n h => by
  unfold ownU at *
  split
  · rename_i hj; simp only [hj, if_true] at h; exact hR w n h
  · rename_i hj; simp only [hj] at h; exact hE w n h
theorem ownU_all {own : List Nat} {R E : World → Prop} {w : World} (hR : R w) (hE : E w) : ∀ j, ownU own R E j w := fun j => by
  unfold ownU; split
  · exact hR
  · exact hE
/-- Behind an operation that waits for all the listed ones. -/
theorem ownU_aft {own : List Nat} {R E : World → Prop} {k : Nat} {w : World} (hB : own.all (fun j => j == k || waitsT .any ops ops.size k j) = true) (hE : E w) : AftU .any ops (ownU own R E) k w := fun j hj hne => by
  unfold ownU
  split
  · rename_i hj'
    have := List.all_eq_true.1 hB j (by simpa using hj')
    simp only [hj, Bool.or_false, beq_iff_eq] at this
    exact absurd this hne
  · exact hE
end
end Go.Proofs.Ytnjgcacnfobmiaa
