/- FlatGather: the reference's and the program's. -/
import Derived.Test.YtnjgcacnfobmiaaFGat
import Derived.Test.YtnjgcacnfobmiaaOpen
import Derived.Laws.ResultCell
import Derived.Laws.Rows
namespace Go.Proofs.Ytnjgcacnfobmiaa
open Go.RowKit
set_option maxRecDepth 100000
set_option linter.unusedVariables false

theorem results_row2 {P : Program} {fn : Func} {p u : Tmp} {ty : TypeId} (h : fn.results = #[.cell p ty, .tmp u]) (tmps : Array Value) (w : World) (g : Nat) (t : TypeId) (cs : Array Value) (d : TypeDesc)
    (hp : tmps.getD p undef = .pointer (some ⟨g, 0, none⟩)) (hg : Cells w g cs t) (hu : P.underlying ty = some d) (hd : (match d with | .struct _ | .array _ _ => true | _ => false) = true) (hi : (P.info? ty).map (·.size) = some cs.size) :
    (results fn tmps).run P w = .ok (.tuple #[.agg cs, tmps.getD u undef]) w := by
  rw [results_cell_tmp h, hp]
  have h2 := run_loadVar_row (P := P) w g t ty cs (0, 0) d hg hu hd hi
  simp [asAddr, Result.andThen, h2]
def GivesHO (o : Option (Int × List Nat × List (List Nat))) (w : World) (e : Ending) (w' : World) : Prop :=
  ∃ t pv rv vs ys qs, e = .returned (.tuple #[.agg #[.int .i64 t, pv, rv], .bool o.isSome]) ∧ Ext w w' ∧ OwnG w' w.heap.size pv rv vs ys qs ∧ t = (o.map (·.1)).getD 0 ∧ cl ys = (o.map (·.2.1)).getD [] ∧ cls qs = (o.map (·.2.2)).getD []
def flatO (t : Int) (ps : List Nat) : Option (Int × List Nat × List (List Nat)) :=
  if inB t 1 64 && plB ps then some (t, ps, List.replicate ps.length (List.replicate t.toNat 0)) else none
theorem ownG_nil (w : World) (base : Nat) : OwnG w base (.slice none 0 0) (.slice none 0 0) [] [] [] :=
  ⟨OwnF.nil _ _, ⟨rfl, ⟨rfl, .inl ⟨rfl, rfl⟩⟩, fun i hi => by simp at hi, fun i k hi => by simp at hi, fun i j k hi => by simp at hi⟩, fun k hk => by cases hk⟩
theorem givesHO_none {o : Option (Int × List Nat × List (List Nat))} (h : o = none) {w w' : World} (he : Ext w w') : GivesHO o w (.returned (.tuple #[.agg #[.int .i64 0, .slice none 0 0, .slice none 0 0], .bool false])) w' := by
  subst h
  exact ⟨0, _, _, [], [], [], rfl, he, ownG_nil _ _, rfl, rfl, rfl⟩
set_option maxHeartbeats 4000000 in
theorem specFlat_no1 (t : Int) (ao : Option Addr) (cap : Nat) (xs : List Nat) (w : World) (hc : FR w ao xs) (hl : xs.length ≤ 1048576) (ht : inB t 1 64 = false) : Calls Try.prog 20 #[.int .i64 t, .slice ao xs.length cap] w (GivesHO (flatO t (cl xs)) w) := by
  have h : Hid (flatO t (cl xs) = none) := by unfold Hid flatO plB; rw [ht]; rfl
  go_enter Try.func20, Try.ntmps20
  go_wp2_with (first | (go_at_call 75; refine (l04Ticks_any _ _ ht _).mono ?_; rintro _ _ ⟨rfl, rfl⟩) | (go_at_call 77; refine (within_any _ _ _ _ (by first | assumption | rfl) _).mono ?_; rintro _ _ ⟨rfl, rfl⟩) | (go_at_call 90; refine (l00In_any _ _ _ _ (by first | assumption | rfl) _).mono ?_; rintro _ _ ⟨rfl, rfl⟩) | (go_at_call 96; refine (isCount_any _ _ (by first | assumption | rfl) _).mono ?_; rintro _ _ ⟨rfl, rfl⟩) | (go_at_call 88; refine (isTrace_any _ _ _ _ (by first | assumption | rfl) _).mono ?_; rintro _ _ ⟨rfl, rfl⟩) | (go_at_call 85; refine (l03Is_any _ _ _ _ (by first | assumption | rfl) (by omega) _).mono ?_; rintro _ _ ⟨rfl, rfl⟩) | (go_at_call 78; refine (length32_any _ _ _ _).mono ?_; rintro _ _ ⟨rfl, rfl⟩) | (go_at_call 148; refine (isFinite64_any _ _ _ (by assumption) (by first | assumption | rfl) _).mono ?_; rintro _ _ ⟨rfl, n, rfl⟩) | (go_at_call 99; refine (isFinite_any _ _ _ (by first | assumption | exact is_ofInt _ _ | exact is_self) (by first | assumption | rfl) _).mono ?_; rintro _ _ ⟨rfl, n, rfl⟩) | (go_at_call 97; refine (l01Finite_any _ _ _ (by first | assumption | exact is_ofInt _ _ | exact is_self) (by first | assumption | rfl) _).mono ?_; rintro _ _ ⟨rfl, n, rfl⟩))
  (try simp only [Exit.inBlock, Exit.then])
  refine bodyPost_ret (results_row2 rfl _ _ _ _ _ _ rfl (Cells.new _ _ _) Try.underlying25 rfl infoG) rfl ?_
  exact givesHO_none h.out (by repeat (first | assumption | exact Ext.refl _ | apply Ext.drewN | apply Ext.alloc | (refine Ext.setCell ?_ (by first | assumption | exact Nat.le_refl _) _)))
set_option maxHeartbeats 4000000 in
theorem specFlat_no2 (t : Int) (ao : Option Addr) (cap : Nat) (xs : List Nat) (w : World) (hc : FR w ao xs) (hl : xs.length ≤ 1048576) (ht : inB t 1 64 = true) (hp : (inB (xs.length : Int) 1 16 && allP (finK .f32) (cl xs) xs.length) = false) : Calls Try.prog 20 #[.int .i64 t, .slice ao xs.length cap] w (GivesHO (flatO t (cl xs)) w) := by
  have h : Hid (flatO t (cl xs) = none) := by unfold Hid flatO plB; rw [ht, cl_length, hp]; rfl
  go_enter Try.func20, Try.ntmps20
  go_wp2_with (first | (go_at_call 75; refine (l04Ticks_any _ _ ht _).mono ?_; rintro _ _ ⟨rfl, rfl⟩) | (go_at_call 76; refine (l04Places_any _ _ _ _ _ (hc.ext (by repeat (first | assumption | exact Ext.refl _ | apply Ext.drewN | apply Ext.alloc | (refine Ext.setCell ?_ (by first | assumption | exact Nat.le_refl _) _)))) hl hp).mono ?_; rintro _ _ ⟨rfl, n1, rfl⟩) | (go_at_call 77; refine (within_any _ _ _ _ (by first | assumption | rfl) _).mono ?_; rintro _ _ ⟨rfl, rfl⟩) | (go_at_call 90; refine (l00In_any _ _ _ _ (by first | assumption | rfl) _).mono ?_; rintro _ _ ⟨rfl, rfl⟩) | (go_at_call 96; refine (isCount_any _ _ (by first | assumption | rfl) _).mono ?_; rintro _ _ ⟨rfl, rfl⟩) | (go_at_call 88; refine (isTrace_any _ _ _ _ (by first | assumption | rfl) _).mono ?_; rintro _ _ ⟨rfl, rfl⟩) | (go_at_call 85; refine (l03Is_any _ _ _ _ (by first | assumption | rfl) (by omega) _).mono ?_; rintro _ _ ⟨rfl, rfl⟩) | (go_at_call 78; refine (length32_any _ _ _ _).mono ?_; rintro _ _ ⟨rfl, rfl⟩) | (go_at_call 148; refine (isFinite64_any _ _ _ (by assumption) (by first | assumption | rfl) _).mono ?_; rintro _ _ ⟨rfl, n, rfl⟩) | (go_at_call 99; refine (isFinite_any _ _ _ (by first | assumption | exact is_ofInt _ _ | exact is_self) (by first | assumption | rfl) _).mono ?_; rintro _ _ ⟨rfl, n, rfl⟩) | (go_at_call 97; refine (l01Finite_any _ _ _ (by first | assumption | exact is_ofInt _ _ | exact is_self) (by first | assumption | rfl) _).mono ?_; rintro _ _ ⟨rfl, n, rfl⟩))
  (try simp only [Exit.inBlock, Exit.then])
  refine bodyPost_ret (results_row2 rfl _ _ _ _ _ _ rfl (Cells.set (Cells.set (Cells.set (Cells.new _ _ _) 0 _) 1 _) 2 _) Try.underlying25 rfl infoG) rfl ?_
  exact givesHO_none h.out (by repeat (first | assumption | exact Ext.refl _ | apply Ext.drewN | apply Ext.alloc | (refine Ext.setCell ?_ (by first | assumption | exact Nat.le_refl _) _)))
set_option maxHeartbeats 4000000 in
theorem implFlat_no1 (t : Int) (ao : Option Addr) (cap : Nat) (xs : List Nat) (w : World) (hc : FR w ao xs) (hl : xs.length ≤ 1048576) (ht : inB t 1 64 = false) : Calls Try.prog 22 #[.int .i64 t, .slice ao xs.length cap] w (GivesHO (flatO t (cl xs)) w) := by
  have h : Hid (flatO t (cl xs) = none) := by unfold Hid flatO plB; rw [ht]; rfl
  go_enter Try.func22, Try.ntmps22
  go_wp2_with (first | (go_at_call 77; refine (within_any _ _ _ _ (by first | assumption | rfl) _).mono ?_; rintro _ _ ⟨rfl, rfl⟩) | (go_at_call 90; refine (l00In_any _ _ _ _ (by first | assumption | rfl) _).mono ?_; rintro _ _ ⟨rfl, rfl⟩) | (go_at_call 96; refine (isCount_any _ _ (by first | assumption | rfl) _).mono ?_; rintro _ _ ⟨rfl, rfl⟩) | (go_at_call 88; refine (isTrace_any _ _ _ _ (by first | assumption | rfl) _).mono ?_; rintro _ _ ⟨rfl, rfl⟩) | (go_at_call 85; refine (l03Is_any _ _ _ _ (by first | assumption | rfl) (by omega) _).mono ?_; rintro _ _ ⟨rfl, rfl⟩) | (go_at_call 78; refine (length32_any _ _ _ _).mono ?_; rintro _ _ ⟨rfl, rfl⟩) | (go_at_call 148; refine (isFinite64_any _ _ _ (by assumption) (by first | assumption | rfl) _).mono ?_; rintro _ _ ⟨rfl, n, rfl⟩) | (go_at_call 99; refine (isFinite_any _ _ _ (by first | assumption | exact is_ofInt _ _ | exact is_self) (by first | assumption | rfl) _).mono ?_; rintro _ _ ⟨rfl, n, rfl⟩) | (go_at_call 97; refine (l01Finite_any _ _ _ (by first | assumption | exact is_ofInt _ _ | exact is_self) (by first | assumption | rfl) _).mono ?_; rintro _ _ ⟨rfl, n, rfl⟩))
  (try simp only [Exit.inBlock, Exit.then])
  refine bodyPost_ret (results_row2 rfl _ _ _ _ _ _ rfl (Cells.new _ _ _) Try.underlying25 rfl infoG) rfl ?_
  exact givesHO_none h.out (by repeat (first | assumption | exact Ext.refl _ | apply Ext.drewN | apply Ext.alloc | (refine Ext.setCell ?_ (by first | assumption | exact Nat.le_refl _) _)))
set_option maxHeartbeats 4000000 in
theorem implFlat_no2 (t : Int) (ao : Option Addr) (cap : Nat) (xs : List Nat) (w : World) (hc : FR w ao xs) (hl : xs.length ≤ 1048576) (ht : inB t 1 64 = true) (hp : inB (xs.length : Int) 1 16 = false) : Calls Try.prog 22 #[.int .i64 t, .slice ao xs.length cap] w (GivesHO (flatO t (cl xs)) w) := by
  have h : Hid (flatO t (cl xs) = none) := by unfold Hid flatO plB; rw [ht, cl_length, hp]; rfl
  go_enter Try.func22, Try.ntmps22
  go_wp2_with (first | (go_at_call 77; refine (within_any _ _ _ _ (by first | assumption | rfl) _).mono ?_; rintro _ _ ⟨rfl, rfl⟩) | (go_at_call 90; refine (l00In_any _ _ _ _ (by first | assumption | rfl) _).mono ?_; rintro _ _ ⟨rfl, rfl⟩) | (go_at_call 96; refine (isCount_any _ _ (by first | assumption | rfl) _).mono ?_; rintro _ _ ⟨rfl, rfl⟩) | (go_at_call 88; refine (isTrace_any _ _ _ _ (by first | assumption | rfl) _).mono ?_; rintro _ _ ⟨rfl, rfl⟩) | (go_at_call 85; refine (l03Is_any _ _ _ _ (by first | assumption | rfl) (by omega) _).mono ?_; rintro _ _ ⟨rfl, rfl⟩) | (go_at_call 78; refine (length32_any _ _ _ _).mono ?_; rintro _ _ ⟨rfl, rfl⟩) | (go_at_call 148; refine (isFinite64_any _ _ _ (by assumption) (by first | assumption | rfl) _).mono ?_; rintro _ _ ⟨rfl, n, rfl⟩) | (go_at_call 99; refine (isFinite_any _ _ _ (by first | assumption | exact is_ofInt _ _ | exact is_self) (by first | assumption | rfl) _).mono ?_; rintro _ _ ⟨rfl, n, rfl⟩) | (go_at_call 97; refine (l01Finite_any _ _ _ (by first | assumption | exact is_ofInt _ _ | exact is_self) (by first | assumption | rfl) _).mono ?_; rintro _ _ ⟨rfl, n, rfl⟩))
  (try simp only [Exit.inBlock, Exit.then])
  refine bodyPost_ret (results_row2 rfl _ _ _ _ _ _ rfl (Cells.new _ _ _) Try.underlying25 rfl infoG) rfl ?_
  exact givesHO_none h.out (by repeat (first | assumption | exact Ext.refl _ | apply Ext.drewN | apply Ext.alloc | (refine Ext.setCell ?_ (by first | assumption | exact Nat.le_refl _) _)))
set_option maxHeartbeats 4000000 in
theorem implFlat_no3 (t : Int) (ao : Option Addr) (cap : Nat) (xs : List Nat) (w : World) (hc : FR w ao xs) (hl : xs.length ≤ 1048576) (ht : inB t 1 64 = true) (hp : inB (xs.length : Int) 1 16 = true) (hf : allP (finK .f32) (cl xs) xs.length = false) : Calls Try.prog 22 #[.int .i64 t, .slice ao xs.length cap] w (GivesHO (flatO t (cl xs)) w) := by
  have h : Hid (flatO t (cl xs) = none) := by unfold Hid flatO plB; rw [ht, cl_length, hp, hf]; rfl
  go_enter Try.func22, Try.ntmps22
  go_wp2_with (first | (go_at_call 79; refine (areFinite_any _ _ _ _ _ (hc.ext (by repeat (first | assumption | exact Ext.refl _ | apply Ext.drewN | apply Ext.alloc | (refine Ext.setCell ?_ (by first | assumption | exact Nat.le_refl _) _)))) (by omega) hf).mono ?_; rintro _ _ ⟨rfl, n1, rfl⟩) | (go_at_call 77; refine (within_any _ _ _ _ (by first | assumption | rfl) _).mono ?_; rintro _ _ ⟨rfl, rfl⟩) | (go_at_call 90; refine (l00In_any _ _ _ _ (by first | assumption | rfl) _).mono ?_; rintro _ _ ⟨rfl, rfl⟩) | (go_at_call 96; refine (isCount_any _ _ (by first | assumption | rfl) _).mono ?_; rintro _ _ ⟨rfl, rfl⟩) | (go_at_call 88; refine (isTrace_any _ _ _ _ (by first | assumption | rfl) _).mono ?_; rintro _ _ ⟨rfl, rfl⟩) | (go_at_call 85; refine (l03Is_any _ _ _ _ (by first | assumption | rfl) (by omega) _).mono ?_; rintro _ _ ⟨rfl, rfl⟩) | (go_at_call 78; refine (length32_any _ _ _ _).mono ?_; rintro _ _ ⟨rfl, rfl⟩) | (go_at_call 148; refine (isFinite64_any _ _ _ (by assumption) (by first | assumption | rfl) _).mono ?_; rintro _ _ ⟨rfl, n, rfl⟩) | (go_at_call 99; refine (isFinite_any _ _ _ (by first | assumption | exact is_ofInt _ _ | exact is_self) (by first | assumption | rfl) _).mono ?_; rintro _ _ ⟨rfl, n, rfl⟩) | (go_at_call 97; refine (l01Finite_any _ _ _ (by first | assumption | exact is_ofInt _ _ | exact is_self) (by first | assumption | rfl) _).mono ?_; rintro _ _ ⟨rfl, n, rfl⟩))
  (try simp only [Exit.inBlock, Exit.then])
  refine bodyPost_ret (results_row2 rfl _ _ _ _ _ _ rfl (Cells.set (Cells.set (Cells.set (Cells.new _ _ _) 0 _) 1 _) 2 _) Try.underlying25 rfl infoG) rfl ?_
  exact givesHO_none h.out (by repeat (first | assumption | exact Ext.refl _ | apply Ext.drewN | apply Ext.alloc | (refine Ext.setCell ?_ (by first | assumption | exact Nat.le_refl _) _)))
end Go.Proofs.Ytnjgcacnfobmiaa
