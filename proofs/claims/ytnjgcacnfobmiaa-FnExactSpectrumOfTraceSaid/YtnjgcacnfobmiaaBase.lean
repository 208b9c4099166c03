/- Contracts of the laws' own helpers over slices of floats: the copy, the comparison, the marks. -/
import Derived.Test.YtnjgcacnfobmiaaHeap
import Derived.Test.YtnjgcacnfobmiaaChecked
import Derived.ProofKit
namespace Go.Proofs.Ytnjgcacnfobmiaa
open Go.RowKit
set_option maxRecDepth 100000

theorem own : ownKnob Try.prog.godebug = none := by kernel_rfl
theorem laidOut : laidOutB Try.prog = true := by kernel_rfl
theorem info32 : (Try.prog.info? 34).map (fun i => (i.zero, i.size, i.bytes)) = some (some (.float .f32 0), 1, 4) := by kernel_rfl
theorem cells32 : Try.prog.cellsOf 34 = 1 := by kernel_rfl

/-- A call that comes back with a value, and has drawn. -/
def Gives (v : Value) (w : World) (e : Ending) (w' : World) : Prop := e = .returned v ∧ ∃ n, w' = w.drewN n
/-- A call that comes back with a float of a class. -/
def GivesF (k : FloatKind) (s : Nat) (w : World) (e : Ending) (w' : World) : Prop := ∃ r n, e = .returned (.float k r) ∧ Is k r s ∧ w' = w.drewN n
/-- A call that comes back with a float and a Bool. -/
def GivesFB (s : Nat) (b : Bool) (w : World) (e : Ending) (w' : World) : Prop := ∃ r n, e = .returned (.tuple #[.float .f32 r, .bool b]) ∧ Is .f32 r s ∧ w' = w.drewN n
/-- A call that comes back with a slice of its own and a Bool. -/
def GivesL (S : List Nat) (b : Bool) (w : World) (e : Ending) (w' : World) : Prop := ∃ v ys, e = .returned (.tuple #[v, .bool b]) ∧ Ext w w' ∧ OwnF w' w.heap.size v ys ∧ cl ys = S

/-- The same, by an option: none: a nil slice and false. -/
def GivesO (o : Option (List Nat)) (w : World) (e : Ending) (w' : World) : Prop := GivesL (o.getD []) o.isSome w e w'
theorem givesO_none {o : Option (List Nat)} (h : o = none) {w w' : World} (he : Ext w w') : GivesO o w (.returned (.tuple #[.slice none 0 0, .bool false])) w' := by
  subst h
  exact ⟨_, [], rfl, he, OwnF.nil _ _, rfl⟩
theorem givesO_some {o : Option (List Nat)} {S : List Nat} (h : o = some S) {w w' : World} {v : Value} {ys : List Nat} (he : Ext w w') (hO : OwnF w' w.heap.size v ys) (hc : cl ys = S) :
    GivesO o w (.returned (.tuple #[v, .bool true])) w' := by
  subst h
  exact ⟨_, ys, rfl, he, hO, hc⟩
/-- A float and a Bool, by an option: none: +0 and false. -/
def GivesFO (o : Option Nat) (w : World) (e : Ending) (w' : World) : Prop := GivesFB (o.getD 0) o.isSome w e w'
theorem givesFO_none {o : Option Nat} (h : o = none) {w : World} {n : Nat} : GivesFO o w (.returned (.tuple #[.float .f32 0, .bool false])) (w.drewN n) := by
  subst h
  exact ⟨0, n, rfl, canon_of_not (by decide +kernel), rfl⟩
theorem givesFO_some {o : Option Nat} {S r : Nat} (h : o = some S) (hr : Is .f32 r S) {w : World} {n : Nat} : GivesFO o w (.returned (.tuple #[.float .f32 r, .bool true])) (w.drewN n) := by
  subst h
  exact ⟨r, n, rfl, hr, rfl⟩

/-- A slice of its own, a number and a Bool, by an option. -/
def GivesLI (o : Option (List Nat × Int)) (w : World) (e : Ending) (w' : World) : Prop :=
  ∃ v ys, e = .returned (.tuple #[v, .int .i64 ((o.map (·.2)).getD 0), .bool o.isSome]) ∧ Ext w w' ∧ OwnF w' w.heap.size v ys ∧ cl ys = (o.map (·.1)).getD []
theorem givesLI_none {o : Option (List Nat × Int)} (h : o = none) {w w' : World} (he : Ext w w') : GivesLI o w (.returned (.tuple #[.slice none 0 0, .int .i64 0, .bool false])) w' := by
  subst h
  exact ⟨_, [], rfl, he, OwnF.nil _ _, rfl⟩
theorem givesLI_some {o : Option (List Nat × Int)} {S : List Nat} {i : Int} (h : o = some (S, i)) {w w' : World} {v : Value} {ys : List Nat} (he : Ext w w') (hO : OwnF w' w.heap.size v ys) (hc : cl ys = S) :
    GivesLI o w (.returned (.tuple #[v, .int .i64 i, .bool true])) w' := by
  subst h
  exact ⟨_, ys, rfl, he, hO, hc⟩

theorem fcmp_nan {op : BinOp} {k : FloatKind} {s t : Nat} (h : isNan k s = true ∨ isNan k t = true) : fcmp op k s t = (op == .neq) := by
  unfold fcmp
  rw [order_nan h]
  cases op <;> rfl
theorem order_self {k : FloatKind} {s : Nat} (h : isNan k s = false) : k.format.order s s = some .eq := by
  unfold Ieee.Format.order
  rcases read_not h with ⟨a, m, e, he⟩ | ⟨a, he⟩ <;> rw [he]
  · simp [Ieee.Datum.order]
  · simp [Ieee.Datum.order]
theorem fcmp_neq_self {k : FloatKind} {s : Nat} : fcmp .neq k s s = isNan k s := by
  cases h : isNan k s with
  | true => rw [fcmp_nan (.inl h)]; rfl
  | false => unfold fcmp; simp [order_self h]
theorem fcmp_eql_self {k : FloatKind} {s : Nat} : fcmp .eql k s s = !isNan k s := by
  cases h : isNan k s with
  | true => rw [fcmp_nan (.inl h)]; rfl
  | false => unfold fcmp; simp [order_self h]

set_option maxHeartbeats 400000 in
/-- Two floats of one class are the same. -/
theorem sameFloat_yes (x y s : Nat) (hx : Is .f64 x s) (hy : Is .f64 y s) (w : World) : Calls Try.prog 30 #[.float .f64 x, .float .f64 y] w (Gives (.bool true) w) := by
  cases hn : fcmp .neq .f64 s s with
  | true =>
    go_enter Try.func30, Try.ntmps30
    go_wp2_with (first | (refine wl_bin rfl rfl rfl rfl rfl (by first | assumption | exact is_ofInt _ _ | exact is_self) (by first | assumption | exact is_ofInt _ _ | exact is_self) ?_; intro r n hr) | (refine wl_cmp rfl rfl rfl rfl rfl (by first | assumption | exact is_ofInt _ _ | exact is_self) (by first | assumption | exact is_ofInt _ _ | exact is_self) (by first | assumption | rfl) ?_) | (refine wl_widen rfl rfl rfl (by first | exact rfl | kernel_rfl) (by kernel_rfl) (by first | assumption | exact is_ofInt _ _ | exact is_self) ?_; intro r n hr) | (refine wl_neg rfl rfl rfl (by first | assumption | exact is_ofInt _ _ | exact is_self) ?_; intro r hr))
    go_ret
    exact ⟨by first | rfl | simp, 0, rfl⟩
  | false =>
    have he : fcmp .eql .f64 s s = true := by rw [fcmp_eql_self, ← fcmp_neq_self, hn]; rfl
    cases h0 : fcmp .eql .f64 s 0 with
    | true =>
      have h0' : fcmp .eql .f64 s (canon .f64 0) = true := h0
      go_enter Try.func30, Try.ntmps30
      go_wp2_with (first | (refine wl_bin rfl rfl rfl rfl rfl (by first | assumption | exact is_ofInt _ _ | exact is_self) (by first | assumption | exact is_ofInt _ _ | exact is_self) ?_; intro r n hr) | (refine wl_cmp rfl rfl rfl rfl rfl (by first | assumption | exact is_ofInt _ _ | exact is_self) (by first | assumption | exact is_ofInt _ _ | exact is_self) (by first | assumption | rfl) ?_) | (refine wl_widen rfl rfl rfl (by first | exact rfl | kernel_rfl) (by kernel_rfl) (by first | assumption | exact is_ofInt _ _ | exact is_self) ?_; intro r n hr) | (refine wl_neg rfl rfl rfl (by first | assumption | exact is_ofInt _ _ | exact is_self) ?_; intro r hr))
      go_ret
      exact ⟨by first | rfl | simp, _, rfl⟩
    | false =>
      have h0' : fcmp .eql .f64 s (canon .f64 0) = false := h0
      go_enter Try.func30, Try.ntmps30
      go_wp2_with (first | (refine wl_bin rfl rfl rfl rfl rfl (by first | assumption | exact is_ofInt _ _ | exact is_self) (by first | assumption | exact is_ofInt _ _ | exact is_self) ?_; intro r n hr) | (refine wl_cmp rfl rfl rfl rfl rfl (by first | assumption | exact is_ofInt _ _ | exact is_self) (by first | assumption | exact is_ofInt _ _ | exact is_self) (by first | assumption | rfl) ?_) | (refine wl_widen rfl rfl rfl (by first | exact rfl | kernel_rfl) (by kernel_rfl) (by first | assumption | exact is_ofInt _ _ | exact is_self) ?_; intro r n hr) | (refine wl_neg rfl rfl rfl (by first | assumption | exact is_ofInt _ _ | exact is_self) ?_; intro r hr))
      go_ret
      exact ⟨by first | rfl | simp, 0, rfl⟩

set_option maxHeartbeats 400000 in
/-- The copy. -/
theorem toFloat32S_any (ao : Option Addr) (cap : Nat) (xs : List Nat) (w : World) (hc : FR w ao xs) (hl : xs.length ≤ 1048576) :
    Calls Try.prog 21 #[.slice ao xs.length cap] w fun e w' => ∃ v, e = .returned v ∧ Ext w w' ∧ OwnF w' w.heap.size v xs := by
  obtain ⟨i0, hi, hz, hs1, hb4⟩ := info_parts info32
  go_enter Try.func21, Try.ntmps21
  go_wp2_with (at_make; refine wl_make1 rfl Try.underlying22 hi hz hs1 hb4 rfl rfl rfl rfl rfl (by omega) ?_; intro w1 hown hext)
  have hg : w.heap.size ≤ w.heap.size := Nat.le_refl _
  go_loopw [4] (fun i wr => ∃ k : Nat, k ≤ xs.length ∧ i = .int .i64 k ∧ Ext w wr ∧ OwnF wr w.heap.size (.slice (some ⟨w.heap.size, 0, none⟩) xs.length xs.length) (xs.take k ++ List.replicate (xs.length - k) 0)) (fun i _ => xs.length - (intOf i).toNat)
  case atStart => exact ⟨0, Nat.zero_le _, rfl, hext, by simpa using hown⟩
  case round =>
    obtain ⟨k, hk, rfl, hE, hO⟩ := hrel
    clear hown hext
    by_cases hlt : k < xs.length
    · obtain ⟨b, off, rfl, hcell⟩ := hc.ext hE k hlt
      have hlen : (xs.take k ++ List.replicate (xs.length - k) 0).length = xs.length := by simp; omega
      obtain ⟨g, hge, _, _, hcur, hfz⟩ := hO.at (k := k) (by omega)
      simp only [Option.some.injEq, Addr.mk.injEq, and_true] at hge
      subst hge
      have hst := hO.stored k (el xs k)
      have hO2 : Hid (OwnF (wr.setCell ⟨w.heap.size, k, none⟩ (.float .f32 (el xs k))) w.heap.size (.slice (some ⟨w.heap.size, 0, none⟩) xs.length xs.length) (xs.take (k + 1) ++ List.replicate (xs.length - (k + 1)) 0)) := by
        have e : (xs.take k ++ List.replicate (xs.length - k) 0).set k (el xs k) = xs.take (k + 1) ++ List.replicate (xs.length - (k + 1)) 0 := by
          rw [set_mid _ _ _ _ (by simp; omega) (by simp; omega), take_snoc' xs k hlt, List.drop_replicate]
          rfl
        rw [← e]; exact hst.1
      have hE2 : Hid (Ext w (wr.setCell ⟨w.heap.size, k, none⟩ (.float .f32 (el xs k)))) := hE.setCell (Nat.le_refl _) _
      clear hst
      go_wp2
      go_roundw
      case rel => exact ⟨k + 1, by omega, by go_num, hE2.out, hO2.out⟩
      case measure => simp [intOf]; omega
    · go_wp2
      go_ret
      refine ⟨_, rfl, hE, ?_⟩
      rw [List.take_of_length_le (by omega), show xs.length - k = 0 by omega] at hO
      simpa using hO

/-- Two lists of one class are the same. -/
theorem eqFloat32S_yes (ao bo : Option Addr) (ca cb : Nat) (xs ys : List Nat) (w : World) (hx : FR w ao xs) (hy : FR w bo ys) (he : cl xs = cl ys) (hl : xs.length ≤ 1048576) :
    Calls Try.prog 24 #[.slice ao xs.length ca, .slice bo ys.length cb] w (Gives (.bool true) w) := by
  have hlen : xs.length = ys.length := by rw [← cl_length xs, he, cl_length]
  rw [← hlen]
  have HL := Lib.hid hlen
  clear hlen
  go_enter Try.func24, Try.ntmps24
  go_wp2
  go_loopw [5] (fun i wr => ∃ k n : Nat, k ≤ xs.length ∧ i = .int .i64 k ∧ wr = w.drewN n) (fun i _ => xs.length - (intOf i).toNat)
  case atStart => exact ⟨0, 0, Nat.zero_le _, rfl, rfl⟩
  case round =>
    obtain ⟨k, n, hk, rfl, rfl⟩ := hrel
    by_cases hlt : k < xs.length
    · obtain ⟨b, off, rfl, hcell⟩ := hx k hlt
      have hlt2 : k < ys.length := by have := HL.out; omega
      obtain ⟨b', off', rfl, hcell'⟩ := hy k hlt2
      have hA : Is .f32 (el xs k) (el (cl xs) k) := is_el hlt
      have hB : Is .f32 (el ys k) (el (cl xs) k) := by rw [he]; exact is_el hlt2
      clear he
      go_wp2
      refine wp_region_mix (fun _ => Drawn w) (fun _ => false) (fun _ v => v = .bool true) (by kernel_rfl) (by kernel_rfl) (by kernel_rfl) (fun _ => drawn_more _) (fun _ => ⟨n, rfl⟩) (fun n0 => ?_)
      repeat (first
          | (refine lx_nil ?_; intro nq)
          | (refine lx_skip rfl ?_; go_simp)
          | (refine lx_move rfl rfl rfl rfl ?_; go_simp)
          | (refine lx_assign rfl rfl rfl rfl ?_; go_simp)
          | (refine lx_bin rfl rfl rfl rfl rfl rfl (by first | assumption | exact is_ofInt _ _ | exact is_self) (by first | assumption | exact is_ofInt _ _ | exact is_self) ?_; intro r hr; go_simp)
          | (refine lx_cmp rfl rfl rfl rfl rfl rfl (by first | assumption | exact is_ofInt _ _ | exact is_self) (by first | assumption | exact is_ofInt _ _ | exact is_self) (by first | assumption | rfl) ?_; go_simp)
          | (refine lx_widen rfl rfl rfl rfl (by first | exact rfl | kernel_rfl) (by kernel_rfl) (by first | assumption | exact is_ofInt _ _ | exact is_self) ?_; intro r hr; go_simp)
          | (refine lx_valD rfl rfl (fun nn => by go_simp; rfl) ?_; go_simp))
      refine lx_call rfl rfl (fun w' hw' => by go_simp; first | rfl | exact ⟨rfl, rfl⟩) (fun w' hw' => (sameFloat_yes _ _ _ (by assumption) (by assumption) w').mono fun e w'' ⟨h1, m, h2⟩ => ⟨_, h1, rfl, m, h2⟩) ?_
      rintro _ rfl
      go_simp
      repeat (first
          | (refine lx_nil ?_; intro nq)
          | (refine lx_skip rfl ?_; go_simp)
          | (refine lx_move rfl rfl rfl rfl ?_; go_simp)
          | (refine lx_assign rfl rfl rfl rfl ?_; go_simp)
          | (refine lx_bin rfl rfl rfl rfl rfl rfl (by first | assumption | exact is_ofInt _ _ | exact is_self) (by first | assumption | exact is_ofInt _ _ | exact is_self) ?_; intro r hr; go_simp)
          | (refine lx_cmp rfl rfl rfl rfl rfl rfl (by first | assumption | exact is_ofInt _ _ | exact is_self) (by first | assumption | exact is_ofInt _ _ | exact is_self) (by first | assumption | rfl) ?_; go_simp)
          | (refine lx_widen rfl rfl rfl rfl (by first | exact rfl | kernel_rfl) (by kernel_rfl) (by first | assumption | exact is_ofInt _ _ | exact is_self) ?_; intro r hr; go_simp)
          | (refine lx_valD rfl rfl (fun nn => by go_simp; rfl) ?_; go_simp))
      go_wp2
      go_roundw
      case rel => exact ⟨k + 1, _, by omega, by go_num, rfl⟩
      case measure => simp [intOf]; omega
    · go_wp2
      go_ret
      exact ⟨rfl, _, rfl⟩

/-- The marks m, m + 1, .. -/
def marks (m : Int) (n : Nat) : List Nat := (List.range n).map fun (i : Nat) => floatOfInt .f32 (m + (i : Int))
theorem marks_length (m : Int) (n : Nat) : (marks m n).length = n := by simp [marks]
theorem marks_succ (m : Int) (n : Nat) : marks m (n + 1) = marks m n ++ [floatOfInt .f32 (m + (n : Int))] := by simp [marks, List.range_succ]
theorem el_marks (m : Int) (n i : Nat) (h : i < n) : el (marks m n) i = floatOfInt .f32 (m + (i : Int)) := by simp [el, marks, List.getD, h]

/-- The marks are laid. -/
theorem markFloat32S_any (base : Nat) (v : Value) (xs : List Nat) (m : Int) (w : World) (hown : OwnF w base v xs) (hl : xs.length ≤ 1048576) (h0 : 0 ≤ m) (h1 : m ≤ 1000000000) :
    Calls Try.prog 25 #[v, .int .i64 m] w fun e w' => e = .returned (.int .i64 (m + (xs.length : Int))) ∧ w.grownBy w' v.ownBlock ∧ OwnF w' base v (marks m xs.length) := by
  obtain ⟨ao, cap, rfl, _⟩ := hown.fr
  go_enter Try.func25, Try.ntmps25
  go_wp2
  go_loopw [1, 5] (fun q i wr => ∃ k : Nat, k ≤ xs.length ∧ i = .int .i64 k ∧ q = .int .i64 (m + (k : Int)) ∧ w.grownBy wr (Value.slice ao xs.length cap).ownBlock ∧ OwnF wr base (.slice ao xs.length cap) (marks m k ++ xs.drop k)) (fun _ i _ => xs.length - (intOf i).toNat)
  case atStart => exact ⟨0, Nat.zero_le _, rfl, by simp, grownBy_refl _ _, by simpa [marks] using hown⟩
  case round =>
    obtain ⟨k, hk, rfl, rfl, hE, hO⟩ := hrel
    clear hown
    by_cases hlt : k < xs.length
    · have hlen : (marks m k ++ xs.drop k).length = xs.length := by simp [marks_length]; omega
      obtain ⟨g, rfl, _, _, hcur, hfz⟩ := hO.at (k := k) (by omega)
      have hst := hO.stored k (floatOfInt .f32 (m + (k : Int)))
      have hO2 : Hid (OwnF (wr.setCell ⟨g, k, none⟩ (.float .f32 (floatOfInt .f32 (m + (k : Int))))) base (.slice (some ⟨g, 0, none⟩) xs.length cap) (marks m (k + 1) ++ xs.drop (k + 1))) := by
        have e : (marks m k ++ xs.drop k).set k (floatOfInt .f32 (m + (k : Int))) = marks m (k + 1) ++ xs.drop (k + 1) := by
          rw [set_mid _ _ _ _ (marks_length m k) (by simp; omega), marks_succ, List.drop_drop]
        rw [← e]; exact hst.1
      have hE2 : Hid (w.grownBy (wr.setCell ⟨g, k, none⟩ (.float .f32 (floatOfInt .f32 (m + (k : Int))))) (Value.slice (some ⟨g, 0, none⟩) xs.length cap).ownBlock) := grownBy_trans hE hst.2
      clear hst
      go_wp2
      go_roundw
      case rel => exact ⟨k + 1, by omega, by go_num, by go_num, hE2.out, hO2.out⟩
      case measure => simp [intOf]; omega
    · go_wp2
      go_ret
      obtain rfl : k = xs.length := by omega
      exact ⟨rfl, hE, by simpa using hO⟩

/-- The marks are found. -/
theorem heldFloat32S_any (ao : Option Addr) (cap : Nat) (n : Nat) (m : Int) (w : World) (hc : FR w ao (marks m n)) (hl : n ≤ 1048576) (h0 : 0 ≤ m) (h1 : m ≤ 1000000000) :
    Calls Try.prog 33 #[.slice ao n cap, .int .i64 m] w fun e w' => e = .returned (.int .i64 (m + (n : Int))) ∧ w = w' := by
  go_enter Try.func33, Try.ntmps33
  go_wp2
  go_loop [1, 5] (fun q i => ∃ k : Nat, k ≤ n ∧ i = .int .i64 k ∧ q = .int .i64 (m + (k : Int))) (fun _ i => n - (intOf i).toNat)
  case atStart => exact ⟨0, Nat.zero_le _, rfl, by simp⟩
  case round =>
    obtain ⟨k, hk, rfl, rfl⟩ := hrel
    by_cases hlt : k < n
    · obtain ⟨b, off, rfl, hcell⟩ := hc k (by rw [marks_length]; exact hlt)
      rw [el_marks m n k hlt] at hcell
      have hne : fcmp .neq .f32 (floatOfInt .f32 (m + (k : Int))) (floatOfInt .f32 (m + (k : Int))) = false := by rw [fcmp_neq_self]; exact isNan_ofInt _ _
      go_wp2_with (first | (refine wl_bin rfl rfl rfl rfl rfl (by first | assumption | exact is_ofInt _ _ | exact is_self) (by first | assumption | exact is_ofInt _ _ | exact is_self) ?_; intro r n hr) | (refine wl_cmp rfl rfl rfl rfl rfl (by first | assumption | exact is_ofInt _ _ | exact is_self) (by first | assumption | exact is_ofInt _ _ | exact is_self) (by first | assumption | rfl) ?_) | (refine wl_widen rfl rfl rfl (by first | exact rfl | kernel_rfl) (by kernel_rfl) (by first | assumption | exact is_ofInt _ _ | exact is_self) ?_; intro r n hr) | (refine wl_neg rfl rfl rfl (by first | assumption | exact is_ofInt _ _ | exact is_self) ?_; intro r hr))
      go_roundw
      case rel => exact ⟨k + 1, by omega, by go_num, by go_num⟩
      case measure => simp [intOf]; omega
    · go_wp2
      go_ret
      obtain rfl : k = n := by omega
      exact ⟨rfl, rfl⟩
end Go.Proofs.Ytnjgcacnfobmiaa
