/- Slices of whole numbers: the laws' own helpers over them. -/
import Derived.Test.YtnjgcacnfobmiaaHeapV
namespace Go.Proofs.Ytnjgcacnfobmiaa
open Go.RowKit
set_option maxRecDepth 100000
set_option linter.unusedVariables false
set_option linter.unusedSectionVars false

abbrev FRI := FRV (Value.int .i64)
abbrev OwnI := OwnV (Value.int .i64) 2
theorem info64 : (Try.prog.info? 2).map (fun i => (i.zero, i.size, i.bytes)) = some (some (.int .i64 0), 1, 8) := by kernel_rfl
theorem intCells (x : Int) : (Value.int .i64 x).cells = #[Value.int .i64 x] ∧ (Value.int .i64 x).oneCell' = true := ⟨rfl, rfl⟩
set_option maxHeartbeats 400000 in
theorem eqInt64S_yes (ao bo : Option Addr) (ca cb : Nat) (xs : List Int) (w : World) (hx : FRI w ao xs) (hy : FRI w bo xs) (hl : xs.length ≤ 1048576) :
    Calls Try.prog 50 #[.slice ao xs.length ca, .slice bo xs.length cb] w (Gives (.bool true) w) := by
  go_enter Try.func50, Try.ntmps50
  go_wp2
  go_loopw [5] (fun i wr => ∃ k n : Nat, k ≤ xs.length ∧ i = .int .i64 k ∧ wr = w.drewN n) (fun i _ => xs.length - (intOf i).toNat)
  case atStart => exact ⟨0, 0, Nat.zero_le _, rfl, rfl⟩
  case round =>
    obtain ⟨k, n, hk, rfl, rfl⟩ := hrel
    by_cases hlt : k < xs.length
    · obtain ⟨b, off, rfl, hcell⟩ := hx k hlt
      obtain ⟨b', off', rfl, hcell'⟩ := hy k hlt
      go_wp2
      go_region
      all_goals
        go_wp2
        go_roundw
        case rel => exact ⟨k + 1, _, by omega, by go_num, rfl⟩
        case measure => simp [intOf]; omega
    · go_wp2
      go_ret
      exact ⟨rfl, _, rfl⟩
/-- The marks m, m + 1, .. -/
def marksI (m : Int) (n : Nat) : List Int := (List.range n).map fun (i : Nat) => m + (i : Int)
theorem marksI_length (m : Int) (n : Nat) : (marksI m n).length = n := by simp [marksI]
theorem marksI_succ (m : Int) (n : Nat) : marksI m (n + 1) = marksI m n ++ [m + (n : Int)] := by simp [marksI, List.range_succ]
theorem elv_marksI (m : Int) (n i : Nat) (h : i < n) : elv (marksI m n) i = m + (i : Int) := by simp [elv, marksI, List.getD, h]
/-- The marks are laid. -/
theorem markInt64S_any (base : Nat) (v : Value) (xs : List Int) (m : Int) (w : World) (hown : OwnI w base v xs) (hl : xs.length ≤ 1048576) (h0 : 0 ≤ m) (h1 : m ≤ 1000000000) :
    Calls Try.prog 51 #[v, .int .i64 m] w fun e w' => e = .returned (.int .i64 (m + (xs.length : Int))) ∧ w.grownBy w' v.ownBlock ∧ OwnI w' base v (marksI m xs.length) := by
  obtain ⟨ao, cap, rfl, _⟩ := hown.fr
  go_enter Try.func51, Try.ntmps51
  go_wp2
  go_loopw [1, 5] (fun q i wr => ∃ k : Nat, k ≤ xs.length ∧ i = .int .i64 k ∧ q = .int .i64 (m + (k : Int)) ∧ w.grownBy wr (Value.slice ao xs.length cap).ownBlock ∧ OwnI wr base (.slice ao xs.length cap) (marksI m k ++ xs.drop k)) (fun _ i _ => xs.length - (intOf i).toNat)
  case atStart => exact ⟨0, Nat.zero_le _, rfl, by simp, grownBy_refl _ _, by simpa [marksI] using hown⟩
  case round =>
    obtain ⟨k, hk, rfl, rfl, hE, hO⟩ := hrel
    clear hown
    by_cases hlt : k < xs.length
    · have hlen : (marksI m k ++ xs.drop k).length = xs.length := by simp [marksI_length]; omega
      obtain ⟨g, rfl, _, _, hcur, hfz⟩ := hO.at (k := k) (by omega)
      have hst := hO.stored k (m + (k : Int))
      have hO2 : Hid (OwnI (wr.setCell ⟨g, k, none⟩ (.int .i64 (m + (k : Int)))) base (.slice (some ⟨g, 0, none⟩) xs.length cap) (marksI m (k + 1) ++ xs.drop (k + 1))) := by
        have e : (marksI m k ++ xs.drop k).set k (m + (k : Int)) = marksI m (k + 1) ++ xs.drop (k + 1) := by
          rw [set_midV _ _ _ _ (marksI_length m k) (by simp; omega), marksI_succ, List.drop_drop]
        rw [← e]; exact hst.1
      have hE2 : Hid (w.grownBy (wr.setCell ⟨g, k, none⟩ (.int .i64 (m + (k : Int)))) (Value.slice (some ⟨g, 0, none⟩) xs.length cap).ownBlock) := grownBy_trans hE hst.2
      clear hst
      go_wp2
      go_roundw
      case rel => exact ⟨k + 1, by omega, by go_num, by go_num, hE2.out, hO2.out⟩
      case measure => simp [intOf]; omega
    · go_wp2
      go_ret
      obtain rfl : k = xs.length := by omega
      exact ⟨rfl, hE, by simpa using hO⟩
/-- The marks are found. -/
theorem heldInt64S_any (ao : Option Addr) (cap : Nat) (n : Nat) (m : Int) (w : World) (hc : FRI w ao (marksI m n)) (hl : n ≤ 1048576) (h0 : 0 ≤ m) (h1 : m ≤ 1000000000) :
    Calls Try.prog 52 #[.slice ao n cap, .int .i64 m] w fun e w' => e = .returned (.int .i64 (m + (n : Int))) ∧ w = w' := by
  go_enter Try.func52, Try.ntmps52
  go_wp2
  go_loop [1, 5] (fun q i => ∃ k : Nat, k ≤ n ∧ i = .int .i64 k ∧ q = .int .i64 (m + (k : Int))) (fun _ i => n - (intOf i).toNat)
  case atStart => exact ⟨0, Nat.zero_le _, rfl, by simp⟩
  case round =>
    obtain ⟨k, hk, rfl, rfl⟩ := hrel
    by_cases hlt : k < n
    · obtain ⟨b, off, rfl, hcell⟩ := hc k (by rw [marksI_length]; exact hlt)
      rw [elv_marksI m n k hlt] at hcell
      go_wp2
      go_roundw
      case rel => exact ⟨k + 1, by omega, by go_num, by go_num⟩
      case measure => simp [intOf]; omega
    · go_wp2
      go_ret
      obtain rfl : k = n := by omega
      exact ⟨rfl, rfl⟩
/-- A slice of whole numbers and a Bool, by an option: none: a nil slice and false. -/
def GivesIO (o : Option (List Int)) (w : World) (e : Ending) (w' : World) : Prop := ∃ v, e = .returned (.tuple #[v, .bool o.isSome]) ∧ Ext w w' ∧ OwnI w' w.heap.size v (o.getD [])
theorem givesIO_none {o : Option (List Int)} (h : o = none) {w w' : World} (he : Ext w w') : GivesIO o w (.returned (.tuple #[.slice none 0 0, .bool false])) w' := by
  subst h
  exact ⟨_, rfl, he, OwnV.nil _ _⟩
theorem givesIO_some {o : Option (List Int)} {ys : List Int} (h : o = some ys) {w w' : World} {v : Value} (he : Ext w w') (hO : OwnI w' w.heap.size v ys) : GivesIO o w (.returned (.tuple #[v, .bool true])) w' := by
  subst h
  exact ⟨_, rfl, he, hO⟩
theorem OwnI.lt {w : World} {base : Nat} {v : Value} {xs : List Int} (h : OwnI w base v xs) : ∀ k, v.ownBlock = some k → base ≤ k ∧ k < w.heap.size := OwnV.lt h
theorem OwnI.ext {w w' : World} {base : Nat} {v : Value} {xs : List Int} (h : OwnI w base v xs) (he : Ext w w') : OwnI w' base v xs := OwnV.ext h he
theorem OwnI.mono {w : World} {base base' : Nat} {v : Value} {xs : List Int} (h : OwnI w base v xs) (hb : base' ≤ base) : OwnI w base' v xs := OwnV.mono h hb
theorem OwnI.chg {w w' : World} {bs : Nat → Prop} {base : Nat} {v : Value} {xs : List Int} (h : OwnI w base v xs) (hg : Chg bs w w') (hne : ∀ k, v.ownBlock = some k → ¬ bs k) : OwnI w' base v xs := OwnV.chg h hg hne
theorem OwnI.toFR {w : World} {base n cap : Nat} {ao : Option Addr} {xs : List Int} (h : OwnI w base (.slice ao n cap) xs) : FRI w ao xs := OwnV.toFR h
theorem ownI_drew {w w1 w' : World} {base n : Nat} {v : Value} {xs : List Int} (h : OwnI w base v xs) (e : w' = w1.drewN n) (hw : OwnI w base v xs → OwnI w1 base v xs := by exact id) : OwnI w' base v xs := by subst e; exact hw h
end Go.Proofs.Ytnjgcacnfobmiaa
