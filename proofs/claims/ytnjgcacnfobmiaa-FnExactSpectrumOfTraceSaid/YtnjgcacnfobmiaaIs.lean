/- Contracts of the small tests: within, isCount, IsTrace and their kin. -/
import Derived.Test.YtnjgcacnfobmiaaBase
namespace Go.Proofs.Ytnjgcacnfobmiaa
open Go.RowKit
set_option maxRecDepth 100000

/-- lo ≤ n ≤ hi. -/
def inB (n lo hi : Int) : Bool := decide (lo ≤ n) && decide (n ≤ hi)
theorem inB_yes {n lo hi : Int} (h : inB n lo hi = true) : lo ≤ n ∧ n ≤ hi := by simpa [inB] using h
theorem inB_no {n lo hi : Int} (h : inB n lo hi = false) : ¬ (lo ≤ n ∧ n ≤ hi) := by
  intro h1
  simp [inB, h1] at h
theorem inB_mk {n lo hi : Int} (h1 : lo ≤ n) (h2 : n ≤ hi) : inB n lo hi = true := by simp [inB, h1, h2]
theorem inB_not {n lo hi : Int} (h : ¬ (lo ≤ n ∧ n ≤ hi)) : inB n lo hi = false := by
  cases e : inB n lo hi with
  | true => exact absurd (inB_yes e) h
  | false => rfl

theorem within_any (n lo hi : Int) (b : Bool) (hb : inB n lo hi = b) (w : World) : Calls Try.prog 77 #[.int .i64 n, .int .i64 lo, .int .i64 hi] w fun e w' => e = .returned (.bool b) ∧ w = w' := by
  have HB := Lib.hid hb
  clear hb
  by_cases h1 : lo ≤ n <;> by_cases h2 : n ≤ hi
  all_goals
    go_enter Try.func77, Try.ntmps77
    go_wp2
    go_ret
    exact ⟨by rw [← HB.out]; simp [inB, h1, h2], rfl⟩
theorem l00In_any (n lo hi : Int) (b : Bool) (hb : inB n lo hi = b) (w : World) : Calls Try.prog 90 #[.int .i64 n, .int .i64 lo, .int .i64 hi] w fun e w' => e = .returned (.bool b) ∧ w = w' := by
  have HB := Lib.hid hb
  clear hb
  by_cases h1 : lo ≤ n <;> by_cases h2 : n ≤ hi
  all_goals
    go_enter Try.func90, Try.ntmps90
    go_wp2
    go_ret
    exact ⟨by rw [← HB.out]; simp [inB, h1, h2], rfl⟩

theorem length32_any (ao : Option Addr) (n cap : Nat) (w : World) : Calls Try.prog 78 #[.slice ao n cap] w fun e w' => e = .returned (.int .i64 (n : Int)) ∧ w = w' := by
  go_enter Try.func78, Try.ntmps78
  go_wp2
  go_ret
  exact ⟨rfl, rfl⟩
theorem isCount_any (n : Int) (b : Bool) (hb : inB n 1 128 = b) (w : World) : Calls Try.prog 96 #[.int .i64 n] w fun e w' => e = .returned (.bool b) ∧ w = w' := by
  have HB := Lib.hid hb
  clear hb
  go_enter Try.func96, Try.ntmps96
  go_wp2_with (go_at_call 77; refine (within_any _ _ _ _ HB.out _).mono ?_; rintro e w' ⟨rfl, rfl⟩)
  go_ret
  exact ⟨rfl, rfl⟩
/-- Is it a trace? -/
theorem isTrace_any (ao : Option Addr) (n cap : Nat) (b : Bool) (hb : inB (n : Int) 1 128 = b) (w : World) : Calls Try.prog 88 #[.slice ao n cap] w fun e w' => e = .returned (.bool b) ∧ w = w' := by
  have HB := Lib.hid hb
  clear hb
  go_enter Try.func88, Try.ntmps88
  go_wp2_with (first | (go_at_call 78; refine (length32_any _ _ _ _).mono ?_; rintro e w' ⟨rfl, rfl⟩) | (go_at_call 96; refine (isCount_any _ _ HB.out _).mono ?_; rintro e w' ⟨rfl, rfl⟩))
  go_ret
  exact ⟨rfl, rfl⟩
theorem l03Is_any (ao : Option Addr) (n cap : Nat) (b : Bool) (hb : inB (n : Int) 1 128 = b) (hl : n ≤ 9223372036854775807) (w : World) : Calls Try.prog 85 #[.slice ao n cap] w fun e w' => e = .returned (.bool b) ∧ w = w' := by
  have HB := Lib.hid hb
  clear hb
  by_cases h1 : 1 ≤ n <;> by_cases h2 : n ≤ 128
  all_goals go_enter Try.func85, Try.ntmps85
  all_goals go_wp2
  all_goals go_ret
  all_goals exact ⟨by rw [← HB.out]; unfold inB; (first | rfl | (simp; omega) | simp [h1, h2]), rfl⟩
def isTr (l : List Nat) : Bool := inB (l.length : Int) 1 128
theorem isTr_cl (xs : List Nat) : isTr (cl xs) = inB (xs.length : Int) 1 128 := by unfold isTr; rw [cl_length]
theorem isTr_le {l : List Nat} (h : isTr l = true) : l.length ≤ 128 := by have := inB_yes h; omega

/-- The same, as the laws ask it. -/
theorem isTrace_any2 (ao : Option Addr) (cap : Nat) (xs : List Nat) (w : World) (b : Bool) (_ : FR w ao xs) (_ : xs.length ≤ 1048576) (hb : inB (xs.length : Int) 1 128 = b := by rfl) : Calls Try.prog 88 #[.slice ao xs.length cap] w (Gives (.bool b) w) :=
  (isTrace_any ao xs.length cap b hb w).mono fun _ _ ⟨h1, h2⟩ => ⟨h1, 0, h2.symm⟩
end Go.Proofs.Ytnjgcacnfobmiaa
