/- AreCoefficients, arePositive: the reference's and the program's. -/
import Derived.Test.YtnjgcacnfobmiaaAbs
namespace Go.Proofs.Ytnjgcacnfobmiaa
open Go.RowKit
set_option maxRecDepth 100000
set_option linter.unusedVariables false

theorem enters_at {P : Program} {f : FuncId} {fn : Func} {c : Code} (hf : P.funcs[f]? = some fn) (hname : (fn.name == "runtime.NumGoroutine") = false) (hb : fn.body = some c) (args : Array Value) (w : World) : (callFunc f args).run P w = .ok (.enter f args) w := by
  have h1 : fn.name ≠ "runtime.NumGoroutine" := by simpa using hname
  simp [callFunc, hf, h1, hb, mark]
theorem contains_any (g : FuncId) (eg : ∀ (args : Array Value) (w : World), (callFunc g args).run Try.prog w = .ok (.enter g args) w) (p : Nat → Bool) (ao : Option Addr) (cap : Nat) (xs : List Nat) (v : Bool) (w : World) (hc : FR w ao xs) (hl : xs.length ≤ 1048576)
    (hp : ∀ (b s : Nat) (v : Bool) (w' : World), Is .f32 b s → (!p s) = v → Calls Try.prog g #[.float .f32 b] w' (Gives (.bool v) w')) (hv : (!allP p (cl xs) xs.length) = v) :
    Calls Try.prog 144 #[.slice ao xs.length cap, .func (.func g) #[] #[]] w (Gives (.bool v) w) := by
  have HV := Lib.hid hv
  clear hv
  go_enter Try.func144, Try.ntmps144
  go_wp2_with (go_at_call 178; refine (indexFunc_any g eg p _ _ _ _ hc hl hp).mono ?_; rintro _ _ ⟨n, rfl, hn, m, rfl⟩; have HN := Lib.hid hn; clear hn)
  go_ret
  exact ⟨by rw [← HV.out, ← HN.out]; first | rfl | simp, _, rfl⟩
def areB (l : List Nat) : Bool := inB (l.length : Int) 1 24 && allP coefB l l.length
theorem areClo_any (b s : Nat) (v : Bool) (w : World) (hb : Is .f32 b s) (hv : (!coefB s) = v) : Calls Try.prog 145 #[.float .f32 b] w (Gives (.bool v) w) := by
  have HV := Lib.hid hv
  clear hv
  cases hq : coefB s with
  | true =>
    have h : Hid (v = false) := by unfold Hid; rw [← HV.out, hq]; rfl
    go_enter Try.func145, Try.ntmps145
    go_wp2_with (go_at_call 93; refine (isCoef_any _ _ _ hb hq _).mono ?_; rintro _ _ ⟨rfl, n1, rfl⟩)
    go_ret
    exact ⟨by rw [h.out]; rfl, _, rfl⟩
  | false =>
    have h : Hid (v = true) := by unfold Hid; rw [← HV.out, hq]; rfl
    go_enter Try.func145, Try.ntmps145
    go_wp2_with (go_at_call 93; refine (isCoef_any _ _ _ hb hq _).mono ?_; rintro _ _ ⟨rfl, n1, rfl⟩)
    go_ret
    exact ⟨by rw [h.out]; rfl, _, rfl⟩
theorem are_any (ao : Option Addr) (cap : Nat) (xs : List Nat) (v : Bool) (w : World) (hc : FR w ao xs) (hl : xs.length ≤ 1048576) (hv : areB (cl xs) = v) :
    Calls Try.prog 95 #[.slice ao xs.length cap] w (Gives (.bool v) w) := by
  have HV := Lib.hid hv
  clear hv
  have eg : ∀ (args : Array Value) (w : World), (callFunc 145 args).run Try.prog w = .ok (.enter 145 args) w := enters_at Try.func145 (by kernel_rfl) rfl
  have EG := Lib.hid eg
  clear eg
  cases ht : inB (xs.length : Int) 1 24 with
  | false =>
    have h : Hid (v = false) := by unfold Hid; rw [← HV.out]; unfold areB; rw [cl_length, ht]; rfl
    go_enter Try.func95, Try.ntmps95
    go_wp2_with (first | (go_at_call 77; refine (within_any _ _ _ _ (by first | assumption | rfl) _).mono ?_; rintro _ _ ⟨rfl, rfl⟩) | (go_at_call 90; refine (l00In_any _ _ _ _ (by first | assumption | rfl) _).mono ?_; rintro _ _ ⟨rfl, rfl⟩) | (go_at_call 96; refine (isCount_any _ _ (by first | assumption | rfl) _).mono ?_; rintro _ _ ⟨rfl, rfl⟩) | (go_at_call 88; refine (isTrace_any _ _ _ _ (by first | assumption | rfl) _).mono ?_; rintro _ _ ⟨rfl, rfl⟩) | (go_at_call 85; refine (l03Is_any _ _ _ _ (by first | assumption | rfl) (by omega) _).mono ?_; rintro _ _ ⟨rfl, rfl⟩) | (go_at_call 78; refine (length32_any _ _ _ _).mono ?_; rintro _ _ ⟨rfl, rfl⟩) | (go_at_call 148; refine (isFinite64_any _ _ _ (by assumption) (by first | assumption | rfl) _).mono ?_; rintro _ _ ⟨rfl, n, rfl⟩) | (go_at_call 99; refine (isFinite_any _ _ _ (by first | assumption | exact is_ofInt _ _ | exact is_self) (by first | assumption | rfl) _).mono ?_; rintro _ _ ⟨rfl, n, rfl⟩) | (go_at_call 97; refine (l01Finite_any _ _ _ (by first | assumption | exact is_ofInt _ _ | exact is_self) (by first | assumption | rfl) _).mono ?_; rintro _ _ ⟨rfl, n, rfl⟩) | (refine wl_bin rfl rfl rfl rfl rfl (by first | assumption | exact is_ofInt _ _ | exact is_self) (by first | assumption | exact is_ofInt _ _ | exact is_self) ?_; intro r n hr) | (refine wl_cmp rfl rfl rfl rfl rfl (by first | assumption | exact is_ofInt _ _ | exact is_self) (by first | assumption | exact is_ofInt _ _ | exact is_self) (by first | assumption | rfl) ?_) | (refine wl_widen rfl rfl rfl (by first | exact rfl | kernel_rfl) (by kernel_rfl) (by first | assumption | exact is_ofInt _ _ | exact is_self) ?_; intro r n hr) | (refine wl_neg rfl rfl rfl (by first | assumption | exact is_ofInt _ _ | exact is_self) ?_; intro r hr))
    go_ret
    exact ⟨by rw [h.out]; rfl, 0, rfl⟩
  | true =>
    cases ha : allP coefB (cl xs) xs.length with
    | false =>
      have h : Hid (v = false) := by unfold Hid; rw [← HV.out]; unfold areB; rw [cl_length, ht, ha]; rfl
      have ha' : (!allP coefB (cl xs) xs.length) = true := by rw [ha]; rfl
      clear ha
      go_enter Try.func95, Try.ntmps95
      go_wp2_with (first | (go_at_call 144; refine (contains_any _ EG.out coefB _ _ _ _ _ hc hl (fun b s v w' hb hv => areClo_any b s v w' hb hv) ha').mono ?_; rintro _ _ ⟨rfl, n1, rfl⟩) | (go_at_call 77; refine (within_any _ _ _ _ (by first | assumption | rfl) _).mono ?_; rintro _ _ ⟨rfl, rfl⟩) | (go_at_call 90; refine (l00In_any _ _ _ _ (by first | assumption | rfl) _).mono ?_; rintro _ _ ⟨rfl, rfl⟩) | (go_at_call 96; refine (isCount_any _ _ (by first | assumption | rfl) _).mono ?_; rintro _ _ ⟨rfl, rfl⟩) | (go_at_call 88; refine (isTrace_any _ _ _ _ (by first | assumption | rfl) _).mono ?_; rintro _ _ ⟨rfl, rfl⟩) | (go_at_call 85; refine (l03Is_any _ _ _ _ (by first | assumption | rfl) (by omega) _).mono ?_; rintro _ _ ⟨rfl, rfl⟩) | (go_at_call 78; refine (length32_any _ _ _ _).mono ?_; rintro _ _ ⟨rfl, rfl⟩) | (go_at_call 148; refine (isFinite64_any _ _ _ (by assumption) (by first | assumption | rfl) _).mono ?_; rintro _ _ ⟨rfl, n, rfl⟩) | (go_at_call 99; refine (isFinite_any _ _ _ (by first | assumption | exact is_ofInt _ _ | exact is_self) (by first | assumption | rfl) _).mono ?_; rintro _ _ ⟨rfl, n, rfl⟩) | (go_at_call 97; refine (l01Finite_any _ _ _ (by first | assumption | exact is_ofInt _ _ | exact is_self) (by first | assumption | rfl) _).mono ?_; rintro _ _ ⟨rfl, n, rfl⟩))
      go_ret
      exact ⟨by rw [h.out]; rfl, _, rfl⟩
    | true =>
      have h : Hid (v = true) := by unfold Hid; rw [← HV.out]; unfold areB; rw [cl_length, ht, ha]; rfl
      have ha' : (!allP coefB (cl xs) xs.length) = false := by rw [ha]; rfl
      clear ha
      go_enter Try.func95, Try.ntmps95
      go_wp2_with (first | (go_at_call 144; refine (contains_any _ EG.out coefB _ _ _ _ _ hc hl (fun b s v w' hb hv => areClo_any b s v w' hb hv) ha').mono ?_; rintro _ _ ⟨rfl, n1, rfl⟩) | (go_at_call 77; refine (within_any _ _ _ _ (by first | assumption | rfl) _).mono ?_; rintro _ _ ⟨rfl, rfl⟩) | (go_at_call 90; refine (l00In_any _ _ _ _ (by first | assumption | rfl) _).mono ?_; rintro _ _ ⟨rfl, rfl⟩) | (go_at_call 96; refine (isCount_any _ _ (by first | assumption | rfl) _).mono ?_; rintro _ _ ⟨rfl, rfl⟩) | (go_at_call 88; refine (isTrace_any _ _ _ _ (by first | assumption | rfl) _).mono ?_; rintro _ _ ⟨rfl, rfl⟩) | (go_at_call 85; refine (l03Is_any _ _ _ _ (by first | assumption | rfl) (by omega) _).mono ?_; rintro _ _ ⟨rfl, rfl⟩) | (go_at_call 78; refine (length32_any _ _ _ _).mono ?_; rintro _ _ ⟨rfl, rfl⟩) | (go_at_call 148; refine (isFinite64_any _ _ _ (by assumption) (by first | assumption | rfl) _).mono ?_; rintro _ _ ⟨rfl, n, rfl⟩) | (go_at_call 99; refine (isFinite_any _ _ _ (by first | assumption | exact is_ofInt _ _ | exact is_self) (by first | assumption | rfl) _).mono ?_; rintro _ _ ⟨rfl, n, rfl⟩) | (go_at_call 97; refine (l01Finite_any _ _ _ (by first | assumption | exact is_ofInt _ _ | exact is_self) (by first | assumption | rfl) _).mono ?_; rintro _ _ ⟨rfl, n, rfl⟩))
      go_ret
      exact ⟨by rw [h.out]; rfl, _, rfl⟩
set_option maxHeartbeats 1000000 in
theorem l03Are_any (ao : Option Addr) (cap : Nat) (xs : List Nat) (v : Bool) (w : World) (hc : FR w ao xs) (hl : xs.length ≤ 1048576) (hv : areB (cl xs) = v) :
    Calls Try.prog 94 #[.slice ao xs.length cap] w fun e w' => e = .returned (.bool v) ∧ w = w' := by
  have HV := Lib.hid hv
  clear hv
  go_enter Try.func94, Try.ntmps94
  go_wp2
  go_loop [6] (fun i => ∃ k : Nat, k ≤ xs.length ∧ i = .int .i64 k ∧ Hid (allP coefB (cl xs) k = true)) (fun i => xs.length - (intOf i).toNat)
  case atStart => exact ⟨0, Nat.zero_le _, rfl, rfl⟩
  case round =>
    obtain ⟨k, hk, rfl, hall⟩ := hrel
    by_cases hlt : k < xs.length
    · obtain ⟨b, off, rfl, hcell⟩ := hc k hlt
      have hel := is_el hlt
      cases hv : coefB (el (cl xs) k) with
      | false =>
        have h : Hid (v = false) := by unfold Hid; rw [← HV.out]; unfold areB; rw [cl_length, allP_not hlt hv, Bool.and_false]
        go_wp2_with (go_at_call 91; refine (l03Coef_any _ _ _ hel hv _).mono ?_; rintro _ _ ⟨rfl, rfl⟩)
        go_ret
        exact ⟨by rw [h.out]; rfl, rfl⟩
      | true =>
        have HN : Hid (allP coefB (cl xs) (k + 1) = true) := by unfold Hid; rw [allP_succ, hall.out, hv]; rfl
        go_wp2_with (go_at_call 91; refine (l03Coef_any _ _ _ hel hv _).mono ?_; rintro _ _ ⟨rfl, rfl⟩)
        go_roundw
        case rel => exact ⟨k + 1, by omega, by go_num, HN⟩
        case measure => simp [intOf]; omega
    · obtain rfl : xs.length = k := by omega
      have h : Hid (v = inB (xs.length : Int) 1 24) := by unfold Hid; rw [← HV.out]; unfold areB; rw [cl_length, hall.out, Bool.and_true]
      by_cases h1 : 1 ≤ xs.length
      · by_cases h2 : xs.length ≤ 24
        · go_wp2
          go_ret
          exact ⟨by rw [h.out, inB_mk (by omega) (by omega)]; first | rfl | (simp; omega), rfl⟩
        · go_wp2
          go_ret
          exact ⟨by rw [h.out, inB_not (by omega)]; first | rfl | (simp; omega), rfl⟩
      · go_wp2
        go_ret
        exact ⟨by rw [h.out, inB_not (by omega)]; first | rfl | (simp; omega), rfl⟩

/-! ### Finite and greater than 0 -/
def hardB (s : Nat) : Bool := finK .f32 s && fcmp .gtr .f32 s (canon .f32 0)
theorem order_some {k : FloatKind} {x y : Nat} (hx : isNan k x = false) (hy : isNan k y = false) : ∃ o, k.format.order x y = some o := by
  unfold Ieee.Format.order
  rcases read_not hx with ⟨a, m, e, he⟩ | ⟨a, he⟩ <;> rcases read_not hy with ⟨a', m', e', he'⟩ | ⟨a', he'⟩ <;> rw [he, he'] <;> exact ⟨_, rfl⟩
theorem not_leq {k : FloatKind} {x y : Nat} (hx : isNan k x = false) (hy : isNan k y = false) : (!fcmp .leq k x y) = fcmp .gtr k x y := by
  obtain ⟨o, ho⟩ := order_some hx hy
  unfold fcmp
  rw [ho]
  cases o <;> rfl
theorem not_gtr {k : FloatKind} {x y : Nat} (hx : isNan k x = false) (hy : isNan k y = false) : (!fcmp .gtr k x y) = fcmp .leq k x y := by
  obtain ⟨o, ho⟩ := order_some hx hy
  unfold fcmp
  rw [ho]
  cases o <;> rfl
theorem fin_not {k : FloatKind} {s : Nat} (h : finK k s = true) : isNan k s = false := by
  cases hn : isNan k s with
  | false => rfl
  | true => rw [finK_nan hn] at h; cases h
theorem hard_split (s : Nat) : hardB s = (finK .f32 s && !fcmp .leq .f32 s (canon .f32 0)) := by
  unfold hardB
  cases h : finK .f32 s with
  | false => rfl
  | true => rw [not_leq (fin_not h) (by decide +kernel)]
set_option maxHeartbeats 1000000 in
theorem areFinite_any (ao : Option Addr) (cap : Nat) (xs : List Nat) (v : Bool) (w : World) (hc : FR w ao xs) (hl : xs.length ≤ 1048576) (hv : allP (finK .f32) (cl xs) xs.length = v) :
    Calls Try.prog 79 #[.slice ao xs.length cap] w (Gives (.bool v) w) := by
  have HV := Lib.hid hv
  clear hv
  go_enter Try.func79, Try.ntmps79
  go_wp2
  go_loopw [7] (fun i wr => ∃ k n : Nat, k ≤ xs.length ∧ i = .int .i64 k ∧ Hid (allP (finK .f32) (cl xs) k = true) ∧ wr = w.drewN n) (fun i _ => xs.length - (intOf i).toNat)
  case atStart => exact ⟨0, 0, Nat.zero_le _, rfl, rfl, rfl⟩
  case round =>
    obtain ⟨k, n, hk, rfl, hall, rfl⟩ := hrel
    by_cases hlt : k < xs.length
    · obtain ⟨b, off, rfl, hcell⟩ := hc k hlt
      have hel := is_el hlt
      cases hv : finK .f32 (el (cl xs) k) with
      | false =>
        have h : Hid (v = false) := by unfold Hid; rw [← HV.out, allP_not hlt hv]
        go_wp2_with (first | (go_at_call 77; refine (within_any _ _ _ _ (by first | assumption | rfl) _).mono ?_; rintro _ _ ⟨rfl, rfl⟩) | (go_at_call 90; refine (l00In_any _ _ _ _ (by first | assumption | rfl) _).mono ?_; rintro _ _ ⟨rfl, rfl⟩) | (go_at_call 96; refine (isCount_any _ _ (by first | assumption | rfl) _).mono ?_; rintro _ _ ⟨rfl, rfl⟩) | (go_at_call 88; refine (isTrace_any _ _ _ _ (by first | assumption | rfl) _).mono ?_; rintro _ _ ⟨rfl, rfl⟩) | (go_at_call 85; refine (l03Is_any _ _ _ _ (by first | assumption | rfl) (by omega) _).mono ?_; rintro _ _ ⟨rfl, rfl⟩) | (go_at_call 78; refine (length32_any _ _ _ _).mono ?_; rintro _ _ ⟨rfl, rfl⟩) | (go_at_call 148; refine (isFinite64_any _ _ _ (by assumption) (by first | assumption | rfl) _).mono ?_; rintro _ _ ⟨rfl, n, rfl⟩) | (go_at_call 99; refine (isFinite_any _ _ _ (by first | assumption | exact is_ofInt _ _ | exact is_self) (by first | assumption | rfl) _).mono ?_; rintro _ _ ⟨rfl, n, rfl⟩) | (go_at_call 97; refine (l01Finite_any _ _ _ (by first | assumption | exact is_ofInt _ _ | exact is_self) (by first | assumption | rfl) _).mono ?_; rintro _ _ ⟨rfl, n, rfl⟩) | (refine wl_bin rfl rfl rfl rfl rfl (by first | assumption | exact is_ofInt _ _ | exact is_self) (by first | assumption | exact is_ofInt _ _ | exact is_self) ?_; intro r n hr) | (refine wl_cmp rfl rfl rfl rfl rfl (by first | assumption | exact is_ofInt _ _ | exact is_self) (by first | assumption | exact is_ofInt _ _ | exact is_self) (by first | assumption | rfl) ?_) | (refine wl_widen rfl rfl rfl (by first | exact rfl | kernel_rfl) (by kernel_rfl) (by first | assumption | exact is_ofInt _ _ | exact is_self) ?_; intro r n hr) | (refine wl_neg rfl rfl rfl (by first | assumption | exact is_ofInt _ _ | exact is_self) ?_; intro r hr))
        go_ret
        exact ⟨by rw [h.out]; rfl, _, rfl⟩
      | true =>
        have HN : Hid (allP (finK .f32) (cl xs) (k + 1) = true) := by unfold Hid; rw [allP_succ, hall.out, hv]; rfl
        go_wp2_with (go_at_call 99; refine (isFinite_any _ _ _ hel hv _).mono ?_; rintro _ _ ⟨rfl, n1, rfl⟩)
        go_roundw
        case rel => exact ⟨k + 1, _, by omega, by go_num, HN, rfl⟩
        case measure => simp [intOf]; omega
    · obtain rfl : xs.length = k := by omega
      have h : Hid (v = true) := by unfold Hid; rw [← HV.out, hall.out]
      go_wp2
      go_ret
      exact ⟨by rw [h.out]; rfl, _, rfl⟩
theorem posClo_any (b s : Nat) (v : Bool) (w : World) (hb : Is .f32 b s) (hv : (!(!fcmp .leq .f32 s (canon .f32 0))) = v) : Calls Try.prog 189 #[.float .f32 b] w (Gives (.bool v) w) := by
  rw [Bool.not_not] at hv
  go_enter Try.func189, Try.ntmps189
  go_wp2_with (first | (refine wl_bin rfl rfl rfl rfl rfl (by first | assumption | exact is_ofInt _ _ | exact is_self) (by first | assumption | exact is_ofInt _ _ | exact is_self) ?_; intro r n hr) | (refine wl_cmp rfl rfl rfl rfl rfl (by first | assumption | exact is_ofInt _ _ | exact is_self) (by first | assumption | exact is_ofInt _ _ | exact is_self) (by first | assumption | rfl) ?_) | (refine wl_widen rfl rfl rfl (by first | exact rfl | kernel_rfl) (by kernel_rfl) (by first | assumption | exact is_ofInt _ _ | exact is_self) ?_; intro r n hr) | (refine wl_neg rfl rfl rfl (by first | assumption | exact is_ofInt _ _ | exact is_self) ?_; intro r hr))
  go_ret
  exact ⟨rfl, 0, rfl⟩
theorem arePositive_any (ao : Option Addr) (cap : Nat) (xs : List Nat) (v : Bool) (w : World) (hc : FR w ao xs) (hl : xs.length ≤ 1048576) (hv : allP hardB (cl xs) xs.length = v) :
    Calls Try.prog 165 #[.slice ao xs.length cap] w (Gives (.bool v) w) := by
  have hq : (allP (finK .f32) (cl xs) xs.length && allP (fun s => !fcmp .leq .f32 s (canon .f32 0)) (cl xs) xs.length) = v := by
    rw [← hv, ← allP_and]; exact allP_congr fun i _ => (hard_split _).symm
  have HV := Lib.hid hq
  clear hv hq
  have eg : ∀ (args : Array Value) (w : World), (callFunc 189 args).run Try.prog w = .ok (.enter 189 args) w := enters_at Try.func189 (by kernel_rfl) rfl
  have EG := Lib.hid eg
  clear eg
  cases hf : allP (finK .f32) (cl xs) xs.length with
  | false =>
    have h : Hid (v = false) := by unfold Hid; rw [← HV.out, hf]; rfl
    go_enter Try.func165, Try.ntmps165
    go_wp2_with (go_at_call 79; refine (areFinite_any _ _ _ _ _ hc hl hf).mono ?_; rintro _ _ ⟨rfl, n1, rfl⟩)
    go_ret
    exact ⟨by rw [h.out]; rfl, _, rfl⟩
  | true =>
    cases hg : allP (fun s => !fcmp .leq .f32 s (canon .f32 0)) (cl xs) xs.length with
    | false =>
      have h : Hid (v = false) := by unfold Hid; rw [← HV.out, hf, hg]; rfl
      have hg' : (!allP (fun s => !fcmp .leq .f32 s (canon .f32 0)) (cl xs) xs.length) = true := by rw [hg]; rfl
      clear hg
      go_enter Try.func165, Try.ntmps165
      go_wp2_with (first | (go_at_call 79; refine (areFinite_any _ _ _ _ _ hc hl hf).mono ?_; rintro _ _ ⟨rfl, n1, rfl⟩) | (go_at_call 144; refine (contains_any _ EG.out _ _ _ _ _ _ (hc.drewN _) hl (fun b s v w' hb hv => posClo_any b s v w' hb hv) hg').mono ?_; rintro _ _ ⟨rfl, n1, rfl⟩))
      go_ret
      exact ⟨by rw [h.out]; rfl, _, rfl⟩
    | true =>
      have h : Hid (v = true) := by unfold Hid; rw [← HV.out, hf, hg]; rfl
      have hg' : (!allP (fun s => !fcmp .leq .f32 s (canon .f32 0)) (cl xs) xs.length) = false := by rw [hg]; rfl
      clear hg
      go_enter Try.func165, Try.ntmps165
      go_wp2_with (first | (go_at_call 79; refine (areFinite_any _ _ _ _ _ hc hl hf).mono ?_; rintro _ _ ⟨rfl, n1, rfl⟩) | (go_at_call 144; refine (contains_any _ EG.out _ _ _ _ _ _ (hc.drewN _) hl (fun b s v w' hb hv => posClo_any b s v w' hb hv) hg').mono ?_; rintro _ _ ⟨rfl, n1, rfl⟩))
      go_ret
      exact ⟨by rw [h.out]; rfl, _, rfl⟩
end Go.Proofs.Ytnjgcacnfobmiaa
