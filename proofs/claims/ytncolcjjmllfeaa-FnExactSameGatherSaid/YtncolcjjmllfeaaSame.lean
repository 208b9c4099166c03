/- Sameness of numbers and of lists: the program's and the reference's. -/
import Derived.Test.YtncolcjjmllfeaaGath
import Derived.Test.YtncolcjjmllfeaaLexw
import Derived.Test.YtncolcjjmllfeaaFin
import Derived.Test.YtncolcjjmllfeaaAre
import Derived.Laws.Externs
namespace Go.Proofs.Ytncolcjjmllfeaa
open Go.RowKit
set_option maxRecDepth 100000
set_option linter.unusedVariables false

def bnd (xs : List Nat) : Prop := ∀ i, i < xs.length → el xs i < 4294967296
theorem nan_class : nanOf .f32 = 2143289344 := by decide
theorem f32bits_run (args : Array Value) (w : World) : (callFunc 200 args).run Try.prog w = ((Extern.MathFloatBits.float32bits args).run Try.prog w).andThen fun v w' => .ok (.value v) w' :=
  run_callFunc_extern Try.func200 (by kernel_rfl) (by kernel_rfl) (by kernel_rfl) (by kernel_rfl) args w
theorem f32bits_at (b : Nat) (w : World) : (callFunc 200 #[.float .f32 b]).run Try.prog w = .ok (.value (.int .u32 b)) w := by
  rw [f32bits_run]; rfl
theorem bitsOf_any (b s : Nat) (hb : Is .f32 b s) (hbd : b < 4294967296) (w : World) : Calls Try.prog 185 #[.float .f32 b] w fun e w' => e = .returned (.int .i64 (s : Int)) ∧ w = w' := by
  have h1 := fun (w' : World) => f32bits_at b w'
  cases hn : fcmp .neq .f32 s s with
  | true =>
    have hs : Hid (s = 2143289344) := by
      unfold Hid
      rw [fcmp_neq_self] at hn
      have h2 : isNan .f32 b = true := by rw [← isNan_canon, hb.out']; exact hn
      rw [← hb.out', canon_of_nan h2, nan_class]
    go_enter Try.func185, Try.ntmps185
    go_wp2_with (first | (refine wl_bin rfl rfl rfl rfl rfl (by first | assumption | exact is_ofInt _ _ | exact is_self) (by first | assumption | exact is_ofInt _ _ | exact is_self) ?_; intro r n hr) | (refine wl_cmp rfl rfl rfl rfl rfl (by first | assumption | exact is_ofInt _ _ | exact is_self) (by first | assumption | exact is_ofInt _ _ | exact is_self) (by first | assumption | rfl) ?_) | (refine wl_widen rfl rfl rfl (by first | exact rfl | kernel_rfl) (by kernel_rfl) (by first | assumption | exact is_ofInt _ _ | exact is_self) ?_; intro r n hr) | (refine wl_neg rfl rfl rfl (by first | assumption | exact is_ofInt _ _ | exact is_self) ?_; intro r hr))
    go_ret
    exact ⟨by rw [hs.out]; rfl, rfl⟩
  | false =>
    have hs : Hid (b = s) := by
      unfold Hid
      rw [fcmp_neq_self] at hn
      have h2 : isNan .f32 b = false := by rw [← isNan_canon, hb.out']; exact hn
      rw [← hb.out', canon_of_not h2]
    have e0 : IntKind.i64.wrap (b : Int) = (b : Int) := IntWalk.i64_in _ (by omega)
    go_enter Try.func185, Try.ntmps185
    go_wp2_with (first | (refine wl_bin rfl rfl rfl rfl rfl (by first | assumption | exact is_ofInt _ _ | exact is_self) (by first | assumption | exact is_ofInt _ _ | exact is_self) ?_; intro r n hr) | (refine wl_cmp rfl rfl rfl rfl rfl (by first | assumption | exact is_ofInt _ _ | exact is_self) (by first | assumption | exact is_ofInt _ _ | exact is_self) (by first | assumption | rfl) ?_) | (refine wl_widen rfl rfl rfl (by first | exact rfl | kernel_rfl) (by kernel_rfl) (by first | assumption | exact is_ofInt _ _ | exact is_self) ?_; intro r n hr) | (refine wl_neg rfl rfl rfl (by first | assumption | exact is_ofInt _ _ | exact is_self) ?_; intro r hr))
    go_ret
    exact ⟨by rw [← hs.out]; first | rfl | simp, rfl⟩
theorem l01Bits_any (b s : Nat) (hb : Is .f32 b s) (hbd : b < 4294967296) (w : World) : Calls Try.prog 184 #[.float .f32 b] w fun e w' => e = .returned (.int .i64 (s : Int)) ∧ w = w' := by
  have h1 := fun (w' : World) => f32bits_at b w'
  cases hn : fcmp .neq .f32 s s with
  | true =>
    have hs : Hid (s = 2143289344) := by
      unfold Hid
      rw [fcmp_neq_self] at hn
      have h2 : isNan .f32 b = true := by rw [← isNan_canon, hb.out']; exact hn
      rw [← hb.out', canon_of_nan h2, nan_class]
    go_enter Try.func184, Try.ntmps184
    go_wp2_with (first | (refine wl_bin rfl rfl rfl rfl rfl (by first | assumption | exact is_ofInt _ _ | exact is_self) (by first | assumption | exact is_ofInt _ _ | exact is_self) ?_; intro r n hr) | (refine wl_cmp rfl rfl rfl rfl rfl (by first | assumption | exact is_ofInt _ _ | exact is_self) (by first | assumption | exact is_ofInt _ _ | exact is_self) (by first | assumption | rfl) ?_) | (refine wl_widen rfl rfl rfl (by first | exact rfl | kernel_rfl) (by kernel_rfl) (by first | assumption | exact is_ofInt _ _ | exact is_self) ?_; intro r n hr) | (refine wl_neg rfl rfl rfl (by first | assumption | exact is_ofInt _ _ | exact is_self) ?_; intro r hr))
    go_ret
    exact ⟨by rw [hs.out]; rfl, rfl⟩
  | false =>
    have hs : Hid (b = s) := by
      unfold Hid
      rw [fcmp_neq_self] at hn
      have h2 : isNan .f32 b = false := by rw [← isNan_canon, hb.out']; exact hn
      rw [← hb.out', canon_of_not h2]
    have e0 : IntKind.i64.wrap (b : Int) = (b : Int) := IntWalk.i64_in _ (by omega)
    go_enter Try.func184, Try.ntmps184
    go_wp2_with (first | (refine wl_bin rfl rfl rfl rfl rfl (by first | assumption | exact is_ofInt _ _ | exact is_self) (by first | assumption | exact is_ofInt _ _ | exact is_self) ?_; intro r n hr) | (refine wl_cmp rfl rfl rfl rfl rfl (by first | assumption | exact is_ofInt _ _ | exact is_self) (by first | assumption | exact is_ofInt _ _ | exact is_self) (by first | assumption | rfl) ?_) | (refine wl_widen rfl rfl rfl (by first | exact rfl | kernel_rfl) (by kernel_rfl) (by first | assumption | exact is_ofInt _ _ | exact is_self) ?_; intro r n hr) | (refine wl_neg rfl rfl rfl (by first | assumption | exact is_ofInt _ _ | exact is_self) ?_; intro r hr))
    go_ret
    exact ⟨by rw [← hs.out]; first | rfl | simp, rfl⟩
theorem sameNum_any (a b s t : Nat) (v : Bool) (ha : Is .f32 a s) (hb : Is .f32 b t) (hab : a < 4294967296) (hbb : b < 4294967296) (hv : decide (s = t) = v) (w : World) : Calls Try.prog 163 #[.float .f32 a, .float .f32 b] w fun e w' => e = .returned (.bool v) ∧ w = w' := by
  by_cases h : s = t
  · have hv2 : Hid (v = true) := by unfold Hid; rw [← hv, decide_eq_true h]
    subst h
    clear hv
    go_enter Try.func163, Try.ntmps163
    go_wp2_with (first | (go_at_call 185; refine (bitsOf_any _ _ (by assumption) (by assumption) _).mono ?_; rintro _ _ ⟨rfl, rfl⟩))
    go_ret
    exact ⟨by rw [hv2.out]; first | rfl | simp, rfl⟩
  · have hv2 : Hid (v = false) := by unfold Hid; rw [← hv, decide_eq_false h]
    have hst : ¬ (s : Int) = (t : Int) := by omega
    clear hv h
    go_enter Try.func163, Try.ntmps163
    go_wp2_with (first | (go_at_call 185; refine (bitsOf_any _ _ (by assumption) (by assumption) _).mono ?_; rintro _ _ ⟨rfl, rfl⟩))
    go_ret
    exact ⟨by rw [hv2.out]; first | rfl | simp [hst], rfl⟩
theorem l01Same_any (a b s t : Nat) (v : Bool) (ha : Is .f32 a s) (hb : Is .f32 b t) (hab : a < 4294967296) (hbb : b < 4294967296) (hv : decide (s = t) = v) (w : World) : Calls Try.prog 161 #[.float .f32 a, .float .f32 b] w fun e w' => e = .returned (.bool v) ∧ w = w' := by
  by_cases h : s = t
  · have hv2 : Hid (v = true) := by unfold Hid; rw [← hv, decide_eq_true h]
    subst h
    clear hv
    go_enter Try.func161, Try.ntmps161
    go_wp2_with (first | (go_at_call 184; refine (l01Bits_any _ _ (by assumption) (by assumption) _).mono ?_; rintro _ _ ⟨rfl, rfl⟩))
    go_ret
    exact ⟨by rw [hv2.out]; first | rfl | simp, rfl⟩
  · have hv2 : Hid (v = false) := by unfold Hid; rw [← hv, decide_eq_false h]
    have hst : ¬ (s : Int) = (t : Int) := by omega
    clear hv h
    go_enter Try.func161, Try.ntmps161
    go_wp2_with (first | (go_at_call 184; refine (l01Bits_any _ _ (by assumption) (by assumption) _).mono ?_; rintro _ _ ⟨rfl, rfl⟩))
    go_ret
    exact ⟨by rw [hv2.out]; first | rfl | simp [hst], rfl⟩
theorem prefix_eq {xs zs : List Nat} {n : Nat} (h1 : xs.length = n) (h2 : zs.length = n) (h : ∀ i, i < n → el (cl xs) i = el (cl zs) i) : cl xs = cl zs :=
  el_ext (by rw [cl_length, cl_length, h1, h2]) (fun i hi => h i (by rw [cl_length, h1] at hi; exact hi))
set_option maxHeartbeats 2000000 in
theorem equalEq_any (ao bo : Option Addr) (ca cb n : Nat) (xs zs : List Nat) (v : Bool) (w : World) (hn1 : xs.length = n) (hn2 : zs.length = n) (hx : FR w ao xs) (hz : FR w bo zs) (hbx : bnd xs) (hbz : bnd zs) (hl : n ≤ 1048576) (hv : decide (cl xs = cl zs) = v) :
    Calls Try.prog 162 #[.slice ao n ca, .slice bo n cb, .func (.func 163) #[] #[]] w (Gives (.bool v) w) := by
  have HV := Lib.hid hv
  have H1 := Lib.hid hn1
  have H2 := Lib.hid hn2
  clear hv hn1 hn2
  have eg : ∀ (args : Array Value) (w : World), (callFunc 163 args).run Try.prog w = .ok (.enter 163 args) w := enters_at Try.func163 (by kernel_rfl) rfl
  go_enter Try.func162, Try.ntmps162
  go_wp2
  go_loopw [17] (fun i wr => ∃ k m : Nat, k ≤ n ∧ i = .int .i64 k ∧ Hid (∀ i, i < k → el (cl xs) i = el (cl zs) i) ∧ wr = w.drewN m) (fun i _ => n - (intOf i).toNat)
  case atStart => exact ⟨0, 0, Nat.zero_le _, rfl, fun i hi => absurd hi (by omega), rfl⟩
  case round =>
    obtain ⟨k, m, hk, rfl, hall, rfl⟩ := hrel
    by_cases hlt : k < n
    · have hltx : k < xs.length := by rw [H1.out]; exact hlt
      have hltz : k < zs.length := by rw [H2.out]; exact hlt
      obtain ⟨b, off, rfl, hcell⟩ := hx k hltx
      obtain ⟨b', off', rfl, hcell'⟩ := hz k hltz
      have helx := is_el hltx
      have helz := is_el hltz
      have hbxk := hbx k hltx
      have hbzk := hbz k hltz
      cases hq : decide (el (cl xs) k = el (cl zs) k) with
      | true =>
        have HN : Hid (∀ i, i < k + 1 → el (cl xs) i = el (cl zs) i) := fun i hi => by
          by_cases h : i < k
          · exact hall.out i h
          · obtain rfl : i = k := by omega
            exact of_decide_eq_true hq
        go_wp2_with (go_at_call 163; refine (sameNum_any _ _ _ _ _ helx helz hbxk hbzk hq _).mono ?_; rintro _ _ ⟨rfl, rfl⟩)
        go_roundw
        case rel => exact ⟨k + 1, _, by omega, by go_num, HN, rfl⟩
        case measure => simp [intOf]; omega
      | false =>
        have HF : Hid (v = false) := by
          unfold Hid
          rw [← HV.out]
          exact decide_eq_false fun e => of_decide_eq_false hq (by rw [e])
        go_wp2_with (go_at_call 163; refine (sameNum_any _ _ _ _ _ helx helz hbxk hbzk hq _).mono ?_; rintro _ _ ⟨rfl, rfl⟩)
        go_ret
        exact ⟨by rw [HF.out]; rfl, _, by first | rfl | exact drewN_drewN' _ _ _⟩
    · obtain rfl : n = k := by omega
      have HT : Hid (v = true) := by unfold Hid; rw [← HV.out]; exact decide_eq_true (prefix_eq H1.out H2.out hall.out)
      go_wp2
      go_ret
      exact ⟨by rw [HT.out]; rfl, _, rfl⟩
set_option maxHeartbeats 2000000 in
theorem l01SameAllEq_any (ao bo : Option Addr) (ca cb n : Nat) (xs zs : List Nat) (v : Bool) (w : World) (hn1 : xs.length = n) (hn2 : zs.length = n) (hx : FR w ao xs) (hz : FR w bo zs) (hbx : bnd xs) (hbz : bnd zs) (hl : n ≤ 1048576) (hv : decide (cl xs = cl zs) = v) :
    Calls Try.prog 114 #[.slice ao n ca, .slice bo n cb] w (Gives (.bool v) w) := by
  have HV := Lib.hid hv
  have H1 := Lib.hid hn1
  have H2 := Lib.hid hn2
  clear hv hn1 hn2
  go_enter Try.func114, Try.ntmps114
  go_wp2
  go_loopw [5] (fun i wr => ∃ k m : Nat, k ≤ n ∧ i = .int .i64 k ∧ Hid (∀ i, i < k → el (cl xs) i = el (cl zs) i) ∧ wr = w.drewN m) (fun i _ => n - (intOf i).toNat)
  case atStart => exact ⟨0, 0, Nat.zero_le _, rfl, fun i hi => absurd hi (by omega), rfl⟩
  case round =>
    obtain ⟨k, m, hk, rfl, hall, rfl⟩ := hrel
    by_cases hlt : k < n
    · have hltx : k < xs.length := by rw [H1.out]; exact hlt
      have hltz : k < zs.length := by rw [H2.out]; exact hlt
      obtain ⟨b, off, rfl, hcell⟩ := hx k hltx
      obtain ⟨b', off', rfl, hcell'⟩ := hz k hltz
      have helx := is_el hltx
      have helz := is_el hltz
      have hbxk := hbx k hltx
      have hbzk := hbz k hltz
      cases hq : decide (el (cl xs) k = el (cl zs) k) with
      | true =>
        have HN : Hid (∀ i, i < k + 1 → el (cl xs) i = el (cl zs) i) := fun i hi => by
          by_cases h : i < k
          · exact hall.out i h
          · obtain rfl : i = k := by omega
            exact of_decide_eq_true hq
        go_wp2
        refine wp_region_lex (fun _ => Drawn w) (fun _ => false) (fun j u => u = .bool true) (by kernel_rfl) (by kernel_rfl) (by kernel_rfl) (fun _ => drawn_more _) (fun _ => ⟨m, rfl⟩) (fun n0 => ?_)
        (refine lw_move rfl rfl rfl rfl ?_; go_simp)
        (refine lw_move rfl rfl rfl rfl ?_; go_simp)
        (refine lw_valD rfl rfl (fun nn => by go_simp; rfl) ?_; go_simp)
        (refine lw_valD rfl rfl (fun nn => by go_simp; rfl) ?_; go_simp)
        (refine lw_move rfl rfl rfl rfl ?_; go_simp)
        (refine lw_move rfl rfl rfl rfl ?_; go_simp)
        (refine lw_valD rfl rfl (fun nn => by go_simp; rfl) ?_; go_simp)
        (refine lw_valD rfl rfl (fun nn => by go_simp; rfl) ?_; go_simp)
        refine lw_call (args := #[.float .f32 (el xs k), .float .f32 (el zs k)]) rfl rfl (fun w' hw' => by go_simp; try rfl) (fun w' hw' => (l01Same_any _ _ _ _ _ helx helz hbxk hbzk hq w').mono fun e w'' ⟨h1, h2⟩ => ⟨_, h1, rfl, 0, h2.symm⟩) ?_
        rintro _ rfl
        go_simp
        (refine lw_not rfl rfl rfl rfl ?_; go_simp)
        (refine lw_nil ?_; intro nq)
        go_wp2
        go_roundw
        case rel => exact ⟨k + 1, _, by omega, by go_num, HN, rfl⟩
        case measure => simp [intOf]; omega
      | false =>
        have HF : Hid (v = false) := by
          unfold Hid
          rw [← HV.out]
          exact decide_eq_false fun e => of_decide_eq_false hq (by rw [e])
        go_wp2
        refine wp_region_lex (fun _ => Drawn w) (fun _ => false) (fun j u => u = .bool false) (by kernel_rfl) (by kernel_rfl) (by kernel_rfl) (fun _ => drawn_more _) (fun _ => ⟨m, rfl⟩) (fun n0 => ?_)
        (refine lw_move rfl rfl rfl rfl ?_; go_simp)
        (refine lw_move rfl rfl rfl rfl ?_; go_simp)
        (refine lw_valD rfl rfl (fun nn => by go_simp; rfl) ?_; go_simp)
        (refine lw_valD rfl rfl (fun nn => by go_simp; rfl) ?_; go_simp)
        (refine lw_move rfl rfl rfl rfl ?_; go_simp)
        (refine lw_move rfl rfl rfl rfl ?_; go_simp)
        (refine lw_valD rfl rfl (fun nn => by go_simp; rfl) ?_; go_simp)
        (refine lw_valD rfl rfl (fun nn => by go_simp; rfl) ?_; go_simp)
        refine lw_call (args := #[.float .f32 (el xs k), .float .f32 (el zs k)]) rfl rfl (fun w' hw' => by go_simp; try rfl) (fun w' hw' => (l01Same_any _ _ _ _ _ helx helz hbxk hbzk hq w').mono fun e w'' ⟨h1, h2⟩ => ⟨_, h1, rfl, 0, h2.symm⟩) ?_
        rintro _ rfl
        go_simp
        (refine lw_not rfl rfl rfl rfl ?_; go_simp)
        (refine lw_nil ?_; intro nq)
        go_wp2
        go_ret
        exact ⟨by rw [HF.out]; rfl, _, by first | rfl | exact drewN_drewN' _ _ _⟩
    · obtain rfl : n = k := by omega
      have HT : Hid (v = true) := by unfold Hid; rw [← HV.out]; exact decide_eq_true (prefix_eq H1.out H2.out hall.out)
      go_wp2
      go_ret
      exact ⟨by rw [HT.out]; rfl, _, rfl⟩
theorem len_ne {xs zs : List Nat} (h : ¬ xs.length = zs.length) : decide (cl xs = cl zs) = false := decide_eq_false fun e => h (by rw [← cl_length xs, e, cl_length])
theorem sameList_any (ao bo : Option Addr) (ca cb : Nat) (xs zs : List Nat) (v : Bool) (w : World) (hx : FR w ao xs) (hz : FR w bo zs) (hbx : bnd xs) (hbz : bnd zs) (hl : xs.length ≤ 1048576) (hl2 : zs.length ≤ 1048576) (hv : decide (cl xs = cl zs) = v) : Calls Try.prog 116 #[.slice ao xs.length ca, .slice bo zs.length cb] w (Gives (.bool v) w) := by
  by_cases hlen : xs.length = zs.length
  · have H1 := equalEq_any ao bo ca cb zs.length xs zs v w hlen rfl hx hz hbx hbz hl2 hv
    rw [hlen]
    clear hlen hv hl hl2
    go_enter Try.func116, Try.ntmps116
    go_wp2_with (go_at_call 162; refine H1.mono ?_; rintro _ _ ⟨rfl, n1, rfl⟩)
    go_ret
    exact ⟨rfl, _, rfl⟩
  · have h : Hid (v = false) := by unfold Hid; rw [← hv, len_ne hlen]
    have hne : ¬ (xs.length : Int) = (zs.length : Int) := by omega
    clear hv hlen
    have H1 : Calls Try.prog 162 #[.slice ao xs.length ca, .slice bo zs.length cb, .func (.func 163) #[] #[]] w (Gives (.bool false) w) := by
      go_enter Try.func162, Try.ntmps162
      go_wp2
      go_ret
      exact ⟨rfl, 0, rfl⟩
    go_enter Try.func116, Try.ntmps116
    go_wp2_with (go_at_call 162; refine H1.mono ?_; rintro _ _ ⟨rfl, n1, rfl⟩)
    go_ret
    exact ⟨by rw [h.out]; rfl, _, rfl⟩
theorem l01SameAll_any (ao bo : Option Addr) (ca cb : Nat) (xs zs : List Nat) (v : Bool) (w : World) (hx : FR w ao xs) (hz : FR w bo zs) (hbx : bnd xs) (hbz : bnd zs) (hl : xs.length ≤ 1048576) (hl2 : zs.length ≤ 1048576) (hv : decide (cl xs = cl zs) = v) : Calls Try.prog 114 #[.slice ao xs.length ca, .slice bo zs.length cb] w (Gives (.bool v) w) := by
  by_cases hlen : xs.length = zs.length
  · rw [hlen]
    exact l01SameAllEq_any ao bo ca cb zs.length xs zs v w hlen rfl hx hz hbx hbz hl2 hv
  · have h : Hid (v = false) := by unfold Hid; rw [← hv, len_ne hlen]
    have hne : ¬ (xs.length : Int) = (zs.length : Int) := by omega
    clear hv hlen
    go_enter Try.func114, Try.ntmps114
    go_wp2
    go_ret
    exact ⟨by rw [h.out]; rfl, 0, rfl⟩
end Go.Proofs.Ytncolcjjmllfeaa
