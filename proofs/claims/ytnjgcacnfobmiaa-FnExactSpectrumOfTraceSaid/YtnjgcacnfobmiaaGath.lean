/- Gathers: the laws' own helpers over them (sizes, the copy, the comparison, the marks); a gather that came in. -/
import Derived.Test.YtnjgcacnfobmiaaPost
namespace Go.Proofs.Ytnjgcacnfobmiaa
open Go.RowKit
set_option maxRecDepth 100000
set_option linter.unusedVariables false

def gB (pv rv : Value) (vs : List Value) (k : Nat) : Prop := pv.ownBlock = some k ∨ rv.ownBlock = some k ∨ rowsB vs k
/-- A gather that the call owns: its places and its rows. -/
def OwnG (w : World) (base : Nat) (pv rv : Value) (vs : List Value) (ps : List Nat) (rs : List (List Nat)) : Prop :=
  OwnF w base pv ps ∧ OwnRows w base rv vs rs ∧ ∀ k, pv.ownBlock = some k → rv.ownBlock ≠ some k ∧ ¬ rowsB vs k
section
variable {w w' : World} {base base' : Nat} {pv rv : Value} {vs : List Value} {ps : List Nat} {rs : List (List Nat)}
theorem OwnG.chg {bs : Nat → Prop} (h : OwnG w base pv rv vs ps rs) (hg : Chg bs w w') (hd : ∀ k, gB pv rv vs k → ¬ bs k) : OwnG w' base pv rv vs ps rs :=
  ⟨h.1.chg hg (fun k hk => hd k (.inl hk)), h.2.1.chg hg (fun k hk => hd k (.inr (.inl hk))) (fun k hk => hd k (.inr (.inr hk))), h.2.2⟩
theorem OwnG.ext (h : OwnG w base pv rv vs ps rs) (he : Ext w w') : OwnG w' base pv rv vs ps rs := ⟨h.1.ext he, h.2.1.ext he, h.2.2⟩
theorem OwnG.drewN (h : OwnG w base pv rv vs ps rs) (n : Nat) : OwnG (w.drewN n) base pv rv vs ps rs := h
theorem OwnG.mono (h : OwnG w base pv rv vs ps rs) (hb : base' ≤ base) : OwnG w base' pv rv vs ps rs := ⟨h.1.mono hb, h.2.1.mono hb, h.2.2⟩
theorem OwnG.lt (h : OwnG w base pv rv vs ps rs) : ∀ k, gB pv rv vs k → base ≤ k ∧ k < w.heap.size := fun k hk => by
  rcases hk with hk | hk | hk
  · exact h.1.lt k hk
  · exact h.2.1.lt.1 k hk
  · exact h.2.1.lt.2 k hk
theorem OwnG.fr (h : OwnG w base pv rv vs ps rs) : (∃ ao cap, pv = .slice ao ps.length cap ∧ FR w ao ps) ∧ ∃ ao cap, rv = .slice ao rs.length cap ∧ RS w ao rs := ⟨h.1.fr, h.2.1.fr⟩
theorem OwnG.fp {ao ar : Option Addr} {n m cap rc : Nat} (h : OwnG w base (.slice ao n cap) (.slice ar m rc) vs ps rs) : FR w ao ps := h.1.toFR
theorem OwnG.fs {ao ar : Option Addr} {n m cap rc : Nat} (h : OwnG w base (.slice ao n cap) (.slice ar m rc) vs ps rs) : RS w ar rs := by
  obtain ⟨ao', cap', e, hr⟩ := h.2.1.fr
  injection e with e1 e2 e3
  subst e1
  exact hr
theorem ownG_drew {w1 : World} {n : Nat} (h : OwnG w base pv rv vs ps rs) (e : w' = w1.drewN n) (hw : OwnG w base pv rv vs ps rs → OwnG w1 base pv rv vs ps rs := by exact id) : OwnG w' base pv rv vs ps rs := by subst e; exact hw h
end
/-- The numbers of a gather's parts are no greater than an int holds. -/
def small (ps : List Nat) (rs : List (List Nat)) : Prop := ps.length ≤ 9223372036854775807 ∧ rs.length ≤ 9223372036854775807 ∧ ∀ i, i < rs.length → (row rs i).length ≤ 9223372036854775807
theorem tot_cls (rs : List (List Nat)) : tot (cls rs) = tot rs := by
  induction rs with
  | nil => rfl
  | cons r rs ih => show (cl r).length + tot (cls rs) = _; rw [ih, cl_length]; rfl
theorem small_of {ps P : List Nat} {rs R : List (List Nat)} (h1 : cl ps = P) (h2 : cls rs = R) (h : P.length + (R.length + tot R) ≤ 1048576) : ps.length + (rs.length + tot rs) ≤ 1048576 := by
  subst h1 h2
  rw [cl_length, cls_len, tot_cls] at h
  exact h

/-! ### Sizes -/
theorem szF_ok (ao : Option Addr) (n cap : Nat) (left : Int) (w : World) (h : (n : Int) ≤ left) (hl : left ≤ 1048576) : Calls Try.prog 101 #[.slice ao n cap, .int .i64 left] w fun e w' => e = .returned (.int .i64 (left - n)) ∧ w = w' := by
  have h0 : (0 : Int) ≤ left - n := by omega
  go_enter Try.func101, Try.ntmps101
  go_wp2
  go_ret
  exact ⟨by go_num, rfl⟩
theorem szF_no (ao : Option Addr) (n cap : Nat) (left : Int) (w : World) (h : left < (n : Int)) (h0 : 0 ≤ left) (hl : left ≤ 1048576) (hn : n ≤ 9223372036854775807) : Calls Try.prog 101 #[.slice ao n cap, .int .i64 left] w fun e w' => e = .returned (.int .i64 (-1)) ∧ w = w' := by
  have h0 : left - n < 0 := by omega
  go_enter Try.func101, Try.ntmps101
  go_wp2
  go_ret
  exact ⟨rfl, rfl⟩
set_option maxHeartbeats 1000000 in
theorem szFF_ok (ao : Option Addr) (cap : Nat) (rs : List (List Nat)) (left : Int) (w : World) (hr : RS w ao rs) (h : ((rs.length : Int) + (tot rs : Int)) ≤ left) (hl : left ≤ 1048576) : Calls Try.prog 102 #[.slice ao rs.length cap, .int .i64 left] w fun e w' => e = .returned (.int .i64 (left - ((rs.length : Int) + (tot rs : Int)))) ∧ w = w' := by
  have h0 : (0 : Int) ≤ left - rs.length := by omega
  go_enter Try.func102, Try.ntmps102
  go_wp2
  go_loop [1, 5] (fun q i => ∃ k : Nat, k ≤ rs.length ∧ i = .int .i64 k ∧ q = .int .i64 (left - ((rs.length : Int) + (tot (rs.take k) : Int)))) (fun _ i => rs.length - (intOf i).toNat)
  case atStart => exact ⟨0, Nat.zero_le _, rfl, by simp [tot]⟩
  case round =>
    obtain ⟨k, hk, rfl, rfl⟩ := hrel
    by_cases hlt : k < rs.length
    · obtain ⟨b, off, ra, rc, rfl, hcell, _⟩ := hr k hlt
      have h1 := tot_take rs k hlt
      have h2 := tot_le rs (k + 1)
      have h3 : (0 : Int) ≤ left - ((rs.length : Int) + (tot (rs.take k) : Int)) - ((row rs k).length : Int) := by omega
      go_wp2_with (go_at_call 101; refine (szF_ok _ _ _ _ _ (by omega) (by omega)).mono ?_; rintro _ _ ⟨rfl, rfl⟩)
      go_roundw
      case rel => exact ⟨k + 1, by omega, by go_num, by congr 1; omega⟩
      case measure => simp [intOf]; omega
    · obtain rfl : k = rs.length := by omega
      rw [List.take_length]
      go_wp2
      go_ret
      exact ⟨rfl, rfl⟩
set_option maxHeartbeats 1000000 in
theorem szFF_no (ao : Option Addr) (cap : Nat) (rs : List (List Nat)) (left : Int) (w : World) (hr : RS w ao rs) (hb : rs.length ≤ 9223372036854775807 ∧ ∀ i, i < rs.length → (row rs i).length ≤ 9223372036854775807) (h : left < ((rs.length : Int) + (tot rs : Int))) (hlz : 0 ≤ left) (hl : left ≤ 1048576) :
    Calls Try.prog 102 #[.slice ao rs.length cap, .int .i64 left] w fun e w' => e = .returned (.int .i64 (-1)) ∧ w = w' := by
  by_cases h0 : left - rs.length < 0
  · have hb1 := hb.1
    go_enter Try.func102, Try.ntmps102
    go_wp2
    go_ret
    exact ⟨rfl, rfl⟩
  · have h0' : (0 : Int) ≤ left - rs.length := by omega
    clear h0
    go_enter Try.func102, Try.ntmps102
    go_wp2
    go_loop [1, 5] (fun q i => ∃ k : Nat, k ≤ rs.length ∧ i = .int .i64 k ∧ q = .int .i64 (left - ((rs.length : Int) + (tot (rs.take k) : Int))) ∧ ((rs.length : Int) + (tot (rs.take k) : Int)) ≤ left) (fun _ i => rs.length - (intOf i).toNat)
    case atStart => exact ⟨0, Nat.zero_le _, rfl, by simp [tot], by simp [tot]; omega⟩
    case round =>
      obtain ⟨k, hk, rfl, rfl, hle⟩ := hrel
      by_cases hlt : k < rs.length
      · obtain ⟨b, off, ra, rc, rfl, hcell, _⟩ := hr k hlt
        have h1 := tot_take rs k hlt
        have hbk := hb.2 k hlt
        by_cases hfit : ((rs.length : Int) + (tot (rs.take (k + 1)) : Int)) ≤ left
        · have e1 : left - ((rs.length : Int) + (tot (rs.take k) : Int)) - ((row rs k).length : Int) = left - ((rs.length : Int) + (tot (rs.take (k + 1)) : Int)) := by omega
          have h3 : (0 : Int) ≤ left - ((rs.length : Int) + (tot (rs.take k) : Int)) - ((row rs k).length : Int) := by omega
          go_wp2_with (go_at_call 101; refine (szF_ok _ _ _ _ _ (by omega) (by omega)).mono ?_; rintro _ _ ⟨rfl, rfl⟩)
          go_roundw
          case rel => exact ⟨k + 1, by omega, by go_num, by congr 1; omega, hfit⟩
          case measure => simp [intOf]; omega
        · go_wp2_with (go_at_call 101; refine (szF_no _ _ _ _ _ (by omega) (by omega) (by omega) hbk).mono ?_; rintro _ _ ⟨rfl, rfl⟩)
          go_ret
          exact ⟨rfl, rfl⟩
      · exfalso
        rw [List.take_of_length_le (by omega)] at hle
        omega
theorem szGather_ok (t : Int) (pa : Option Addr) (pc : Nat) (ps : List Nat) (ra : Option Addr) (rc : Nat) (rs : List (List Nat)) (left : Int) (w : World) (hr : RS w ra rs) (hb : small ps rs) (h : (ps.length : Int) + ((rs.length : Int) + (tot rs : Int)) ≤ left) (hl : left ≤ 1048576) :
    Calls Try.prog 44 #[.agg #[.int .i64 t, .slice pa ps.length pc, .slice ra rs.length rc], .int .i64 left] w fun e w' => e = .returned (.int .i64 (left - (ps.length : Int) - ((rs.length : Int) + (tot rs : Int)))) ∧ Ext w w' := by
  have h0 : (0 : Int) ≤ left - ps.length := by omega
  have h1 : (0 : Int) ≤ left - ps.length - ((rs.length : Int) + (tot rs : Int)) := by omega
  go_enter Try.func44, Try.ntmps44
  go_wp2_with (first | (go_at_call 101; refine (szF_ok _ _ _ _ _ (by omega) (by omega)).mono ?_; rintro _ _ ⟨rfl, rfl⟩) | (go_at_call 102; refine (szFF_ok _ _ _ _ _ (hr.ext (by repeat (first | assumption | exact Ext.refl _ | apply Ext.drewN | apply Ext.alloc | (refine Ext.setCell ?_ (by first | assumption | exact Nat.le_refl _) _)))) (by omega) (by omega)).mono ?_; rintro _ _ ⟨rfl, rfl⟩))
  go_ret
  exact ⟨rfl, (by repeat (first | assumption | exact Ext.refl _ | apply Ext.drewN | apply Ext.alloc | (refine Ext.setCell ?_ (by first | assumption | exact Nat.le_refl _) _)))⟩
theorem szGather_no (t : Int) (pa : Option Addr) (pc : Nat) (ps : List Nat) (ra : Option Addr) (rc : Nat) (rs : List (List Nat)) (left : Int) (w : World) (hr : RS w ra rs) (hb : small ps rs) (h : left < (ps.length : Int) + ((rs.length : Int) + (tot rs : Int))) (hz : 0 ≤ left) (hl : left ≤ 1048576 := by omega) :
    Calls Try.prog 44 #[.agg #[.int .i64 t, .slice pa ps.length pc, .slice ra rs.length rc], .int .i64 left] w fun e w' => e = .returned (.int .i64 (-1)) ∧ Ext w w' := by
  obtain ⟨hb1, hb2⟩ := hb
  by_cases h0 : (ps.length : Int) ≤ left
  · have h0' : (0 : Int) ≤ left - ps.length := by omega
    go_enter Try.func44, Try.ntmps44
    go_wp2_with (first | (go_at_call 101; refine (szF_ok _ _ _ _ _ (by omega) (by omega)).mono ?_; rintro _ _ ⟨rfl, rfl⟩) | (go_at_call 102; refine (szFF_no _ _ _ _ _ (hr.ext (by repeat (first | assumption | exact Ext.refl _ | apply Ext.drewN | apply Ext.alloc | (refine Ext.setCell ?_ (by first | assumption | exact Nat.le_refl _) _)))) hb2 (by omega) (by omega) (by omega)).mono ?_; rintro _ _ ⟨rfl, rfl⟩))
    go_ret
    exact ⟨rfl, (by repeat (first | assumption | exact Ext.refl _ | apply Ext.drewN | apply Ext.alloc | (refine Ext.setCell ?_ (by first | assumption | exact Nat.le_refl _) _)))⟩
  · go_enter Try.func44, Try.ntmps44
    go_wp2_with (go_at_call 101; refine (szF_no _ _ _ _ _ (by omega) (by omega) (by omega) hb1).mono ?_; rintro _ _ ⟨rfl, rfl⟩)
    go_ret
    exact ⟨rfl, (by repeat (first | assumption | exact Ext.refl _ | apply Ext.drewN | apply Ext.alloc | (refine Ext.setCell ?_ (by first | assumption | exact Nat.le_refl _) _)))⟩

/-! ### The copy -/
set_option maxHeartbeats 1000000 in
theorem toFF_any (ao : Option Addr) (cap : Nat) (rs : List (List Nat)) (w : World) (hr : RS w ao rs) (hl : rs.length + tot rs ≤ 1048576) :
    Calls Try.prog 105 #[.slice ao rs.length cap] w fun e w' => ∃ v vs, e = .returned v ∧ Ext w w' ∧ OwnRows w' w.heap.size v vs rs := by
  obtain ⟨i0, hi, hz, hs1, hb4⟩ := info_parts infoS
  go_enter Try.func105, Try.ntmps105
  go_wp2_with (at_make; refine wl_makeS rfl Try.underlying23 hi hz hs1 hb4 rfl rfl rfl rfl rfl (by omega) ?_; intro w1 hown hext)
  go_loopw [4] (fun i wr => ∃ (k : Nat) (vs : List Value), k ≤ rs.length ∧ i = .int .i64 k ∧ Ext w wr ∧ OwnRows wr w.heap.size (.slice (some ⟨w.heap.size, 0, none⟩) rs.length rs.length) vs (rs.take k ++ List.replicate (rs.length - k) [])) (fun i _ => rs.length - (intOf i).toNat)
  case atStart => exact ⟨0, _, Nat.zero_le _, rfl, hext, by simpa using hown⟩
  case round =>
    obtain ⟨k, vs, hk, rfl, hE, hO⟩ := hrel
    clear hown hext
    by_cases hlt : k < rs.length
    · obtain ⟨b, off, ra, rc, rfl, hcell, hf⟩ := hr.ext hE k hlt
      have h1 := row_tot rs k hlt
      have hlen : (rs.take k ++ List.replicate (rs.length - k) []).length = rs.length := by simp; omega
      have hvl : vs.length = rs.length := by rw [hO.1, hlen]
      go_wp2_with fail
      go_at_call 21; refine (toFloat32S_any _ _ _ _ hf (by omega)).mono ?_; rintro _ w2 ⟨u, rfl, hE2, hu⟩
      have hO2 := hO.ext hE2
      have hd : ∀ j m, j < vs.length → u.ownBlock = some m → (va vs j).ownBlock ≠ some m := fun j m hj hm e => by
        have h2 := hO.lt.2 m ⟨j, hj, e⟩
        have h3 := hu.lt m hm
        omega
      have hg : u.ownBlock ≠ some w.heap.size := fun e => by
        have h2 := hO.lt.1 w.heap.size rfl
        have h3 := hu.lt _ e
        omega
      obtain ⟨g, hge, _, hgl, hcur, hfz⟩ := hO2.at (k := k) (by rw [hlen]; exact hlt)
      simp only [Option.some.injEq, Addr.mk.injEq, and_true] at hge
      subst hge
      obtain ⟨ua, uc, rfl, _⟩ := hu.fr
      have hst := hO2.stored (i := k) (by rw [hlen]; exact hlt) (hu.mono hE.size) hg hd
      have hO3 : Hid (OwnRows (w2.setCell ⟨w.heap.size, k, none⟩ (.slice ua (row rs k).length uc)) w.heap.size (.slice (some ⟨w.heap.size, 0, none⟩) rs.length rs.length) (vs.set k (.slice ua (row rs k).length uc)) (rs.take (k + 1) ++ List.replicate (rs.length - (k + 1)) [])) := by
        have e : (rs.take k ++ List.replicate (rs.length - k) []).set k (row rs k) = rs.take (k + 1) ++ List.replicate (rs.length - (k + 1)) [] := by
          rw [List.set_append_right _ _ (by simp; omega), take_succ_row rs k hlt, List.append_assoc, show rs.length - k = (rs.length - (k + 1)) + 1 by omega, List.replicate_succ]
          congr 1
          simp [Nat.min_eq_left hk]
        rw [← e]; exact hst.1
      have hE3 : Hid (Ext w (w2.setCell ⟨w.heap.size, k, none⟩ (.slice ua (row rs k).length uc))) := (hE.trans hE2).setCell (Nat.le_refl _) _
      clear hst hu hO hO2 hd hg hf
      go_wp2
      go_roundw
      case rel => exact ⟨k + 1, _, by omega, by go_num, hE3.out, hO3.out⟩
      case measure => simp [intOf]; omega
    · go_wp2
      go_ret
      refine ⟨_, vs, rfl, hE, ?_⟩
      rw [List.take_of_length_le (by omega), show rs.length - k = 0 by omega] at hO
      simpa using hO
/-- A block that holds just these cells. -/
def Cells (w : World) (g : Nat) (cs : Array Value) (t : TypeId) : Prop := w.heap[g]? = some (.cells cs t (0, 0))
theorem Cells.lt {w : World} {g : Nat} {cs : Array Value} {t : TypeId} (h : Cells w g cs t) : g < w.heap.size := (Array.getElem?_eq_some_iff.1 h).1
theorem Cells.ext {w w' : World} {g : Nat} {cs : Array Value} {t : TypeId} (h : Cells w g cs t) (he : Ext w w') : Cells w' g cs t := (Below.block he g h.lt).trans h
theorem Cells.new (w : World) (cs : Array Value) (t : TypeId) : Cells (w.alloc (.cells cs t)) w.heap.size cs t := heap_alloc_new w _
theorem Cells.alloc {w : World} {g : Nat} {cs : Array Value} {t : TypeId} (h : Cells w g cs t) (o : Obj) : Cells (w.alloc o) g cs t := (heap_alloc_old w o h.lt).trans h
theorem Cells.set {w : World} {g : Nat} {cs : Array Value} {t : TypeId} (h : Cells w g cs t) (i : Nat) (u : Value) : Cells (w.setCell ⟨g, i, none⟩ u) g (cs.setIfInBounds i u) t := heap_setCell_same w g i cs t u h
theorem Cells.other {w : World} {g k : Nat} {cs : Array Value} {t : TypeId} (h : Cells w g cs t) (hk : g ≠ k) (i : Nat) (u : Value) : Cells (w.setCell ⟨k, i, none⟩ u) g cs t := (heap_setCell_other w ⟨k, i, none⟩ g u hk).trans h
theorem Cells.at {w : World} {g : Nat} {cs : Array Value} {t : TypeId} (h : Cells w g cs t) (i : Nat) : w.cell? ⟨g, i, none⟩ = cs[i]? := cell_of_row w g i cs t (0, 0) h
theorem Cells.fz {w : World} {g : Nat} {cs : Array Value} {t : TypeId} (h : Cells w g cs t) (i : Nat) : w.frozen? ⟨g, i, none⟩ = false := frozen_of_row w g i cs t h
theorem chg_setCell (w : World) (g i : Nat) (u : Value) : Chg (fun k => k = g) w (w.setCell ⟨g, i, none⟩ u) :=
  ⟨rfl, rfl, rfl, by simp, fun k _ hk => heap_setCell_other w ⟨g, i, none⟩ k u hk⟩
theorem size_alloc (w : World) (o : Obj) : (w.alloc o).heap.size = w.heap.size + 1 := by show (w.heap.push o).size = _; simp
theorem Cells.new1 (w : World) (A : Obj) (cs : Array Value) (t : TypeId) : Cells ((w.alloc A).alloc (.cells cs t)) (w.heap.size + 1) cs t := by
  have := Cells.new (w.alloc A) cs t
  rwa [size_alloc] at this
theorem Cells.new2 (w : World) (A B : Obj) (cs : Array Value) (t : TypeId) : Cells (((w.alloc A).alloc B).alloc (.cells cs t)) (w.heap.size + 1 + 1) cs t := by
  have := Cells.new ((w.alloc A).alloc B) cs t
  rwa [size_alloc, size_alloc] at this
theorem chg_setRow {w : World} {g : Nat} {cs : Array Value} {t : TypeId} (h : Cells w g cs t) (cs' : Array Value) : Chg (fun k => k = g) w (w.setRow g cs') :=
  ⟨rfl, rfl, rfl, by simp, fun k _ hk => by simp only [World.setRow, Array.getElem?_modify]; rw [if_neg (fun e => hk e.symm)]⟩
theorem infoG : (Try.prog.info? 25).map (·.size) = some 3 := by kernel_rfl
theorem toGather_any (t : Int) (pa : Option Addr) (pc : Nat) (ps : List Nat) (ra : Option Addr) (rc : Nat) (rs : List (List Nat)) (w : World) (hp : FR w pa ps) (hr : RS w ra rs) (hl : ps.length + (rs.length + tot rs) ≤ 1048576) :
    Calls Try.prog 46 #[.agg #[.int .i64 t, .slice pa ps.length pc, .slice ra rs.length rc]] w fun e w' => ∃ pv rv vs, e = .returned (.agg #[.int .i64 t, pv, rv]) ∧ Ext w w' ∧ OwnG w' w.heap.size pv rv vs ps rs := by
  go_enter Try.func46, Try.ntmps46
  go_wp2_with fail
  go_at_call 21; refine (toFloat32S_any _ _ _ _ ?_ (by omega)).mono ?_
  · exact hp.ext ((((Ext.refl w).alloc _).alloc _).alloc _)
  rintro _ w1 ⟨pv, rfl, hE1, hP⟩
  have cA : Cells w1 w.heap.size #[.int .i64 t, .slice pa ps.length pc, .slice ra rs.length rc] 55 := Cells.ext (((Cells.new _ _ _).alloc _).alloc _) hE1
  have cB : Cells w1 (w.heap.size + 1) #[.int .i64 0, .slice none 0 0, .slice none 0 0] 25 := Cells.ext ((Cells.new1 _ _ _ _).alloc _) hE1
  have cC : Cells w1 (w.heap.size + 1 + 1) #[.int .i64 t, .slice none 0 0, .slice none 0 0] 25 := Cells.ext (Cells.new2 _ _ _ _ _) hE1
  have hE : Ext w w1 := Ext.trans ((((Ext.refl w).alloc _).alloc _).alloc _) hE1
  have hsz : w.heap.size + 1 + 1 + 1 ≤ w1.heap.size := cC.lt
  have hbs : ∀ k, pv.ownBlock = some k → w.heap.size + 1 + 1 + 1 ≤ k ∧ k < w1.heap.size := fun k hk => by
    have h1 := hP.lt k hk
    refine ⟨Nat.le_trans ?_ h1.1, h1.2⟩
    simp
  have hP0 : OwnF w1 w.heap.size pv ps := hP.mono (by simp; omega)
  clear hE1 hP
  obtain ⟨ap, cp, rfl, _⟩ := hP0.fr
  have k1 := cA.at 2
  have k2 := cC.at 1
  have k3 := cC.fz 1
  simp only [List.getElem?_toArray, List.getElem?_cons_succ, List.getElem?_cons_zero] at k1 k2
  go_wp2_with fail
  go_at_call 105; refine (toFF_any _ _ _ _ ?_ (by omega)).mono ?_
  · exact hr.ext (hE.setCell (by show w.heap.size ≤ w.heap.size + 1 + 1; omega) _)
  rintro _ w2 ⟨rv, vs, rfl, hE2, hR⟩
  have cB2 : Cells w2 (w.heap.size + 1) #[.int .i64 0, .slice none 0 0, .slice none 0 0] 25 := Cells.ext (cB.other (by omega) _ _) hE2
  have cC2 : Cells w2 (w.heap.size + 1 + 1) #[.int .i64 t, .slice ap ps.length cp, .slice none 0 0] 25 := Cells.ext (cC.set _ _) hE2
  have hP1 : OwnF w2 w.heap.size (.slice ap ps.length cp) ps := (hP0.chg (chg_setCell _ _ _ _) (fun k hk e => by have := hbs k hk; omega)).ext hE2
  have hEw : Ext w w2 := (hE.setCell (by show w.heap.size ≤ w.heap.size + 1 + 1; omega) _).trans hE2
  have hR0 : OwnRows w2 w.heap.size rv vs rs := hR.mono (by simp; omega)
  have hrb : (∀ k, rv.ownBlock = some k → w1.heap.size ≤ k) ∧ ∀ k, rowsB vs k → w1.heap.size ≤ k := ⟨fun k hk => by have := hR.lt.1 k hk; simpa using this.1, fun k hk => by have := hR.lt.2 k hk; simpa using this.1⟩
  clear hE2 hR k1 k2 k3
  obtain ⟨ar, cr, rfl, _⟩ := hR0.fr
  have k2 := cC2.at 2
  have k3 := cC2.fz 2
  simp only [List.getElem?_toArray, List.getElem?_cons_succ, List.getElem?_cons_zero] at k2
  have cC3 : Cells (w2.setCell ⟨w.heap.size + 1 + 1, 2, none⟩ (.slice ar rs.length cr)) (w.heap.size + 1 + 1) #[.int .i64 t, .slice ap ps.length cp, .slice ar rs.length cr] 25 := cC2.set _ _
  have cB3 : Cells (w2.setCell ⟨w.heap.size + 1 + 1, 2, none⟩ (.slice ar rs.length cr)) (w.heap.size + 1) #[.int .i64 0, .slice none 0 0, .slice none 0 0] 25 := cB2.other (by omega) _ _
  have b0 := cB3.at 0
  have b1 := cB3.at 1
  have b2 := cB3.at 2
  have z0 := cB3.fz 0
  have z1 := cB3.fz 1
  have z2 := cB3.fz 2
  simp only [List.getElem?_toArray, List.getElem?_cons_succ, List.getElem?_cons_zero] at b0 b1 b2
  have cB6 := ((cB3.set 0 (.int .i64 t)).set 1 (.slice ap ps.length cp)).set 2 (.slice ar rs.length cr)
  have hc1 := chg_setCell w2 (w.heap.size + 1 + 1) 2 (.slice ar rs.length cr)
  have hc2 := ((chg_setCell (w2.setCell ⟨w.heap.size + 1 + 1, 2, none⟩ (.slice ar rs.length cr)) (w.heap.size + 1) 0 (.int .i64 t)).trans (chg_setCell _ (w.heap.size + 1) 1 (.slice ap ps.length cp))).trans (chg_setCell _ (w.heap.size + 1) 2 (.slice ar rs.length cr))
  go_wp2_with (first | (refine wpList_load_row rfl _ _ rfl _ rfl _ _ _ _ cC3 Try.underlying25 rfl infoG ?_))
  refine bodyPost_ret (results_cell_row rfl _ _ _ _ _ (0, 0) _ rfl cB6 Try.underlying25 rfl infoG) rfl ?_
  refine ⟨_, _, vs, rfl, ?_, ?_⟩
  · exact Chg.ext (Chg.ext hEw hc1 (fun k hk => by omega)) hc2 (fun k hk => by omega)
  · have hG : OwnG w2 w.heap.size (.slice ap ps.length cp) (.slice ar rs.length cr) vs ps rs := ⟨hP1, hR0, fun k hk => ⟨fun e => by have := hrb.1 k e; have := hbs k hk; omega, fun e => by have := hrb.2 k e; have := hbs k hk; omega⟩⟩
    have hne : ∀ k, gB (.slice ap ps.length cp) (.slice ar rs.length cr) vs k → w.heap.size + 1 + 1 + 1 ≤ k := fun k hk => by
      rcases hk with hk | hk | hk
      · have := hbs k hk; omega
      · have := hrb.1 k hk; omega
      · have := hrb.2 k hk; omega
    exact (hG.chg hc1 (fun k hk e => by have := hne k hk; omega)).chg hc2 (fun k hk e => by have := hne k hk; omega)

/-! ### The comparison -/
set_option maxHeartbeats 1000000 in
theorem eqFF_yes (ao bo : Option Addr) (ca cb : Nat) (rs qs : List (List Nat)) (w : World) (hx : RS w ao rs) (hy : RS w bo qs) (he : cls rs = cls qs) (hl : rs.length + tot rs ≤ 1048576) :
    Calls Try.prog 81 #[.slice ao rs.length ca, .slice bo qs.length cb] w (Gives (.bool true) w) := by
  obtain ⟨hlen, hrow⟩ := cls_rows he
  rw [← hlen]
  have HL := Lib.hid hlen
  clear hlen he
  go_enter Try.func81, Try.ntmps81
  go_wp2
  go_loopw [5] (fun i wr => ∃ k n : Nat, k ≤ rs.length ∧ i = .int .i64 k ∧ wr = w.drewN n) (fun i _ => rs.length - (intOf i).toNat)
  case atStart => exact ⟨0, 0, Nat.zero_le _, rfl, rfl⟩
  case round =>
    obtain ⟨k, n, hk, rfl, rfl⟩ := hrel
    by_cases hlt : k < rs.length
    · obtain ⟨b, off, ra, rc, rfl, hcell, hf⟩ := hx k hlt
      obtain ⟨b', off', ra', rc', rfl, hcell', hf'⟩ := hy k (by have := HL.out; omega)
      have h1 := row_tot rs k hlt
      have hr := hrow k
      go_wp2
      refine wp_region_mix (fun _ => Drawn w) (fun _ => false) (fun _ v => v = .bool true) (by kernel_rfl) (by kernel_rfl) (by kernel_rfl) (fun _ => drawn_more _) (fun _ => ⟨n, rfl⟩) (fun n0 => ?_)
      repeat (first
          | (refine lx_nil ?_; intro nq)
          | (refine lx_skip rfl ?_; go_simp)
          | (refine lx_move rfl rfl rfl rfl ?_; go_simp)
          | (refine lx_assign rfl rfl rfl rfl ?_; go_simp)
          | (refine lx_bin rfl rfl rfl rfl rfl rfl (by first | assumption | exact is_ofInt _ _ | exact is_self) (by first | assumption | exact is_ofInt _ _ | exact is_self) ?_; intro r hr; go_simp)
          | (refine lx_cmp rfl rfl rfl rfl rfl rfl (by first | assumption | exact is_ofInt _ _ | exact is_self) (by first | assumption | exact is_ofInt _ _ | exact is_self) (by first | assumption | rfl) ?_; go_simp)
          | (refine lx_widen rfl rfl rfl rfl (by first | exact rfl | kernel_rfl) (by kernel_rfl) (by first | assumption | exact is_ofInt _ _ | exact is_self) ?_; intro r hr; go_simp)
          | (refine lx_valD rfl rfl (fun nn => by go_simp; rfl) ?_; go_simp))
      refine lx_call (args := #[.slice ra (row rs k).length rc, .slice ra' (row qs k).length rc']) rfl rfl (fun w' hw' => by go_simp; try rfl) (fun w' hw' => (eqFloat32S_yes _ _ _ _ _ _ w' (by obtain ⟨m', rfl⟩ := hw'; exact hf.drewN _) (by obtain ⟨m', rfl⟩ := hw'; exact hf'.drewN _) hr (by omega)).mono fun e w'' ⟨h1, m, h2⟩ => ⟨_, h1, rfl, m, h2⟩) ?_
      rintro _ rfl
      go_simp
      repeat (first
          | (refine lx_nil ?_; intro nq)
          | (refine lx_skip rfl ?_; go_simp)
          | (refine lx_move rfl rfl rfl rfl ?_; go_simp)
          | (refine lx_assign rfl rfl rfl rfl ?_; go_simp)
          | (refine lx_bin rfl rfl rfl rfl rfl rfl (by first | assumption | exact is_ofInt _ _ | exact is_self) (by first | assumption | exact is_ofInt _ _ | exact is_self) ?_; intro r hr; go_simp)
          | (refine lx_cmp rfl rfl rfl rfl rfl rfl (by first | assumption | exact is_ofInt _ _ | exact is_self) (by first | assumption | exact is_ofInt _ _ | exact is_self) (by first | assumption | rfl) ?_; go_simp)
          | (refine lx_widen rfl rfl rfl rfl (by first | exact rfl | kernel_rfl) (by kernel_rfl) (by first | assumption | exact is_ofInt _ _ | exact is_self) ?_; intro r hr; go_simp)
          | (refine lx_valD rfl rfl (fun nn => by go_simp; rfl) ?_; go_simp))
      go_wp2
      go_roundw
      case rel => exact ⟨k + 1, _, by omega, by go_num, rfl⟩
      case measure => simp [intOf]; omega
    · go_wp2
      go_ret
      exact ⟨rfl, _, rfl⟩
theorem eqGather_yes (t : Int) (pa : Option Addr) (pc : Nat) (ps : List Nat) (ra : Option Addr) (rc : Nat) (rs : List (List Nat)) (qa : Option Addr) (qc : Nat) (qs : List Nat) (sa : Option Addr) (sc : Nat) (ss : List (List Nat)) (w : World)
    (hp : FR w pa ps) (hr : RS w ra rs) (hq : FR w qa qs) (hs : RS w sa ss) (e1 : cl ps = cl qs) (e2 : cls rs = cls ss) (hl : ps.length + (rs.length + tot rs) ≤ 1048576) :
    Calls Try.prog 23 #[.agg #[.int .i64 t, .slice pa ps.length pc, .slice ra rs.length rc], .agg #[.int .i64 t, .slice qa qs.length qc, .slice sa ss.length sc]] w (GivesE (.bool true) w) := by
  go_enter Try.func23, Try.ntmps23
  go_wp2_with (first | (go_at_call 24; refine (eqFloat32S_yes _ _ _ _ _ _ _ (hp.ext (by repeat (first | assumption | exact Ext.refl _ | apply Ext.drewN | apply Ext.alloc | (refine Ext.setCell ?_ (by first | assumption | exact Nat.le_refl _) _)))) (hq.ext (by repeat (first | assumption | exact Ext.refl _ | apply Ext.drewN | apply Ext.alloc | (refine Ext.setCell ?_ (by first | assumption | exact Nat.le_refl _) _)))) e1 (by omega)).mono ?_; rintro _ _ ⟨rfl, n1, rfl⟩) | (go_at_call 81; refine (eqFF_yes _ _ _ _ _ _ _ (hr.ext (by repeat (first | assumption | exact Ext.refl _ | apply Ext.drewN | apply Ext.alloc | (refine Ext.setCell ?_ (by first | assumption | exact Nat.le_refl _) _)))) (hs.ext (by repeat (first | assumption | exact Ext.refl _ | apply Ext.drewN | apply Ext.alloc | (refine Ext.setCell ?_ (by first | assumption | exact Nat.le_refl _) _)))) e2 (by omega)).mono ?_; rintro _ _ ⟨rfl, n2, rfl⟩))
  go_ret
  exact ⟨rfl, (by repeat (first | assumption | exact Ext.refl _ | apply Ext.drewN | apply Ext.alloc | (refine Ext.setCell ?_ (by first | assumption | exact Nat.le_refl _) _)))⟩

/-! ### The marks -/
def markRows (m : Int) (rs : List (List Nat)) : List (List Nat) := (List.range rs.length).map fun i => marks (m + (tot (rs.take i) : Int)) (row rs i).length
theorem markRows_len (m : Int) (rs : List (List Nat)) : (markRows m rs).length = rs.length := by simp [markRows]
theorem row_markRows (m : Int) (rs : List (List Nat)) (i : Nat) (h : i < rs.length) : row (markRows m rs) i = marks (m + (tot (rs.take i) : Int)) (row rs i).length := by
  rw [row_eq (by rw [markRows_len]; exact h)]
  simp [markRows]
theorem row_split (a b : List (List Nat)) (k i : Nat) (hk : k ≤ a.length) (hb : b.length = a.length) : row (b.take k ++ a.drop k) i = if i < k then row b i else row a i := by
  unfold row
  by_cases h : i < k
  · rw [if_pos h]
    simp [List.getD, List.getElem?_append_left (show i < (b.take k).length by simp; omega), h]
  · rw [if_neg h]
    simp only [List.getD]
    rw [List.getElem?_append_right (by simp; omega), List.getElem?_drop]
    congr 2
    simp; omega
theorem OwnRows.remark {w w' : World} {base : Nat} {v : Value} {vs : List Value} {rs : List (List Nat)} {k : Nat} (h : OwnRows w base v vs rs) (hk : k < rs.length) {r : List Nat} (hg : w.grownBy w' (va vs k).ownBlock) (hu : OwnF w' base (va vs k) r) {qs : List (List Nat)} (hql : qs.length = rs.length) (hq : ∀ i, i ≠ k → row qs i = row rs i) (hqk : row qs k = r) :
    OwnRows w' base v vs qs ∧ Chg (rowsB vs) w w' := by
  obtain ⟨h1, h2, h3, h4, h5⟩ := h
  have hk' : k < vs.length := by omega
  have hc : Chg (fun m => (va vs k).ownBlock = some m) w w' := Chg.of_grown hg (fun m e => e)
  refine ⟨⟨by omega, ownsRow_chg h2 hc (fun m hm e => h4 k m hk' e hm), fun i hi => ?_, h4, h5⟩, hc.mono fun m hm => ⟨k, hk', hm⟩⟩
  by_cases hik : i = k
  · subst hik; rw [hqk]; exact hu
  · rw [hq i hik]
    exact (h3 i hi).chg hc (fun m hm e => h5 i k m hi hk' hik hm e)
set_option maxHeartbeats 1000000 in
theorem markFF_any (base : Nat) (v : Value) (vs : List Value) (rs : List (List Nat)) (m : Int) (w : World) (hown : OwnRows w base v vs rs) (hl : rs.length + tot rs ≤ 1048576) (h0 : 0 ≤ m) (h1 : m ≤ 100000000) :
    Calls Try.prog 82 #[v, .int .i64 m] w fun e w' => e = .returned (.int .i64 (m + (tot rs : Int))) ∧ Chg (rowsB vs) w w' ∧ OwnRows w' base v vs (markRows m rs) := by
  obtain ⟨ao, cap, rfl, _⟩ := hown.fr
  go_enter Try.func82, Try.ntmps82
  go_wp2
  go_loopw [1, 5] (fun q i wr => ∃ k : Nat, k ≤ rs.length ∧ i = .int .i64 k ∧ q = .int .i64 (m + (tot (rs.take k) : Int)) ∧ Chg (rowsB vs) w wr ∧ OwnRows wr base (.slice ao rs.length cap) vs ((markRows m rs).take k ++ rs.drop k)) (fun _ i _ => rs.length - (intOf i).toNat)
  case atStart => exact ⟨0, Nat.zero_le _, rfl, by simp [tot], Chg.refl _ _, by simpa using hown⟩
  case round =>
    obtain ⟨k, hk, rfl, rfl, hE, hO⟩ := hrel
    clear hown
    by_cases hlt : k < rs.length
    · have hlen : ((markRows m rs).take k ++ rs.drop k).length = rs.length := by simp [markRows_len]; omega
      have hvl : vs.length = rs.length := by rw [hO.1, hlen]
      have hrk : row ((markRows m rs).take k ++ rs.drop k) k = row rs k := by rw [row_split _ _ _ _ hk (markRows_len _ _), if_neg (by omega)]
      have hu := hO.2.2.1 k (by omega)
      rw [hrk] at hu
      obtain ⟨g, rfl, _, hgl, hcur, hfz⟩ := hO.at (k := k) (by rw [hlen]; exact hlt)
      have ht := tot_take rs k hlt
      have ht2 := tot_le rs (k + 1)
      obtain ⟨ua, uc, hua, _⟩ := hu.fr
      have hcur2 := hcur
      rw [hua] at hcur2
      have hu2 := hu
      rw [hua] at hu2
      have HU := Lib.hid hua
      clear hua hcur hu
      go_wp2_with fail
      go_at_call 25; refine (markFloat32S_any _ _ _ _ _ hu2 (by omega) (by omega) (by omega)).mono ?_; rintro _ w2 ⟨rfl, hg, hm⟩
      rw [← HU.out] at hg hm
      have hre := hO.remark (k := k) (by rw [hlen]; exact hlt) hg hm (qs := (markRows m rs).take (k + 1) ++ rs.drop (k + 1)) (by simp [markRows_len]; omega)
        (fun i hi => by
          rw [row_split _ _ _ _ (by omega) (markRows_len _ _), row_split _ _ _ _ hk (markRows_len _ _)]
          by_cases h : i < k
          · rw [if_pos h, if_pos (by omega)]
          · rw [if_neg h, if_neg (by omega)])
        (by rw [row_split _ _ _ _ (by omega) (markRows_len _ _), if_pos (by omega), row_markRows _ _ _ hlt])
      have HO := Lib.hid hre.1
      have HE := Lib.hid (hE.trans hre.2)
      clear hre hO hE hg hm
      go_wp2
      go_roundw
      case rel => exact ⟨k + 1, by omega, by go_num, by rw [ht]; go_num, HE.out, HO.out⟩
      case measure => simp [intOf]; omega
    · obtain rfl : k = rs.length := by omega
      rw [List.take_length]
      go_wp2
      go_ret
      refine ⟨rfl, hE, ?_⟩
      rw [List.take_of_length_le (by rw [markRows_len]; exact Nat.le_refl _), List.drop_length, List.append_nil] at hO
      exact hO
set_option maxHeartbeats 1000000 in
theorem heldFF_any (ao : Option Addr) (cap : Nat) (rs : List (List Nat)) (m : Int) (w : World) (hr : RS w ao (markRows m rs)) (hl : rs.length + tot rs ≤ 1048576) (h0 : 0 ≤ m) (h1 : m ≤ 100000000) :
    Calls Try.prog 83 #[.slice ao rs.length cap, .int .i64 m] w fun e w' => e = .returned (.int .i64 (m + (tot rs : Int))) ∧ w = w' := by
  go_enter Try.func83, Try.ntmps83
  go_wp2
  go_loop [1, 5] (fun q i => ∃ k : Nat, k ≤ rs.length ∧ i = .int .i64 k ∧ q = .int .i64 (m + (tot (rs.take k) : Int))) (fun _ i => rs.length - (intOf i).toNat)
  case atStart => exact ⟨0, Nat.zero_le _, rfl, by simp [tot]⟩
  case round =>
    obtain ⟨k, hk, rfl, rfl⟩ := hrel
    by_cases hlt : k < rs.length
    · obtain ⟨b, off, ra, rc, rfl, hcell, hf⟩ := hr k (by rw [markRows_len]; exact hlt)
      rw [row_markRows _ _ _ hlt, marks_length] at hcell
      rw [row_markRows _ _ _ hlt] at hf
      have ht := tot_take rs k hlt
      have ht2 := tot_le rs (k + 1)
      go_wp2_with (go_at_call 33; refine (heldFloat32S_any _ _ _ _ _ hf (by omega) (by omega) (by omega)).mono ?_; rintro _ _ ⟨rfl, rfl⟩)
      go_roundw
      case rel => exact ⟨k + 1, by omega, by go_num, by rw [ht]; go_num⟩
      case measure => simp [intOf]; omega
    · obtain rfl : k = rs.length := by omega
      rw [List.take_length]
      go_wp2
      go_ret
      exact ⟨rfl, rfl⟩
def markG1 (m : Int) (ps : List Nat) : List Nat := marks m ps.length
theorem markGather_any (t : Int) (base : Nat) (pv rv : Value) (vs : List Value) (ps : List Nat) (rs : List (List Nat)) (m : Int) (w : World) (hown : OwnG w base pv rv vs ps rs) (hl : ps.length + (rs.length + tot rs) ≤ 1048576) (h0 : 0 ≤ m) (h1 : m ≤ 10000000) :
    Calls Try.prog 26 #[.agg #[.int .i64 t, pv, rv], .int .i64 m] w fun e w' => e = .returned (.int .i64 (m + (ps.length : Int) + (tot rs : Int))) ∧ Chg (gB pv rv vs) w w' ∧ OwnG w' base pv rv vs (marks m ps.length) (markRows (m + (ps.length : Int)) rs) := by
  obtain ⟨hP, hR, hD⟩ := hown
  obtain ⟨ap, cp, rfl, _⟩ := hP.fr
  obtain ⟨ar, cr, rfl, _⟩ := hR.fr
  have hlt := OwnG.lt ⟨hP, hR, hD⟩
  go_enter Try.func26, Try.ntmps26
  go_wp2_with fail
  generalize hA : w.alloc (.cells #[.int .i64 t, .slice ap ps.length cp, .slice ar rs.length cr] 25) = w0
  have hE0 : Ext w w0 := by rw [← hA]; exact (Ext.refl w).alloc _
  have c0 : Cells w0 w.heap.size #[.int .i64 t, .slice ap ps.length cp, .slice ar rs.length cr] 25 := by rw [← hA]; exact Cells.new _ _ _
  go_at_call 25; refine (markFloat32S_any _ _ _ _ _ (hP.ext hE0) (by omega) (by omega) (by omega)).mono ?_; rintro _ w1 ⟨rfl, hg, hP1⟩
  have hc : Chg (fun k => (Value.slice ap ps.length cp).ownBlock = some k) w0 w1 := Chg.of_grown hg (fun k e => e)
  have c1 : Cells w1 w.heap.size #[.int .i64 t, .slice ap ps.length cp, .slice ar rs.length cr] 25 := (hc.block _ c0.lt (fun e => by have := (hlt _ (.inl e)).2; omega)).trans c0
  have hR1 := (hR.ext hE0).chg hc (fun k hk e => (hD k e).1 hk) (fun k hk e => (hD k e).2 hk)
  have hcell := c1.at 2
  simp only [List.getElem?_toArray, List.getElem?_cons_succ, List.getElem?_cons_zero] at hcell
  go_wp2_with fail
  go_at_call 82; refine (markFF_any _ _ _ _ _ _ hR1 (by omega) (by omega) (by omega)).mono ?_; rintro _ w2 ⟨rfl, hc2, hR2⟩
  go_wp2
  go_ret
  exact ⟨rfl, (Chg.of_ext hE0).mono (fun _ h => h.elim) |>.trans ((hc.mono fun k hk => .inl hk).trans (hc2.mono fun k hk => .inr (.inr hk))), hP1.chg hc2 (fun k hk e => (hD k hk).2 e), hR2, hD⟩
theorem heldGather_any (t : Int) (base : Nat) (ap ar : Option Addr) (cp cr : Nat) (vs : List Value) (ps : List Nat) (rs : List (List Nat)) (m : Int) (w : World) (hown : OwnG w base (.slice ap ps.length cp) (.slice ar rs.length cr) vs (marks m ps.length) (markRows (m + (ps.length : Int)) rs)) (hl : ps.length + (rs.length + tot rs) ≤ 1048576) (h0 : 0 ≤ m) (h1 : m ≤ 10000000) :
    Calls Try.prog 27 #[.agg #[.int .i64 t, .slice ap ps.length cp, .slice ar rs.length cr], .int .i64 m] w fun e w' => e = .returned (.int .i64 (m + (ps.length : Int) + (tot rs : Int))) ∧ Ext w w' := by
  have hP := hown.fp
  have hR := hown.fs
  go_enter Try.func27, Try.ntmps27
  go_wp2_with (first | (go_at_call 33; refine (heldFloat32S_any _ _ _ _ _ (hP.ext (by repeat (first | assumption | exact Ext.refl _ | apply Ext.drewN | apply Ext.alloc | (refine Ext.setCell ?_ (by first | assumption | exact Nat.le_refl _) _)))) (by omega) (by omega) (by omega)).mono ?_; rintro _ _ ⟨rfl, rfl⟩) | (go_at_call 83; refine (heldFF_any _ _ _ _ _ (hR.ext (by repeat (first | assumption | exact Ext.refl _ | apply Ext.drewN | apply Ext.alloc | (refine Ext.setCell ?_ (by first | assumption | exact Nat.le_refl _) _)))) (by omega) (by omega) (by omega)).mono ?_; rintro _ _ ⟨rfl, rfl⟩))
  go_ret
  exact ⟨rfl, (by repeat (first | assumption | exact Ext.refl _ | apply Ext.drewN | apply Ext.alloc | (refine Ext.setCell ?_ (by first | assumption | exact Nat.le_refl _) _)))⟩
end Go.Proofs.Ytnjgcacnfobmiaa
