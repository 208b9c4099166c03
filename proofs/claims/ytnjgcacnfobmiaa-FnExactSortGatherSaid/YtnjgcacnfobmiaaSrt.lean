/- SortGather: the plain law of the insertion sort. -/
import Derived.Test.YtnjgcacnfobmiaaKLen
namespace Go.Proofs.Ytnjgcacnfobmiaa
open Go.RowKit
set_option maxRecDepth 100000
set_option linter.unusedVariables false

/-- Numbers j + 1 and j swapped. -/
def swp {α : Type} [Inhabited α] (L : List α) (j : Nat) : List α := (L.set (j + 1) (elv L j)).set j (elv L (j + 1))
theorem swp_len {α : Type} [Inhabited α] (L : List α) (j : Nat) : (swp L j).length = L.length := by simp [swp]
def trj (j m : Nat) : Nat := if m = j then j + 1 else if m = j + 1 then j else m
theorem trj_inj {j m n : Nat} (h : trj j m = trj j n) : m = n := by
  unfold trj at h
  by_cases h1 : m = j <;> by_cases h2 : m = j + 1 <;> by_cases h3 : n = j <;> by_cases h4 : n = j + 1 <;> simp [h1, h2, h3, h4] at h <;> omega
theorem trj_lt {j m n : Nat} (hj : j + 1 < n) (h : m < n) : trj j m < n := by
  unfold trj
  split
  · omega
  · split <;> omega
theorem elv_swp {α : Type} [Inhabited α] (L : List α) (j m : Nat) (h : j + 1 < L.length) : elv (swp L j) m = elv L (trj j m) := by
  unfold swp trj
  rw [elv_set _ _ _ _ (by simp; omega), elv_set _ _ _ _ (by omega)]
  by_cases h1 : m = j
  · subst h1; rw [if_pos rfl, if_pos rfl]
  · rw [if_neg (Ne.symm h1), if_neg h1]
    by_cases h2 : m = j + 1
    · subst h2; rw [if_pos rfl, if_pos rfl]
    · rw [if_neg (Ne.symm h2), if_neg h2]
def ltK (ps : List Nat) (a b : Nat) : Bool := fcmp .lss .f32 (el ps a) (el ps b)
/-- Number j walks down. -/
def insK (ps : List Nat) : Nat → List Nat → List Nat
  | 0, L => L
  | j + 1, L => if ltK ps (elv L (j + 1)) (elv L j) then insK ps j (swp L j) else L
/-- The first k numbers are in order. -/
def sortK (ps : List Nat) (L : List Nat) : Nat → List Nat
  | 0 => L
  | k + 1 => insK ps k (sortK ps L k)
theorem insK_len (ps : List Nat) : ∀ (j : Nat) (L : List Nat), (insK ps j L).length = L.length
  | 0, _ => rfl
  | j + 1, L => by
    unfold insK
    split
    · rw [insK_len ps j, swp_len]
    · rfl
theorem sortK_len (ps L : List Nat) : ∀ k, (sortK ps L k).length = L.length
  | 0 => rfl
  | k + 1 => by unfold sortK; rw [insK_len, sortK_len ps L k]
def below (L : List Nat) (n : Nat) : Prop := ∀ i, i < L.length → elv L i < n
theorem below_swp {L : List Nat} {n j : Nat} (h : below L n) (hj : j + 1 < L.length) : below (swp L j) n := fun i hi => by
  rw [swp_len] at hi
  rw [elv_swp _ _ _ hj]
  exact h _ (trj_lt hj hi)
theorem below_insK (ps : List Nat) (n : Nat) : ∀ (j : Nat) (L : List Nat), j < L.length → below L n → below (insK ps j L) n
  | 0, _, _, h => h
  | j + 1, L, hj, h => by
    unfold insK
    split
    · exact below_insK ps n j _ (by rw [swp_len]; omega) (below_swp h hj)
    · exact h
theorem below_sortK (ps L : List Nat) (n : Nat) (h : below L n) : ∀ k, k ≤ L.length → below (sortK ps L k) n
  | 0, _ => h
  | k + 1, hk => by
    unfold sortK
    exact below_insK ps n k _ (by rw [sortK_len]; omega) (below_sortK ps L n h k (by omega))
theorem insK_stop {ps L : List Nat} {j : Nat} (h : ltK ps (elv L (j + 1)) (elv L j) = false) : insK ps (j + 1) L = L := by
  unfold insK; rw [h]; rfl
theorem insK_go {ps L : List Nat} {j : Nat} (h : ltK ps (elv L (j + 1)) (elv L j) = true) : insK ps (j + 1) L = insK ps j (swp L j) := by
  rw [insK, h]; rfl
theorem below_range (n : Nat) : below (List.range n) n := fun i hi => by
  rw [elv_eq hi]; simp at hi ⊢; exact hi
def ordK (ps : List Nat) : List Nat := sortK ps (List.range ps.length) ps.length
theorem ordK_len (ps : List Nat) : (ordK ps).length = ps.length := by unfold ordK; rw [sortK_len, List.length_range]
theorem ordK_lt (ps : List Nat) : below (ordK ps) ps.length := below_sortK ps _ _ (below_range _) _ (by rw [List.length_range]; omega)
def sortO (t : Int) (ps : List Nat) (rs : List (List Nat)) : Option (Int × List Nat × List (List Nat)) :=
  if gOk t ps rs then some (t, pick (ordK ps) ps, pickR (ordK ps) rs) else none
theorem el_pick {L ps : List Nat} {k : Nat} (h : k < L.length) : el (pick L ps) k = el ps (elv L k) := by
  unfold pick
  rw [elv_eq h]
  simp [el, List.getD, h]
theorem row_pickR {L : List Nat} {rs : List (List Nat)} {k : Nat} (h : k < L.length) : row (pickR L rs) k = row rs (elv L k) := by
  unfold pickR
  rw [elv_eq h]
  simp [row, List.getD, h]
theorem va_pickV {L : List Nat} {vs : List Value} {k : Nat} (h : k < L.length) : va (pickV L vs) k = va vs (elv L k) := by
  unfold pickV
  rw [elv_eq h]
  simp [va, List.getD, h]
theorem pickV_len (L : List Nat) (vs : List Value) : (pickV L vs).length = L.length := by simp [pickV]
theorem pick_swp (L ps : List Nat) (j : Nat) (h : j + 1 < L.length) : pick (swp L j) ps = ((pick L ps).set (j + 1) (el (pick L ps) j)).set j (el (pick L ps) (j + 1)) := by
  rw [el_pick h, el_pick (by omega)]
  unfold pick swp
  rw [List.map_set, List.map_set]
theorem pickR_swp (L : List Nat) (rs : List (List Nat)) (j : Nat) (h : j + 1 < L.length) : pickR (swp L j) rs = ((pickR L rs).set (j + 1) (row (pickR L rs) j)).set j (row (pickR L rs) (j + 1)) := by
  rw [row_pickR h, row_pickR (by omega)]
  unfold pickR swp
  rw [List.map_set, List.map_set]
theorem pickV_swp (L : List Nat) (vs : List Value) (j : Nat) (h : j + 1 < L.length) : pickV (swp L j) vs = ((pickV L vs).set (j + 1) (va (pickV L vs) j)).set j (va (pickV L vs) (j + 1)) := by
  rw [va_pickV h, va_pickV (by omega)]
  unfold pickV swp
  rw [List.map_set, List.map_set]
theorem map_range_self {α : Type} (n : Nat) (xs : List α) (f : Nat → α) (hl : xs.length = n) (h : ∀ i (hi : i < xs.length), f i = xs[i]) : (List.range n).map f = xs := by
  apply List.ext_getElem
  · simp [hl]
  · intro i h1 h2
    simp [h i h2]
theorem pick_range (ps : List Nat) : pick (List.range ps.length) ps = ps := map_range_self _ _ _ rfl (fun i hi => el_eq hi)
theorem pickR_range (rs : List (List Nat)) (n : Nat) (h : rs.length = n) : pickR (List.range n) rs = rs := map_range_self _ _ _ h (fun i hi => row_eq hi)
theorem pickV_range (vs : List Value) (n : Nat) (h : vs.length = n) : pickV (List.range n) vs = vs := map_range_self _ _ _ h (fun i hi => va_eq hi)
theorem gOk_pick {t : Int} {P : List Nat} {R : List (List Nat)} (h : gOk t P R = true) (L : List Nat) (hl : L.length = P.length) (hb : below L P.length) : gOk t (pick L P) (pickR L R) = true := by
  unfold gOk plB at h ⊢
  simp only [Bool.and_eq_true, decide_eq_true_eq] at h ⊢
  obtain ⟨⟨⟨h1, h2, h3⟩, h4⟩, h5⟩ := h
  refine ⟨⟨⟨h1, by rw [pick_length, hl]; exact h2, ?_⟩, by rw [pickR_length, pick_length]⟩, ?_⟩
  · rw [pick_length]
    unfold allP at h3 ⊢
    rw [List.all_eq_true] at h3 ⊢
    intro i hi
    rw [List.mem_range] at hi
    rw [el_pick hi]
    exact h3 _ (List.mem_range.2 (hb i hi))
  · rw [pickR_length]
    unfold lenB at h5 ⊢
    rw [List.all_eq_true] at h5 ⊢
    intro i hi
    rw [List.mem_range] at hi
    rw [row_pickR hi]
    exact h5 _ (List.mem_range.2 (by rw [h4]; exact hb i hi))
/-- A place is stored in the box's places. -/
theorem gbox_putP {w : World} {base g b n c : Nat} {t : Int} {rv : Value} {vs : List Value} {ps : List Nat} {rs : List (List Nat)} (h : GBox w base g t (.slice (some ⟨b, 0, none⟩) n c) rv vs ps rs) (j r : Nat) :
    GBox (w.setCell ⟨b, j, none⟩ (.float .f32 r)) base g t (.slice (some ⟨b, 0, none⟩) n c) rv vs (ps.set j r) rs := by
  have hch := chg_setCell w b j (.float .f32 r)
  have hb : gB (.slice (some ⟨b, 0, none⟩) n c) rv vs b := .inl rfl
  exact ⟨(hch.block g h.lt (fun e => (h.2.2.2 b hb) e.symm)).trans h.1, h.2.1, ⟨(h.places.stored j r).1, h.rows.chg hch (fun q hq e => (h.own.2.2 b rfl).1 (by rw [← (show q = b from e)]; exact hq)) (fun q hq e => (h.own.2.2 b rfl).2 (by rw [← (show q = b from e)]; exact hq)), h.own.2.2⟩, h.2.2.2⟩
def swV (vs : List Value) (j : Nat) : List Value := (vs.set (j + 1) (va vs j)).set j (va vs (j + 1))
def swR (rs : List (List Nat)) (j : Nat) : List (List Nat) := (rs.set (j + 1) (row rs j)).set j (row rs (j + 1))
theorem va_swV (vs : List Value) (j m : Nat) (h : j + 1 < vs.length) : va (swV vs j) m = va vs (trj j m) := by
  unfold swV trj
  rw [va_set _ (by simp; omega), va_set _ (by omega)]
  by_cases h1 : m = j
  · subst h1; rw [if_pos rfl, if_pos rfl]
  · rw [if_neg (Ne.symm h1), if_neg h1]
    by_cases h2 : m = j + 1
    · subst h2; rw [if_pos rfl, if_pos rfl]
    · rw [if_neg (Ne.symm h2), if_neg h2]
theorem row_swR (rs : List (List Nat)) (j m : Nat) (h : j + 1 < rs.length) : row (swR rs j) m = row rs (trj j m) := by
  unfold swR trj
  rw [row_set _ (by simp; omega), row_set _ (by omega)]
  by_cases h1 : m = j
  · subst h1; rw [if_pos rfl, if_pos rfl]
  · rw [if_neg (Ne.symm h1), if_neg h1]
    by_cases h2 : m = j + 1
    · subst h2; rw [if_pos rfl, if_pos rfl]
    · rw [if_neg (Ne.symm h2), if_neg h2]
theorem swV_len (vs : List Value) (j : Nat) : (swV vs j).length = vs.length := by simp [swV]
theorem swR_len (rs : List (List Nat)) (j : Nat) : (swR rs j).length = rs.length := by simp [swR]
/-- Two rows of the box have been swapped. -/
theorem gbox_swap {w w2 : World} {base g b n c j : Nat} {t : Int} {pv : Value} {vs : List Value} {ps : List Nat} {rs : List (List Nat)} (h : GBox w base g t pv (.slice (some ⟨b, 0, none⟩) n c) vs ps rs) (hC : Chg (fun q => q = b) w w2) (hj : j + 1 < rs.length)
    (hV : w2.ownsRow base 22 1 (.slice (some ⟨b, 0, none⟩) n c) vs.length (swV vs j)) : GBox w2 base g t pv (.slice (some ⟨b, 0, none⟩) n c) (swV vs j) ps (swR rs j) := by
  obtain ⟨k1, k2, k3, k4, k5⟩ := h.rows
  have hb : gB pv (.slice (some ⟨b, 0, none⟩) n c) vs b := .inr (.inl rfl)
  have hvl : j + 1 < vs.length := by omega
  have hB : ∀ q, rowsB (swV vs j) q → rowsB vs q := fun q ⟨i, hi, e⟩ => by
    rw [swV_len] at hi
    rw [va_swV _ _ _ hvl] at e
    exact ⟨trj j i, trj_lt hvl hi, e⟩
  refine ⟨(hC.block g h.lt (fun e => (h.2.2.2 b hb) e.symm)).trans h.1, h.2.1, ⟨h.places.chg hC (fun q hq e => (h.own.2.2 q hq).1 (by rw [show q = b from e]; rfl)), ⟨by rw [swV_len, swR_len]; exact k1, by rw [swV_len]; exact hV, fun i hi => ?_, fun i k hi e => ?_, fun i m k hi hm hne e => ?_⟩, fun q hq => ⟨(h.own.2.2 q hq).1, fun e => (h.own.2.2 q hq).2 (hB q e)⟩⟩, fun k hk => ?_⟩
  · rw [swV_len] at hi
    rw [va_swV _ _ _ hvl, row_swR _ _ _ hj]
    exact (k3 _ (trj_lt hvl hi)).chg hC (fun q hq e => k4 _ q (trj_lt hvl hi) hq (by rw [show q = b from e]; rfl))
  · rw [swV_len] at hi
    rw [va_swV _ _ _ hvl] at e
    exact k4 _ k (trj_lt hvl hi) e
  · rw [swV_len] at hi hm
    rw [va_swV _ _ _ hvl] at e ⊢
    exact k5 _ _ k (trj_lt hvl hi) (trj_lt hvl hm) (fun e' => hne (trj_inj e')) e
  · rcases hk with e | e | e
    · exact h.2.2.2 k (.inl e)
    · exact h.2.2.2 k (.inr (.inl e))
    · exact h.2.2.2 k (.inr (.inr (hB k e)))
theorem sortO_eq (t : Int) (P : List Nat) (R : List (List Nat)) : sortO t P R = if gOk t P R then chosenO t P R (ordK P) else none := by
  unfold sortO chosenO
  split
  · rename_i h
    rw [gOk_pick h _ (ordK_len P) (ordK_lt P)]
    rfl
  · rfl
theorem sortO_len (t : Int) (P : List Nat) (R : List (List Nat)) : (((sortO t P R).map (·.2.1)).getD []).length + ((((sortO t P R).map (·.2.2)).getD []).length + tot (((sortO t P R).map (·.2.2)).getD [])) ≤ 1048576 := by
  rw [sortO_eq]
  split
  · exact chosenO_len _ _ _ _
  · simp [tot]
end Go.Proofs.Ytnjgcacnfobmiaa
