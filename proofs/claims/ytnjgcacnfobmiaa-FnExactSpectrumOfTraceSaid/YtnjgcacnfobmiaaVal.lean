/- The exact values of floats, and what rounding keeps: order, bounds, exactness. -/
import Derived.Test.YtnjgcacnfobmiaaFlw
namespace Go.Proofs.Ytnjgcacnfobmiaa
open Ieee

/-! ### Rounding to the nearest, on natural numbers -/
def rne (n g : Nat) : Nat := n / g + (decide (g < 2 * (n % g)) || (g == 2 * (n % g) && n / g % 2 == 1)).toNat

theorem toNat_mono : ∀ a b : Bool, (a = true → b = true) → a.toNat ≤ b.toNat := by intro a b; cases a <;> cases b <;> simp
theorem rne_mono {n n' g : Nat} (h : n ≤ n') : rne n g ≤ rne n' g := by
  unfold rne
  have h1 := Nat.div_le_div_right (c := g) h
  rcases Nat.lt_or_ge (n / g) (n' / g) with h2 | h2
  · have h3 : ∀ b : Bool, b.toNat ≤ 1 := fun b => by cases b <;> decide
    have := h3 (decide (g < 2 * (n % g)) || (g == 2 * (n % g) && n / g % 2 == 1))
    omega
  · have h3 : n / g = n' / g := by omega
    have h4 : n % g ≤ n' % g := by
      have a := Nat.div_add_mod n g
      have b := Nat.div_add_mod n' g
      rw [h3] at a
      omega
    rw [h3]
    apply Nat.add_le_add_left
    apply toNat_mono
    simp only [Bool.or_eq_true, decide_eq_true_eq, Bool.and_eq_true, beq_iff_eq]
    omega
theorem rne_exact {g : Nat} (hg : 0 < g) (q : Nat) : rne (q * g) g = q := by
  unfold rne
  rw [Nat.mul_div_cancel _ hg, Nat.mul_mod_left]
  have h1 : decide (g < 2 * 0) = false := by simp
  have h2 : (g == 2 * 0) = false := by simp; omega
  rw [h1, h2]; simp
theorem rne_scale {c : Nat} (hc : 0 < c) (n g : Nat) : rne (n * c) (g * c) = rne n g := by
  unfold rne
  rw [Nat.mul_div_mul_right _ _ hc, Nat.mul_mod_mul_right]
  congr 2
  have e : 2 * (n % g * c) = (2 * (n % g)) * c := by rw [Nat.mul_assoc]
  rw [e]
  congr 1
  · simp [Nat.mul_lt_mul_right hc]
  · congr 1
    rw [Bool.eq_iff_iff]
    simp only [beq_iff_eq]
    exact ⟨fun h => Nat.eq_of_mul_eq_mul_right hc h, fun h => congrArg (· * c) h⟩
theorem rne_le {n g q : Nat} (hg : 0 < g) (h : n ≤ q * g) : rne n g ≤ q := by
  have := rne_mono (g := g) h; rwa [rne_exact hg] at this
theorem le_rne {n g q : Nat} (hg : 0 < g) (h : q * g ≤ n) : q ≤ rne n g := by
  have := rne_mono (g := g) h; rwa [rne_exact hg] at this
theorem cut_rne (s : Bool) (n d : Nat) : Toward.even.cut s n d = rne n (2 ^ d) := by
  unfold Toward.cut
  simp only [Nat.one_shiftLeft]
  by_cases h : d ≤ n.log2 + 2
  · rw [Nat.min_eq_left h]; rfl
  · rw [Nat.min_eq_right (by omega)]
    have h1 : n < 2 ^ (n.log2 + 1) := Nat.lt_log2_self
    have h2 : 2 ^ (n.log2 + 2) = 2 * 2 ^ (n.log2 + 1) := by rw [Nat.pow_succ]; omega
    have h3 : 2 ^ (n.log2 + 2) ≤ 2 ^ d := Nat.pow_le_pow_right (by omega) (by omega)
    unfold rne
    rw [Nat.div_eq_of_lt (show n < 2 ^ (n.log2 + 2) by omega), Nat.mod_eq_of_lt (show n < 2 ^ (n.log2 + 2) by omega), Nat.div_eq_of_lt (show n < 2 ^ d by omega), Nat.mod_eq_of_lt (show n < 2 ^ d by omega)]
    have a1 : decide (2 ^ (n.log2 + 2) < 2 * n) = false := by simp; omega
    have a2 : (2 ^ (n.log2 + 2) == 2 * n) = false := by simp; omega
    have a3 : decide (2 ^ d < 2 * n) = false := by simp; omega
    have a4 : (2 ^ d == 2 * n) = false := by simp; omega
    rw [a1, a2, a3, a4]

def rg (F D N : Nat) : Nat := (max (N.log2 - F) D - D) * 2 ^ F + rne N (2 ^ max (N.log2 - F) D)
theorem log2_mono {n m : Nat} (h : n ≤ m) : n.log2 ≤ m.log2 := by
  by_cases hn : n = 0
  · subst hn; simp
  · rw [Nat.le_log2 (by omega)]
    exact Nat.le_trans (Nat.log2_self_le hn) h
theorem rg_mono (F D : Nat) {N N' : Nat} (h : N ≤ N') : rg F D N ≤ rg F D N' := by
  unfold rg
  have hl := log2_mono h
  generalize hd : max (N.log2 - F) D = d
  generalize hd' : max (N'.log2 - F) D = d'
  rcases Nat.lt_or_ge d d' with h1 | h1
  · have hN' : N' ≠ 0 := by rintro rfl; simp at hl; rw [Nat.log2_zero] at hd'; omega
    have e1 : rne N (2 ^ d) ≤ 2 ^ (F + 1) := by
      refine rne_le (Nat.two_pow_pos _) ?_
      rw [← Nat.pow_add]
      have : N < 2 ^ (N.log2 + 1) := Nat.lt_log2_self
      have h3 : 2 ^ (N.log2 + 1) ≤ 2 ^ (F + 1 + d) := Nat.pow_le_pow_right (by omega) (by omega)
      omega
    have e2 : 2 ^ F ≤ rne N' (2 ^ d') := by
      refine le_rne (Nat.two_pow_pos _) ?_
      rw [← Nat.pow_add]
      have : 2 ^ N'.log2 ≤ N' := Nat.log2_self_le hN'
      have h3 : 2 ^ (F + d') ≤ 2 ^ N'.log2 := Nat.pow_le_pow_right (by omega) (by omega)
      omega
    obtain ⟨j, hj⟩ : ∃ j, d' - D = (d - D) + 1 + j := ⟨d' - D - (d - D) - 1, by omega⟩
    rw [hj, Nat.add_mul, Nat.add_mul, Nat.one_mul]
    rw [Nat.pow_succ] at e1
    omega
  · have h2 : d = d' := by omega
    subst h2
    have := rne_mono (g := 2 ^ d) h
    omega
theorem rg_zero (F D : Nat) : rg F D 0 = 0 := by
  unfold rg
  rw [Nat.log2_zero]
  have : max (0 - F) D = D := by omega
  rw [this]
  unfold rne
  simp

theorem log2_mul_pow {m : Nat} (h : m ≠ 0) (k : Nat) : (m * 2 ^ k).log2 = m.log2 + k := by
  have h0 : m * 2 ^ k ≠ 0 := Nat.mul_ne_zero h (Nat.ne_of_gt (Nat.two_pow_pos k))
  rw [Nat.log2_eq_iff h0]
  have h1 := Nat.log2_self_le h
  have h2 : m < 2 ^ (m.log2 + 1) := Nat.lt_log2_self
  constructor
  · rw [Nat.pow_add]; exact Nat.mul_le_mul_right _ h1
  · rw [show m.log2 + k + 1 = (m.log2 + 1) + k by omega, Nat.pow_add]
    exact Nat.mul_lt_mul_of_pos_right h2 (Nat.two_pow_pos _)

/-- 'm * 2 ^ e', times 2 ^ 4096. -/
def nv (m : Nat) (e : Int) : Nat := m * 2 ^ (e + 4096).toNat
/-- The rounded value. -/
def RR (f : Format) (N : Nat) : Nat := min (rg f.fractionBits (f.leastPlace + 4096).toNat N) f.infRung
theorem RR_mono (f : Format) {N N' : Nat} (h : N ≤ N') : RR f N ≤ RR f N' := by
  have := rg_mono f.fractionBits (f.leastPlace + 4096).toNat h
  unfold RR; omega
theorem RR_le (f : Format) (N : Nat) : RR f N ≤ f.infRung := Nat.min_le_right _ _
theorem RR_zero (f : Format) : RR f 0 = 0 := by unfold RR; rw [rg_zero]; simp
theorem nearest_RR (f : Format) (hf : -4096 ≤ f.leastPlace) (s : Bool) (m : Nat) (e : Int) (he : -4096 ≤ e) : f.nearest s m e = f.word s (RR f (nv m e)) := by
  unfold Format.nearest
  by_cases hm : m = 0
  · subst hm; simp [nv, RR_zero]
  · rw [if_neg hm]
    simp only [cut_rne, Nat.shiftLeft_eq]
    unfold RR rg nv
    rw [log2_mul_pow hm]
    congr 2
    generalize hk : (e + 4096).toNat = k
    generalize hD : (f.leastPlace + 4096).toNat = D
    generalize hd : max (m.log2 + k - f.fractionBits) D = d
    have hlast : max (e + (m.log2 : Int) - (f.fractionBits : Int)) f.leastPlace = (d : Int) - 4096 := by omega
    rw [hlast]
    have a1 : ((d : Int) - 4096 - f.leastPlace).toNat = d - D := by omega
    have a2 : (e - ((d : Int) - 4096)).toNat = k - d := by omega
    have a3 : ((d : Int) - 4096 - e).toNat = d - k := by omega
    rw [a1, a2, a3]
    congr 1
    rcases Nat.le_total d k with h | h
    · have e1 : d - k = 0 := by omega
      rw [e1, ← rne_scale (Nat.two_pow_pos d) (m * 2 ^ (k - d)) (2 ^ 0), Nat.mul_assoc, ← Nat.pow_add, ← Nat.pow_add]
      congr 3 <;> omega
    · have e1 : k - d = 0 := by omega
      rw [e1, ← rne_scale (Nat.two_pow_pos k) (m * 2 ^ 0) (2 ^ (d - k)), Nat.mul_assoc, ← Nat.pow_add, ← Nat.pow_add]
      congr 3 <;> omega

/-- The value of rung r (times 2 ^ 4096). -/
def vg (F D r : Nat) : Nat := if r < 2 ^ F then r * 2 ^ D else (2 ^ F + r % 2 ^ F) * 2 ^ (D + (r / 2 ^ F - 1))
theorem rg_vg (F D r : Nat) : rg F D (vg F D r) = r := by
  have hF := Nat.two_pow_pos F
  unfold vg
  split
  · rename_i h
    by_cases h0 : r = 0
    · subst h0; simp [rg_zero]
    · unfold rg
      rw [log2_mul_pow h0]
      have hl : r.log2 < F := (Nat.log2_lt h0).2 h
      have e : max (r.log2 + D - F) D = D := by omega
      rw [e, rne_exact (Nat.two_pow_pos _)]
      simp
  · rename_i h
    have h1 : r % 2 ^ F < 2 ^ F := Nat.mod_lt _ hF
    have h2 : 2 ^ F + r % 2 ^ F ≠ 0 := by omega
    unfold rg
    rw [log2_mul_pow h2]
    have hl : (2 ^ F + r % 2 ^ F).log2 = F := by
      rw [Nat.log2_eq_iff h2, Nat.pow_succ]; omega
    have h3 : 1 ≤ r / 2 ^ F := (Nat.le_div_iff_mul_le hF).2 (by omega)
    have e : max (F + (D + (r / 2 ^ F - 1)) - F) D = D + (r / 2 ^ F - 1) := by omega
    rw [hl, e, rne_exact (Nat.two_pow_pos _), Nat.add_sub_cancel_left, Nat.sub_mul, Nat.one_mul]
    have h4 := Nat.div_add_mod r (2 ^ F)
    have h5 : 2 ^ F ≤ r / 2 ^ F * 2 ^ F := by
      have := Nat.mul_le_mul_right (2 ^ F) h3
      rwa [Nat.one_mul] at this
    rw [Nat.mul_comm] at h4
    omega
theorem vg_exact (F D c j : Nat) (hc : c < 2 ^ (F + 1)) (hj : D ≤ j) : vg F D (rg F D (c * 2 ^ j)) = c * 2 ^ j := by
  have hF := Nat.two_pow_pos F
  by_cases h0 : c = 0
  · subst h0; simp [rg_zero, vg, hF]
  · have hl : c.log2 < F + 1 := (Nat.log2_lt h0).2 hc
    have hlow := Nat.log2_self_le h0
    have hup : c < 2 ^ (c.log2 + 1) := Nat.lt_log2_self
    unfold rg
    rw [log2_mul_pow h0]
    generalize hd : max (c.log2 + j - F) D = d
    have hdj : d ≤ j := by omega
    have e : c * 2 ^ j = (c * 2 ^ (j - d)) * 2 ^ d := by rw [Nat.mul_assoc, ← Nat.pow_add]; congr 2; omega
    rw [e, rne_exact (Nat.two_pow_pos _)]
    have hq : c * 2 ^ (j - d) < 2 ^ (F + 1) := by
      refine Nat.lt_of_lt_of_le (Nat.mul_lt_mul_of_pos_right hup (Nat.two_pow_pos _)) ?_
      rw [← Nat.pow_add]
      exact Nat.pow_le_pow_right (by omega) (by omega)
    have hq2 : D < d → 2 ^ F ≤ c * 2 ^ (j - d) := fun hlt => by
      refine Nat.le_trans ?_ (Nat.mul_le_mul_right _ hlow)
      rw [← Nat.pow_add]
      exact Nat.pow_le_pow_right (by omega) (by omega)
    generalize c * 2 ^ (j - d) = q at hq hq2
    rw [Nat.pow_succ] at hq
    unfold vg
    rcases Nat.lt_or_ge q (2 ^ F) with h1 | h1
    · have hdD : d = D := by
        rcases Nat.lt_or_ge D d with h2 | h2
        · have := hq2 h2; omega
        · omega
      subst hdD
      rw [Nat.sub_self, Nat.zero_mul, Nat.zero_add, if_pos h1]
    · have hr : (d - D) * 2 ^ F + q = (q - 2 ^ F) + (d - D + 1) * 2 ^ F := by rw [Nat.add_mul, Nat.one_mul]; omega
      rw [if_neg (by omega), hr, Nat.add_mul_mod_self_right, Nat.mod_eq_of_lt (by omega), Nat.add_mul_div_right _ _ hF, Nat.div_eq_of_lt (by omega)]
      congr 1
      · omega
      · congr 1; omega
theorem vg_mono {F D r r' : Nat} (h : r ≤ r') : vg F D r ≤ vg F D r' := by
  rcases Nat.lt_or_ge (vg F D r') (vg F D r) with h1 | h1
  · have h2 := rg_mono F D (Nat.le_of_lt h1)
    rw [rg_vg, rg_vg] at h2
    have : r = r' := by omega
    subst this; omega
  · exact h1
theorem vg_lt {F D r r' : Nat} (h : r < r') : vg F D r < vg F D r' := by
  have h1 := vg_mono (F := F) (D := D) (Nat.le_of_lt h)
  rcases Nat.lt_or_eq_of_le h1 with h2 | h2
  · exact h2
  · have := congrArg (rg F D) h2
    rw [rg_vg, rg_vg] at this; omega

/-! ### Words -/
def inf (k : FloatKind) : Nat := k.format.infRung
def wt (k : FloatKind) : Nat := k.format.signWeight
def fs (k : FloatKind) (b : Nat) : Bool := b / wt k % 2 == 1
def mg (k : FloatKind) (b : Nat) : Nat := b % wt k
def mk (k : FloatKind) (s : Bool) (r : Nat) : Nat := k.format.word s r
def vl (k : FloatKind) (r : Nat) : Nat := vg k.format.fractionBits (k.format.leastPlace + 4096).toNat r
theorem lp_ge (k : FloatKind) : -1074 ≤ k.format.leastPlace := by cases k <;> decide
theorem inf_lt (k : FloatKind) : inf k < wt k := k.format.infRung_lt
theorem mg_mk (k : FloatKind) (s : Bool) {r : Nat} (h : r ≤ inf k) : mg k (mk k s r) = r := by
  have := inf_lt k
  unfold mg mk Format.word
  show (if s = true then wt k + r else r) % wt k = r
  split
  · rw [Nat.add_mod_left, Nat.mod_eq_of_lt (by omega)]
  · exact Nat.mod_eq_of_lt (by omega)
theorem fs_mk (k : FloatKind) (s : Bool) {r : Nat} (h : r ≤ inf k) : fs k (mk k s r) = s := by
  have := inf_lt k
  have h0 : 0 < wt k := by omega
  unfold fs mk Format.word
  show ((if s = true then wt k + r else r) / wt k % 2 == 1) = s
  cases s
  · simp only [Bool.false_eq_true, if_false]; rw [Nat.div_eq_of_lt (by omega)]; rfl
  · simp only [if_true]; rw [Nat.add_div_left _ h0, Nat.div_eq_of_lt (by omega)]; rfl
theorem read_eq (k : FloatKind) (b : Nat) : k.format.read b = if mg k b < 2 ^ k.format.fractionBits then .number (fs k b) (mg k b) k.format.leastPlace
    else if mg k b < inf k then .number (fs k b) (2 ^ k.format.fractionBits + mg k b % 2 ^ k.format.fractionBits) (k.format.leastPlace + (mg k b / 2 ^ k.format.fractionBits - 1 : Nat))
    else if mg k b = inf k then .infinity (fs k b) else .nan (fs k b) (mg k b - inf k) := rfl
theorem bin_le (k : FloatKind) : 2 ^ k.format.fractionBits ≤ inf k := by cases k <;> decide
/-- A finite word. -/
theorem read_fin {k : FloatKind} {b : Nat} (h : mg k b < inf k) : ∃ m e, k.format.read b = .number (fs k b) m e ∧ -1074 ≤ e ∧ nv m e = vl k (mg k b) := by
  have hl := lp_ge k
  rw [read_eq]
  split
  · rename_i h1
    refine ⟨_, _, rfl, hl, ?_⟩
    unfold vl vg nv; rw [if_pos h1]
  · rename_i h1
    refine ⟨_, _, rfl, by omega, ?_⟩
    unfold vl vg nv; rw [if_neg h1]
    congr 2; omega
theorem read_inf {k : FloatKind} {b : Nat} (h : mg k b = inf k) : k.format.read b = .infinity (fs k b) := by
  have := bin_le k
  rw [read_eq, if_neg (by omega), if_neg (by omega), if_pos h]
theorem isNan_mg (k : FloatKind) (b : Nat) : isNan k b = decide (inf k < mg k b) := by
  unfold isNan
  have := bin_le k
  rw [read_eq]
  split
  · simp [Datum.isNaN]; omega
  · split
    · simp [Datum.isNaN]; omega
    · split
      · simp [Datum.isNaN]; omega
      · simp [Datum.isNaN]; omega
theorem RR_vl (k : FloatKind) {r : Nat} (h : r ≤ inf k) : RR k.format (vl k r) = r := by
  unfold RR vl; rw [rg_vg]; exact Nat.min_eq_left h
theorem vl_le {k : FloatKind} {r r' : Nat} : vl k r ≤ vl k r' ↔ r ≤ r' := by
  unfold vl
  refine ⟨fun h => ?_, vg_mono⟩
  have := rg_mono k.format.fractionBits (k.format.leastPlace + 4096).toNat h
  rwa [rg_vg, rg_vg] at this
theorem vl_zero (k : FloatKind) : vl k 0 = 0 := by unfold vl vg; rw [if_pos (Nat.two_pow_pos _)]; simp
theorem nearest_mk (k : FloatKind) (s : Bool) (m : Nat) (e : Int) (he : -4096 ≤ e) : k.format.nearest s m e = mk k s (RR k.format (nv m e)) :=
  nearest_RR _ (by have := lp_ge k; omega) s m e he
theorem RR_inf (k : FloatKind) (N : Nat) : RR k.format N ≤ inf k := RR_le _ _

/-! ### Operations on finite words -/
theorem nv_shift (m : Nat) (e b : Int) (hb : b ≤ e) (h0 : -4096 ≤ b) : nv (m <<< (e - b).toNat) b = nv m e := by
  unfold nv
  rw [Nat.shiftLeft_eq, Nat.mul_assoc, ← Nat.pow_add]
  congr 2; omega
theorem fop_of {op : BinOp} {k : FloatKind} {x y r : Nat} (h : floatBits op k x y = some r) : fop op k x y = r := by unfold fop; rw [h]; rfl
theorem mul_fin {k : FloatKind} {x y : Nat} (hx : mg k x < inf k) (hy : mg k y < inf k) :
    ∃ P, fop .mul k x y = mk k (fs k x ^^ fs k y) (RR k.format P) ∧ P * nv 1 0 = vl k (mg k x) * vl k (mg k y) := by
  obtain ⟨m, i, e1, h1, h2⟩ := read_fin hx
  obtain ⟨n, j, e3, h3, h4⟩ := read_fin hy
  refine ⟨nv (m * n) (i + j), ?_, ?_⟩
  · apply fop_of
    show k.format.mul x y = _
    unfold Format.mul
    rw [e1, e3]
    simp only [Datum.product, Option.map_some, Format.write]
    rw [nearest_mk _ _ _ _ (by omega)]
  · rw [← h2, ← h4]
    unfold nv
    rw [show (m * 2 ^ (i + 4096).toNat) * (n * 2 ^ (j + 4096).toNat) = m * n * (2 ^ (i + 4096).toNat * 2 ^ (j + 4096).toNat) by ac_rfl, Nat.one_mul, Nat.mul_assoc, ← Nat.pow_add, ← Nat.pow_add]
    congr 2; omega
theorem shl_nv {m : Nat} {i b : Int} (hi : b ≤ i) (hb : -4096 ≤ b) : (m <<< (i - b).toNat) * 2 ^ (b + 4096).toNat = nv m i := by
  unfold nv
  rw [Nat.shiftLeft_eq, Nat.mul_assoc, ← Nat.pow_add]; congr 2; omega
theorem sum_fin {s t : Bool} {m n : Nat} {i j : Int} (hi : -1074 ≤ i) (hj : -1074 ≤ j) (k : FloatKind) :
    ∃ S, (Datum.number s m i).sum (.number t n j) = some S ∧ ∃ u T, k.format.write S = mk k u (RR k.format T) ∧ (s = t → u = s ∧ T = nv m i + nv n j) ∧ (s ≠ t → T = (nv m i - nv n j) + (nv n j - nv m i) ∧ (nv n j < nv m i → u = s) ∧ (nv m i < nv n j → u = t)) := by
  refine ⟨_, rfl, _, _, nearest_mk k _ _ _ (by omega), ?_, ?_⟩
  · rintro rfl
    have e1 := shl_nv (m := m) (i := i) (b := min i j) (by omega) (by omega)
    have e2 := shl_nv (m := n) (i := j) (b := min i j) (by omega) (by omega)
    unfold signed
    generalize m <<< (i - min i j).toNat = a at *
    generalize n <<< (j - min i j).toNat = b at *
    rw [← e1, ← e2, ← Nat.add_mul]
    cases s
    · simp only [Bool.false_eq_true, if_false]
      constructor
      · split <;> simp; omega
      · unfold nv; congr 1
    · simp only [if_true]
      constructor
      · split <;> simp; omega
      · unfold nv; congr 1; omega
  · intro hne
    have e1 := shl_nv (m := m) (i := i) (b := min i j) (by omega) (by omega)
    have e2 := shl_nv (m := n) (i := j) (b := min i j) (by omega) (by omega)
    have hp := Nat.two_pow_pos (min i j + 4096).toNat
    unfold signed
    generalize m <<< (i - min i j).toNat = a at *
    generalize n <<< (j - min i j).toNat = b at *
    rw [← e1, ← e2]
    unfold nv
    generalize 2 ^ (min i j + 4096).toNat = c at *
    have lt : ∀ x y : Nat, x * c < y * c ↔ x < y := fun x y => Nat.mul_lt_mul_right hp
    rw [← Nat.sub_mul, ← Nat.sub_mul, ← Nat.add_mul, lt, lt]
    cases s <;> cases t <;> simp only [Bool.false_eq_true, if_false, if_true, ne_eq, not_true, not_false_eq_true, Bool.true_eq_false] at *
    · refine ⟨by congr 1; omega, fun h => ?_, fun h => ?_⟩
      · rw [if_neg (by omega)]; simp; omega
      · rw [if_neg (by omega)]; simp; omega
    · refine ⟨by congr 1; omega, fun h => ?_, fun h => ?_⟩
      · rw [if_neg (by omega)]; simp; omega
      · rw [if_neg (by omega)]; simp; omega
theorem add_fin {k : FloatKind} {x y : Nat} (hx : mg k x < inf k) (hy : mg k y < inf k) :
    ∃ u T, fop .add k x y = mk k u (RR k.format T) ∧ (fs k x = fs k y → u = fs k x ∧ T = vl k (mg k x) + vl k (mg k y)) ∧ (fs k x ≠ fs k y → T = (vl k (mg k x) - vl k (mg k y)) + (vl k (mg k y) - vl k (mg k x)) ∧ (vl k (mg k y) < vl k (mg k x) → u = fs k x) ∧ (vl k (mg k x) < vl k (mg k y) → u = fs k y)) := by
  obtain ⟨m, i, e1, h1, h2⟩ := read_fin hx
  obtain ⟨n, j, e3, h3, h4⟩ := read_fin hy
  obtain ⟨S, hS, u, T, hT, ha, hb⟩ := sum_fin (s := fs k x) (t := fs k y) (m := m) (n := n) h1 h3 k
  rw [h2, h4] at ha hb
  refine ⟨u, T, ?_, ha, hb⟩
  apply fop_of
  show k.format.add x y = _
  unfold Format.add
  rw [e1, e3, hS, Option.map_some, hT]
theorem sub_fin {k : FloatKind} {x y : Nat} (hx : mg k x < inf k) (hy : mg k y < inf k) :
    ∃ u T, fop .sub k x y = mk k u (RR k.format T) ∧ (fs k x ≠ fs k y → u = fs k x ∧ T = vl k (mg k x) + vl k (mg k y)) ∧ (fs k x = fs k y → T = (vl k (mg k x) - vl k (mg k y)) + (vl k (mg k y) - vl k (mg k x)) ∧ (vl k (mg k y) < vl k (mg k x) → u = fs k x) ∧ (vl k (mg k x) < vl k (mg k y) → u = !fs k x)) := by
  obtain ⟨m, i, e1, h1, h2⟩ := read_fin hx
  obtain ⟨n, j, e3, h3, h4⟩ := read_fin hy
  obtain ⟨S, hS, u, T, hT, ha, hb⟩ := sum_fin (s := fs k x) (t := !fs k y) (m := m) (n := n) h1 h3 k
  rw [h2, h4] at ha hb
  refine ⟨u, T, ?_, fun h => ha (by cases h5 : fs k x <;> cases h6 : fs k y <;> simp_all), fun h => ?_⟩
  · apply fop_of
    show k.format.sub x y = _
    unfold Format.sub
    rw [e1, e3]
    show Option.map _ ((Datum.number (fs k x) m i).sum (.number (!fs k y) n j)) = _
    rw [hS, Option.map_some, hT]
  · have := hb (by rw [h]; cases fs k y <;> simp)
    rwa [← h] at this
/-- The magnitude of a sum or a difference is not above the sum of the magnitudes, rounded. -/
theorem addsub_le {op : BinOp} (ho : op = .add ∨ op = .sub) {k : FloatKind} {x y : Nat} (hx : mg k x < inf k) (hy : mg k y < inf k) : mg k (fop op k x y) ≤ RR k.format (vl k (mg k x) + vl k (mg k y)) := by
  rcases ho with rfl | rfl
  · obtain ⟨u, T, e, h1, h2⟩ := add_fin hx hy
    rw [e, mg_mk _ _ (RR_inf _ _)]
    apply RR_mono
    by_cases h : fs k x = fs k y
    · have := h1 h; omega
    · have := h2 h; omega
  · obtain ⟨u, T, e, h1, h2⟩ := sub_fin hx hy
    rw [e, mg_mk _ _ (RR_inf _ _)]
    apply RR_mono
    by_cases h : fs k x = fs k y
    · have := h2 h; omega
    · have := h1 h; omega
/-- A bound on both gives one on the sum, the difference, the product. -/
theorem addsub_lim {op : BinOp} (ho : op = .add ∨ op = .sub) {k : FloatKind} {x y X Y : Nat} (hX : X < inf k) (hY : Y < inf k) (hx : mg k x ≤ X) (hy : mg k y ≤ Y) : mg k (fop op k x y) ≤ mg k (fop .add k X Y) := by
  have hw := inf_lt k
  have hmX : mg k X = X := Nat.mod_eq_of_lt (by omega)
  have hmY : mg k Y = Y := Nat.mod_eq_of_lt (by omega)
  have hsX : fs k X = false := by unfold fs; rw [Nat.div_eq_of_lt (by omega)]; rfl
  have hsY : fs k Y = false := by unfold fs; rw [Nat.div_eq_of_lt (by omega)]; rfl
  refine Nat.le_trans (addsub_le ho (by omega) (by omega)) ?_
  obtain ⟨u, T, e, h1, _⟩ := add_fin (k := k) (x := X) (y := Y) (by omega) (by omega)
  rw [e, mg_mk _ _ (RR_inf _ _), (h1 (by rw [hsX, hsY])).2, hmX, hmY]
  apply RR_mono
  have a := (vl_le (k := k)).2 hx
  have b := (vl_le (k := k)).2 hy
  omega
theorem mul_lim {k : FloatKind} {x y X Y : Nat} (hX : X < inf k) (hY : Y < inf k) (hx : mg k x ≤ X) (hy : mg k y ≤ Y) : mg k (fop .mul k x y) ≤ mg k (fop .mul k X Y) := by
  have hw := inf_lt k
  have hmX : mg k X = X := Nat.mod_eq_of_lt (by omega)
  have hmY : mg k Y = Y := Nat.mod_eq_of_lt (by omega)
  obtain ⟨P, e, h1⟩ := mul_fin (k := k) (x := x) (y := y) (by omega) (by omega)
  obtain ⟨P', e', h1'⟩ := mul_fin (k := k) (x := X) (y := Y) (by omega) (by omega)
  rw [e, e', mg_mk _ _ (RR_inf _ _), mg_mk _ _ (RR_inf _ _)]
  apply RR_mono
  rw [hmX, hmY] at h1'
  have h2 := Nat.mul_le_mul ((vl_le (k := k)).2 hx) ((vl_le (k := k)).2 hy)
  rw [← h1, ← h1'] at h2
  exact Nat.le_of_mul_le_mul_right h2 (by unfold nv; rw [Nat.one_mul]; exact Nat.two_pow_pos _)

/-! ### Order -/
/-- The value with its sign. -/
def sv (k : FloatKind) (b : Nat) : Int := if fs k b then -(vl k (mg k b) : Int) else (vl k (mg k b) : Int)
theorem cmp_scale {a b : Int} {c : Nat} (hc : 0 < c) : compare a b = compare (a * c) (b * c) := by
  have hc' : (0 : Int) < (c : Int) := by omega
  rcases Int.lt_trichotomy a b with h | h | h
  · have h2 : a * c < b * c := Int.mul_lt_mul_of_pos_right h hc'
    rw [Int.compare_eq_lt.2 h, Int.compare_eq_lt.2 h2]
  · subst h; rw [Int.compare_eq_eq.2 rfl, Int.compare_eq_eq.2 rfl]
  · have h2 : b * c < a * c := Int.mul_lt_mul_of_pos_right h hc'
    rw [Int.compare_eq_gt.2 h, Int.compare_eq_gt.2 h2]
theorem order_fin {k : FloatKind} {x y : Nat} (hx : mg k x < inf k) (hy : mg k y < inf k) : k.format.order x y = some (compare (sv k x) (sv k y)) := by
  obtain ⟨m, i, e1, h1, h2⟩ := read_fin hx
  obtain ⟨n, j, e3, h3, h4⟩ := read_fin hy
  unfold Format.order
  rw [e1, e3]
  simp only [Datum.order]
  have a1 := shl_nv (m := m) (i := i) (b := min i j) (by omega) (by omega)
  have a2 := shl_nv (m := n) (i := j) (b := min i j) (by omega) (by omega)
  rw [cmp_scale (Nat.two_pow_pos (min i j + 4096).toNat)]
  congr 2
  · unfold sv signed
    rw [← h2, ← a1]
    split <;> simp [Int.neg_mul]
  · unfold sv signed
    rw [← h4, ← a2]
    split <;> simp [Int.neg_mul]
theorem fs_small {k : FloatKind} {b : Nat} (h : b ≤ inf k) : fs k b = false := by
  have := inf_lt k
  unfold fs; rw [Nat.div_eq_of_lt (by omega)]; rfl
theorem mg_small {k : FloatKind} {b : Nat} (h : b ≤ inf k) : mg k b = b := by
  have := inf_lt k
  exact Nat.mod_eq_of_lt (by omega)
theorem sv_small {k : FloatKind} {b : Nat} (h : b ≤ inf k) : sv k b = (vl k b : Int) := by
  unfold sv; rw [fs_small h, mg_small h]; rfl
theorem cmp_vl {k : FloatKind} {a b : Nat} : compare (vl k a : Int) (vl k b : Int) = compare a b := by
  rcases Nat.lt_trichotomy a b with h | h | h
  · have : vl k a < vl k b := Nat.lt_of_not_le fun h2 => by rw [vl_le] at h2; omega
    rw [Int.compare_eq_lt.2 (by omega), Nat.compare_eq_lt.2 h]
  · subst h; rw [Int.compare_eq_eq.2 rfl, Nat.compare_eq_eq.2 rfl]
  · have : vl k b < vl k a := Nat.lt_of_not_le fun h2 => by rw [vl_le] at h2; omega
    rw [Int.compare_eq_gt.2 (by omega), Nat.compare_eq_gt.2 h]
/-- Words from +0 to infinity stand as their numbers stand. -/
theorem order_small {k : FloatKind} {x y : Nat} (hx : x ≤ inf k) (hy : y ≤ inf k) : k.format.order x y = some (compare x y) := by
  rcases Nat.lt_or_eq_of_le hx with h1 | h1
  · rcases Nat.lt_or_eq_of_le hy with h2 | h2
    · rw [order_fin (by rw [mg_small hx]; exact h1) (by rw [mg_small hy]; exact h2), sv_small hx, sv_small hy, cmp_vl]
    · obtain ⟨m, i, e1, _, _⟩ := read_fin (k := k) (b := x) (by rw [mg_small hx]; exact h1)
      unfold Format.order
      rw [e1, read_inf (by rw [mg_small hy]; exact h2), fs_small hy]
      simp only [Datum.order]
      rw [Nat.compare_eq_lt.2 (by omega)]; rfl
  · rcases Nat.lt_or_eq_of_le hy with h2 | h2
    · obtain ⟨m, i, e1, _, _⟩ := read_fin (k := k) (b := y) (by rw [mg_small hy]; exact h2)
      unfold Format.order
      rw [e1, read_inf (by rw [mg_small hx]; exact h1), fs_small hx]
      simp only [Datum.order]
      rw [Nat.compare_eq_gt.2 (by omega)]; rfl
    · unfold Format.order
      rw [read_inf (by rw [mg_small hx]; exact h1), read_inf (by rw [mg_small hy]; exact h2), fs_small hx, fs_small hy]
      rw [Nat.compare_eq_eq.2 (show x = y by omega)]
      rfl
theorem fcmp_small {k : FloatKind} {x y : Nat} (hx : x ≤ inf k) (hy : y ≤ inf k) (op : BinOp) : fcmp op k x y = (match op with
    | .eql => decide (x = y) | .neq => !decide (x = y) | .lss => decide (x < y) | .leq => decide (x ≤ y) | .gtr => decide (y < x) | .geq => decide (y ≤ x) | _ => false) := by
  unfold fcmp
  rw [order_small hx hy]
  rcases Nat.lt_trichotomy x y with h | h | h
  · rw [Nat.compare_eq_lt.2 h, decide_eq_false (show ¬ x = y by omega), decide_eq_true h, decide_eq_true (show x ≤ y by omega), decide_eq_false (show ¬ y < x by omega), decide_eq_false (show ¬ y ≤ x by omega)]; cases op <;> rfl
  · rw [Nat.compare_eq_eq.2 h, decide_eq_true h, decide_eq_false (show ¬ x < y by omega), decide_eq_true (show x ≤ y by omega), decide_eq_false (show ¬ y < x by omega), decide_eq_true (show y ≤ x by omega)]; cases op <;> rfl
  · rw [Nat.compare_eq_gt.2 h, decide_eq_false (show ¬ x = y by omega), decide_eq_false (show ¬ x < y by omega), decide_eq_false (show ¬ x ≤ y by omega), decide_eq_true h, decide_eq_true (show y ≤ x by omega)]; cases op <;> rfl
theorem fcmp_fin {k : FloatKind} {x y : Nat} (hx : mg k x < inf k) (hy : mg k y < inf k) (op : BinOp) : fcmp op k x y = (match op with
    | .eql => decide (sv k x = sv k y) | .neq => !decide (sv k x = sv k y) | .lss => decide (sv k x < sv k y) | .leq => decide (sv k x ≤ sv k y) | .gtr => decide (sv k y < sv k x) | .geq => decide (sv k y ≤ sv k x) | _ => false) := by
  unfold fcmp
  rw [order_fin hx hy]
  rcases Int.lt_trichotomy (sv k x) (sv k y) with h | h | h
  · rw [Int.compare_eq_lt.2 h, decide_eq_false (show ¬ sv k x = sv k y by omega), decide_eq_true h, decide_eq_true (show sv k x ≤ sv k y by omega), decide_eq_false (show ¬ sv k y < sv k x by omega), decide_eq_false (show ¬ sv k y ≤ sv k x by omega)]; cases op <;> rfl
  · rw [Int.compare_eq_eq.2 h, decide_eq_true h, decide_eq_false (show ¬ sv k x < sv k y by omega), decide_eq_true (show sv k x ≤ sv k y by omega), decide_eq_false (show ¬ sv k y < sv k x by omega), decide_eq_true (show sv k y ≤ sv k x by omega)]; cases op <;> rfl
  · rw [Int.compare_eq_gt.2 h, decide_eq_false (show ¬ sv k x = sv k y by omega), decide_eq_false (show ¬ sv k x < sv k y by omega), decide_eq_false (show ¬ sv k x ≤ sv k y by omega), decide_eq_true h, decide_eq_true (show sv k y ≤ sv k x by omega)]; cases op <;> rfl

/-! ### Quotients -/
theorem read_bounds {k : FloatKind} {b : Nat} {s : Bool} {m : Nat} {e : Int} (h : k.format.read b = .number s m e) : m < 2 ^ 53 ∧ e ≤ 1000 := by
  cases k with
  | f32 => have := read_single_bounds b h; omega
  | f64 =>
    have h' : Ieee.double.read b = .number s m e := h
    rw [read64] at h'
    split at h'
    · injection h' with h1 h2 h3
      omega
    · split at h'
      · injection h' with h1 h2 h3
        omega
      · split at h' <;> cases h'
theorem quo_fin {k : FloatKind} {x y : Nat} (hx : mg k x < inf k) (hy : mg k y < inf k) (hy0 : mg k y ≠ 0) :
    ∃ Q, fop .quo k x y = mk k (fs k x ^^ fs k y) (RR k.format Q) ∧ ∀ a b, vl k (mg k x) * 2 ^ a ≤ vl k (mg k y) * 2 ^ b → a ≤ 4096 + b → Q ≤ 2 ^ (4096 + b - a) := by
  obtain ⟨m, i, e1, h1, h2⟩ := read_fin hx
  obtain ⟨n, j, e3, h3, h4⟩ := read_fin hy
  obtain ⟨hm24, hi2⟩ := read_bounds e1
  obtain ⟨hn24, hj2⟩ := read_bounds e3
  have hn0 : n ≠ 0 := by
    rintro rfl
    have h5 : vl k (mg k y) = vl k 0 := by rw [← h4, vl_zero]; unfold nv; simp
    have h6 := (vl_le (k := k) (r := mg k y) (r' := 0)).1 (by omega)
    omega
  have hF : k.format.fractionBits ≤ 52 := by cases k <;> decide
  have hnl : n.log2 < 53 := (Nat.log2_lt hn0).2 hn24
  generalize hmore : k.format.fractionBits + 2 + n.log2 - m.log2 = more
  have hE : -4096 ≤ i - j - (more : Int) - 1 := by omega
  refine ⟨nv (2 * ((m <<< more) / n) + ((m <<< more) % n != 0).toNat) (i - j - more - 1), ?_, ?_⟩
  · apply fop_of
    show k.format.div x y = _
    unfold Format.div
    rw [e1, e3]
    simp only [Datum.quotient, if_neg hn0, Option.map_some, Format.write]
    rw [hmore, nearest_mk _ _ _ _ hE]
  · intro a b hab hle
    by_cases hm0 : m = 0
    · subst hm0
      simp [nv]
    rw [← h2, ← h4] at hab
    unfold nv at hab ⊢
    rw [Nat.shiftLeft_eq]
    have hn1 : 0 < n := by omega
    have hml := Nat.log2_self_le hm0
    have hnu : n < 2 ^ (n.log2 + 1) := Nat.lt_log2_self
    have hd : n ≤ m * 2 ^ more := by
      have h7 : 2 ^ (n.log2 + 1) ≤ 2 ^ m.log2 * 2 ^ more := by rw [← Nat.pow_add]; exact Nat.pow_le_pow_right (by omega) (by omega)
      have h8 := Nat.mul_le_mul_right (2 ^ more) hml
      omega
    have h9 : 1 ≤ m * 2 ^ more / n := (Nat.le_div_iff_mul_le hn1).2 (by omega)
    -- G = 4096 + b - a - E
    generalize hEn : (i - j - (more : Int) - 1 + 4096).toNat = E
    have key : ∀ G : Nat, E + (G + 1) = 4096 + b - a → m * 2 ^ more ≤ n * 2 ^ G → (2 * (m * 2 ^ more / n) + (m * 2 ^ more % n != 0).toNat) * 2 ^ E ≤ 2 ^ (4096 + b - a) := by
      intro G hG hle
      rw [← hG, Nat.add_comm E, Nat.pow_add]
      apply Nat.mul_le_mul_right
      have hdm := Nat.div_add_mod (m * 2 ^ more) n
      have hq : m * 2 ^ more / n ≤ 2 ^ G := Nat.div_le_of_le_mul hle
      have hst : ∀ b : Bool, b.toNat ≤ 1 := fun b => by cases b <;> decide
      have h10 := hst (m * 2 ^ more % n != 0)
      rw [Nat.pow_succ]
      rcases Nat.lt_or_eq_of_le hq with h11 | h11
      · omega
      · rw [h11] at hdm
        have h12 : m * 2 ^ more % n = 0 := by omega
        rw [h11, h12]
        simp; omega
    generalize hI : (i + 4096).toNat = I at hab
    generalize hJ : (j + 4096).toNat = J at hab
    rw [Nat.mul_assoc, Nat.mul_assoc, ← Nat.pow_add, ← Nat.pow_add] at hab
    have h13 : I + a ≤ more + (J + b) := by
      have h14 : m * 2 ^ (I + a) ≤ m * 2 ^ (more + (J + b)) := by
        rw [Nat.pow_add 2 more, ← Nat.mul_assoc]
        exact Nat.le_trans hab (Nat.mul_le_mul_right _ hd)
      have h15 := Nat.le_of_mul_le_mul_left h14 (by omega)
      exact (Nat.pow_le_pow_iff_right (by omega)).1 h15
    refine key (more + (J + b) - (I + a)) (by omega) ?_
    have h16 : m * 2 ^ more * 2 ^ (I + a) ≤ n * 2 ^ (more + (J + b) - (I + a)) * 2 ^ (I + a) := by
      rw [Nat.mul_assoc n, ← Nat.pow_add, show more + (J + b) - (I + a) + (I + a) = (J + b) + more by omega, Nat.pow_add 2 (J + b), Nat.mul_right_comm, ← Nat.mul_assoc]
      exact Nat.mul_le_mul_right _ hab
    exact Nat.le_of_mul_le_mul_right h16 (Nat.two_pow_pos _)
/-- A quotient by at least 'c' is not above a c-th: b = 0, a: the power. -/
theorem quo_le {k : FloatKind} {x y : Nat} (hx : mg k x < inf k) (hy : mg k y < inf k) (hy0 : mg k y ≠ 0) {a b : Nat} (h : vl k (mg k x) * 2 ^ a ≤ vl k (mg k y) * 2 ^ b) (hab : a ≤ 4096 + b) : mg k (fop .quo k x y) ≤ RR k.format (2 ^ (4096 + b - a)) := by
  obtain ⟨Q, e, h1⟩ := quo_fin hx hy hy0
  rw [e, mg_mk _ _ (RR_inf _ _)]
  exact RR_mono _ (h1 a b h hab)

end Go.Proofs.Ytnjgcacnfobmiaa
