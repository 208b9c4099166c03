/- Floats whose NaN bits the tape picks: the bits' class ('canon'), what each operation does to the classes, and the walk's laws for float operations. -/
import Derived.WalkKit
import Derived.WalkLawsBesides
import Derived.Deep.Draws
namespace Go.Proofs.Ytnjgcacnfobmiaa

/-- One NaN for all. -/
def nanOf : FloatKind → Nat
  | .f32 => 0x7fc00000
  | .f64 => 0x7ff8000000000000
def isNan (k : FloatKind) (b : Nat) : Bool := (k.format.read b).isNaN
/-- The class of some bits: the bits, all NaNs being one. -/
def canon (k : FloatKind) (b : Nat) : Nat := if isNan k b then nanOf k else b
def Is (k : FloatKind) (b s : Nat) : Prop := canon k b = s
theorem Is.out' {k : FloatKind} {b s : Nat} (h : Is k b s) : canon k b = s := h

theorem isNan_nanOf (k : FloatKind) : isNan k (nanOf k) = true := by cases k <;> decide +kernel
theorem isNan_canon (k : FloatKind) (b : Nat) : isNan k (canon k b) = isNan k b := by
  unfold canon
  split
  · rename_i h; rw [isNan_nanOf, h]
  · rfl
theorem canon_canon (k : FloatKind) (b : Nat) : canon k (canon k b) = canon k b := by
  unfold canon
  split
  · rw [isNan_nanOf]; simp
  · rfl
theorem canon_of_not {k : FloatKind} {b : Nat} (h : isNan k b = false) : canon k b = b := by unfold canon; simp [h]
theorem canon_of_nan {k : FloatKind} {b : Nat} (h : isNan k b = true) : canon k b = nanOf k := by unfold canon; simp [h]
/-- Two of one class: the same bits, or NaNs both. -/
theorem canon_cases {k : FloatKind} {a b : Nat} (h : canon k a = canon k b) : (isNan k a = true ∧ isNan k b = true) ∨ (isNan k a = false ∧ isNan k b = false ∧ a = b) := by
  have h1 : isNan k a = isNan k b := by rw [← isNan_canon k a, h, isNan_canon]
  cases ha : isNan k a with
  | true => rw [ha] at h1; exact .inl ⟨rfl, h1.symm⟩
  | false => rw [ha] at h1; rw [canon_of_not ha, canon_of_not h1.symm] at h; exact .inr ⟨rfl, h1.symm, h⟩
theorem read_nan {k : FloatKind} {b : Nat} (h : isNan k b = true) : ∃ s t, k.format.read b = .nan s t := by
  unfold isNan at h
  generalize k.format.read b = d at h
  cases d <;> simp [Ieee.Datum.isNaN] at h
  exact ⟨_, _, rfl⟩
theorem read_not {k : FloatKind} {b : Nat} (h : isNan k b = false) : (∃ s m e, k.format.read b = .number s m e) ∨ ∃ s, k.format.read b = .infinity s := by
  unfold isNan at h
  generalize k.format.read b = d at h
  cases d <;> simp [Ieee.Datum.isNaN] at h
  · exact .inl ⟨_, _, _, rfl⟩
  · exact .inr ⟨_, rfl⟩

/-! ### A written word that is no NaN reads as none -/
theorem read_word (f : Ieee.Format) (neg : Bool) {rung : Nat} (h : rung ≤ f.infRung) : (f.read (f.word neg rung)).isNaN = false := by
  have hlt := f.infRung_lt
  have hs : 0 < f.signWeight := Nat.lt_of_le_of_lt (Nat.zero_le _) hlt
  have h1 : f.word neg rung % f.signWeight = rung := by
    unfold Ieee.Format.word
    split
    · rw [Nat.add_mod_left, Nat.mod_eq_of_lt (by omega)]
    · exact Nat.mod_eq_of_lt (by omega)
  unfold Ieee.Format.read
  simp only [h1]
  split
  · rfl
  · split
    · rfl
    · split
      · rfl
      · omega
theorem nearest_not (f : Ieee.Format) (s : Bool) (m : Nat) (e : Int) : (f.read (f.nearest s m e)).isNaN = false := by
  unfold Ieee.Format.nearest
  split
  · exact read_word f s (Nat.zero_le _)
  · exact read_word f s (Nat.min_le_right _ _)
theorem write_not (f : Ieee.Format) {d : Ieee.Datum} (h : d.isNaN = false) : (f.read (f.write d)).isNaN = false := by
  cases d with
  | number s m e => exact nearest_not f s m e
  | infinity s => exact read_word f s (Nat.le_refl _)
  | nan s t => simp [Ieee.Datum.isNaN] at h
theorem sum_not {x y d : Ieee.Datum} (h : x.sum y = some d) : d.isNaN = false := by
  cases x <;> cases y <;> simp only [Ieee.Datum.sum] at h <;> (try split at h) <;> (try cases h) <;> (try rfl)
  all_goals (injection h with h; subst h; rfl)
theorem product_not {x y d : Ieee.Datum} (h : x.product y = some d) : d.isNaN = false := by
  cases x <;> cases y <;> simp only [Ieee.Datum.product] at h <;> (try split at h) <;> (try cases h) <;> (try rfl)
  all_goals (injection h with h; subst h; rfl)
theorem quotient_not {n : Nat} {x y d : Ieee.Datum} (h : Ieee.Datum.quotient n x y = some d) : d.isNaN = false := by
  cases x <;> cases y <;> simp only [Ieee.Datum.quotient] at h <;> (try split at h) <;> (try split at h) <;> (try cases h) <;> (try rfl)
  all_goals (injection h with h; subst h; rfl)
theorem root_not {n : Nat} {x d : Ieee.Datum} (h : Ieee.Datum.root n x = some d) : d.isNaN = false := by
  cases x <;> simp only [Ieee.Datum.root] at h <;> (try split at h) <;> (try split at h) <;> (try cases h) <;> (try rfl)
  all_goals (injection h with h; subst h; rfl)

/-! ### Arithmetic on classes -/
/-- What an operation gives, on classes. -/
def fop (op : BinOp) (k : FloatKind) (s t : Nat) : Nat := (floatBits op k s t).getD (nanOf k)

theorem floatBits_not {op : BinOp} {k : FloatKind} {x y r : Nat} (h : floatBits op k x y = some r) : isNan k r = false := by
  unfold floatBits at h
  unfold isNan
  split at h
  · simp only [Ieee.Format.add, Option.map_eq_some_iff] at h
    obtain ⟨d, hd, rfl⟩ := h
    exact write_not _ (sum_not hd)
  · simp only [Ieee.Format.sub, Option.map_eq_some_iff] at h
    obtain ⟨d, hd, rfl⟩ := h
    exact write_not _ (sum_not hd)
  · simp only [Ieee.Format.mul, Option.map_eq_some_iff] at h
    obtain ⟨d, hd, rfl⟩ := h
    exact write_not _ (product_not hd)
  · simp only [Ieee.Format.div, Option.map_eq_some_iff] at h
    obtain ⟨d, hd, rfl⟩ := h
    exact write_not _ (quotient_not hd)
  · cases h
theorem floatBits_nan {op : BinOp} {k : FloatKind} {x y : Nat} (h : isNan k x = true ∨ isNan k y = true) : floatBits op k x y = none := by
  unfold floatBits
  have key : (∃ s t, k.format.read x = .nan s t) ∨ ∃ s t, k.format.read y = .nan s t := h.imp read_nan read_nan
  split
  · rcases key with ⟨s, t, e⟩ | ⟨s, t, e⟩ <;> simp only [Ieee.Format.add, e]
    · simp [Ieee.Datum.sum]
    · cases k.format.read x <;> simp [Ieee.Datum.sum]
  · rcases key with ⟨s, t, e⟩ | ⟨s, t, e⟩ <;> simp only [Ieee.Format.sub, e, Ieee.Datum.opposite]
    · cases k.format.read y <;> simp [Ieee.Datum.sum]
    · cases k.format.read x <;> simp [Ieee.Datum.sum]
  · rcases key with ⟨s, t, e⟩ | ⟨s, t, e⟩ <;> simp only [Ieee.Format.mul, e]
    · cases k.format.read y <;> simp [Ieee.Datum.product]
    · cases k.format.read x <;> simp [Ieee.Datum.product]
  · rcases key with ⟨s, t, e⟩ | ⟨s, t, e⟩ <;> simp only [Ieee.Format.div, e]
    · cases k.format.read y <;> simp [Ieee.Datum.quotient]
    · cases k.format.read x <;> simp [Ieee.Datum.quotient]
  · rfl
theorem floatBits_canon (op : BinOp) (k : FloatKind) (x y : Nat) : floatBits op k (canon k x) (canon k y) = floatBits op k x y := by
  cases hx : isNan k x with
  | true => rw [floatBits_nan (.inl hx), floatBits_nan (.inl (by rw [isNan_canon]; exact hx))]
  | false =>
    cases hy : isNan k y with
    | true => rw [floatBits_nan (.inr hy), floatBits_nan (.inr (by rw [isNan_canon]; exact hy))]
    | false => rw [canon_of_not hx, canon_of_not hy]
theorem fop_canon (op : BinOp) (k : FloatKind) (x y : Nat) : fop op k (canon k x) (canon k y) = fop op k x y := by unfold fop; rw [floatBits_canon]
theorem canon_fop (op : BinOp) (k : FloatKind) (s t : Nat) : canon k (fop op k s t) = fop op k s t := by
  unfold fop
  cases h : floatBits op k s t with
  | none => exact canon_of_nan (isNan_nanOf k)
  | some r => exact canon_of_not (floatBits_not h)
theorem is_fop_some {op : BinOp} {k : FloatKind} {x y r s t : Nat} (hx : Is k x s) (hy : Is k y t) (h : floatBits op k x y = some r) : Is k r (fop op k s t) := by
  unfold Is at *
  rw [← hx, ← hy, fop_canon, canon_of_not (floatBits_not h)]
  unfold fop; rw [h]; rfl
theorem is_fop_none {op : BinOp} {k : FloatKind} {x y r s t : Nat} (hx : Is k x s) (hy : Is k y t) (h : floatBits op k x y = none) (hr : isNan k r = true) : Is k r (fop op k s t) := by
  unfold Is at *
  rw [← hx, ← hy, fop_canon, canon_of_nan hr]
  unfold fop; rw [h]; rfl

theorem read32 (b : Nat) : Ieee.single.read b = (if b % 2147483648 < 8388608 then .number (b / 2147483648 % 2 == 1) (b % 2147483648) (-149)
    else if b % 2147483648 < 2139095040 then .number (b / 2147483648 % 2 == 1) (8388608 + b % 2147483648 % 8388608) (-149 + ((b % 2147483648 / 8388608 - 1 : Nat) : Int))
    else if b % 2147483648 = 2139095040 then .infinity (b / 2147483648 % 2 == 1) else .nan (b / 2147483648 % 2 == 1) (b % 2147483648 - 2139095040)) := rfl
theorem read64 (b : Nat) : Ieee.double.read b = (if b % 9223372036854775808 < 4503599627370496 then .number (b / 9223372036854775808 % 2 == 1) (b % 9223372036854775808) (-1074)
    else if b % 9223372036854775808 < 9218868437227405312 then .number (b / 9223372036854775808 % 2 == 1) (4503599627370496 + b % 9223372036854775808 % 4503599627370496) (-1074 + ((b % 9223372036854775808 / 4503599627370496 - 1 : Nat) : Int))
    else if b % 9223372036854775808 = 9218868437227405312 then .infinity (b / 9223372036854775808 % 2 == 1) else .nan (b / 9223372036854775808 % 2 == 1) (b % 9223372036854775808 - 9218868437227405312)) := rfl
theorem isNan32 (b : Nat) : isNan .f32 b = decide (2139095040 < b % 2147483648) := by
  unfold isNan
  show (Ieee.single.read b).isNaN = _
  rw [read32]
  split
  · simp [Ieee.Datum.isNaN]; omega
  · split
    · simp [Ieee.Datum.isNaN]; omega
    · split
      · simp [Ieee.Datum.isNaN]; omega
      · simp [Ieee.Datum.isNaN]; omega
theorem isNan64 (b : Nat) : isNan .f64 b = decide (9218868437227405312 < b % 9223372036854775808) := by
  unfold isNan
  show (Ieee.double.read b).isNaN = _
  rw [read64]
  split
  · simp [Ieee.Datum.isNaN]; omega
  · split
    · simp [Ieee.Datum.isNaN]; omega
    · split
      · simp [Ieee.Datum.isNaN]; omega
      · simp [Ieee.Datum.isNaN]; omega
theorem isNan_f32 {t : Nat} : isNan .f32 ((t % 2) * 2 ^ 31 + 0x7f800000 + 1 + (t / 2) % (2 ^ 23 - 1)) = true := by
  have h1 : (t / 2) % (2 ^ 23 - 1) < 2 ^ 23 - 1 := Nat.mod_lt _ (by decide)
  rw [isNan32]
  generalize (t / 2) % (2 ^ 23 - 1) = m at *
  simp
  omega
theorem isNan_f64 {t : Nat} : isNan .f64 ((t % 2) * 2 ^ 63 + 0x7ff0000000000000 + 1 + (t / 2) % (2 ^ 52 - 1)) = true := by
  have h1 : (t / 2) % (2 ^ 52 - 1) < 2 ^ 52 - 1 := Nat.mod_lt _ (by decide)
  rw [isNan64]
  generalize (t / 2) % (2 ^ 52 - 1) = m at *
  simp
  omega
theorem nanBits_nan (k : FloatKind) (x y t : Nat) : isNan k ((Question.nanBits k x y).cut t) = true := by
  cases k
  · exact isNan_f32
  · exact isNan_f64
theorem nanConv_nan (k : FloatKind) (x t : Nat) : isNan k ((Question.nanConv k x).cut t) = true := by
  cases k
  · exact isNan_f32
  · exact isNan_f64

section
variable {P : Program}

def isArith : BinOp → Bool
  | .add | .sub | .mul | .quo => true
  | _ => false

theorem drew_one (w : World) : w.drew = w.drewN 1 := rfl
theorem drew_none (w : World) : w = w.drewN 0 := rfl

/-- The run of an operation on two floats. -/
theorem run_farith {op : BinOp} (hop : isArith op = true) (ty : TypeId) {k : FloatKind} {x y s t : Nat} (hx : Is k x s) (hy : Is k y t) (w : World) :
    ∃ r n, (binOp op ty (.float k x) (.float k y)).run P w = .ok (.float k r) (w.drewN n) ∧ Is k r (fop op k s t) := by
  cases h : floatBits op k x y with
  | some r => exact ⟨r, 0, run_float_arith w op ty k x y r h, is_fop_some hx hy h⟩
  | none =>
    refine ⟨_, 1, ?_, is_fop_none hx hy h (nanBits_nan k x y (w.tape w.drawn (.nanBits k x y)))⟩
    unfold floatBits at h
    rw [← drew_one]
    cases op <;> simp only [isArith, Bool.false_eq_true] at hop <;> simp only [] at h <;> simp [binOp, Op.floatArith, h, Question.forced]

/-- float32 to float64. -/
def fwiden (s : Nat) : Nat := if isNan .f32 s then nanOf .f64 else FloatKind.f64.encode (FloatKind.f32.decode s)
/-- float64 to float32: what is too great for a float32 has no class here. -/
def fnarrow (s : Nat) : Nat := if isNan .f64 s then nanOf .f32 else FloatKind.f32.encode (FloatKind.f64.decode s)
/-- What float32(x) gives is fixed: x is a NaN or an infinity, or it is not too great. -/
def narrowOk (s : Nat) : Bool := match FloatKind.f64.decode s with
  | .number a m e => !(FloatKind.f32.decode (FloatKind.f32.encode (.number a m e))).isInfinity
  | _ => true

theorem read_single_bounds (b : Nat) {s : Bool} {m : Nat} {e : Int} (h : Ieee.single.read b = .number s m e) : m < 2 ^ 24 ∧ -149 ≤ e ∧ e ≤ 104 := by
  rw [read32] at h
  split at h
  · injection h with h1 h2 h3
    omega
  · split at h
    · injection h with h1 h2 h3
      omega
    · split at h <;> cases h

theorem log2_lt24 {m : Nat} (h0 : m ≠ 0) (h : m < 2 ^ 24) : m.log2 < 24 := (Nat.log2_lt h0).2 h

theorem rung_bound {D A : Nat} (h : D ≤ 1149) (hA : A < 2 ^ 53) : min (D * 4503599627370496 + A) 9218868437227405312 < 9218868437227405312 := by
  have : D * 4503599627370496 ≤ 1149 * 4503599627370496 := Nat.mul_le_mul_right _ h
  have h2 : A < 9007199254740992 := hA
  refine Nat.lt_of_le_of_lt (Nat.min_le_left _ _) ?_
  omega

/-- A float32 is never too great for a float64. -/
theorem widen_finite (b : Nat) {s : Bool} {m : Nat} {e : Int} (h : Ieee.single.read b = .number s m e) : (Ieee.double.read (Ieee.double.write (.number s m e))).isInfinity = false := by
  obtain ⟨hm, he1, he2⟩ := read_single_bounds b h
  have word : ∀ rung : Nat, rung < 0x7ff0000000000000 → (Ieee.double.read (Ieee.double.word s rung)).isInfinity = false := by
    intro rung hr
    have h1 : Ieee.double.word s rung % 9223372036854775808 = rung := by
      unfold Ieee.Format.word Ieee.double Ieee.Format.signWeight
      simp only [Nat.reduceAdd, Nat.reducePow]
      split <;> omega
    rw [read64, h1]
    split
    · rfl
    · first | rfl | (rw [if_pos (by omega)]; rfl)
  unfold Ieee.Format.write Ieee.Format.nearest
  simp only []
  split
  · exact word 0 (by omega)
  · rename_i h0
    have hl := log2_lt24 h0 hm
    simp only [show Ieee.double.leastPlace = -1074 from rfl, show Ieee.double.fractionBits = 52 from rfl, show Ieee.double.infRung = 0x7ff0000000000000 from rfl, show Ieee.double.binade = 4503599627370496 from rfl]
    have hL : m < 2 ^ (m.log2 + 1) := Nat.lt_log2_self
    generalize m.log2 = L at *
    have hmax : max (e + (L : Int) - ((52 : Nat) : Int)) (-1074) = e + L - 52 := by omega
    rw [hmax]
    have hdrop : ((e + (L : Int) - 52) - e).toNat = 0 := by omega
    have hup : (e - (e + (L : Int) - 52)).toNat = 52 - L := by omega
    rw [hdrop, hup]
    have hcut : Ieee.Toward.even.cut s (m <<< (52 - L)) 0 = m <<< (52 - L) := by
      unfold Ieee.Toward.cut
      have h0 : min 0 (Nat.log2 (m <<< (52 - L)) + 2) = 0 := by omega
      simp only [h0, Nat.shiftLeft_zero, Nat.div_one, Nat.mod_one]
      simp
    rw [hcut]
    apply word
    have hsh : m <<< (52 - L) < 2 ^ 53 := by
      rw [Nat.shiftLeft_eq]
      have h2 : m < 2 ^ (L + 1) := hL
      calc m * 2 ^ (52 - L) < 2 ^ (L + 1) * 2 ^ (52 - L) := Nat.mul_lt_mul_of_pos_right h2 (Nat.two_pow_pos _)
        _ = 2 ^ 53 := by rw [← Nat.pow_add]; congr 1; omega
    have hlt : (e + (L : Int) - 52 - -1074).toNat ≤ 1149 := by omega
    exact rung_bound hlt hsh
end
end Go.Proofs.Ytnjgcacnfobmiaa
