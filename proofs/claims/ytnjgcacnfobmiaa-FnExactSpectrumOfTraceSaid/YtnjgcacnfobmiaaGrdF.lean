/- Facts of floats for the ground: the least way of a head wave is a number, a half is a half. -/
import Derived.Test.YtnjgcacnfobmiaaGrdD
import Derived.Test.YtnjgcacnfobmiaaFlr
namespace Go.Proofs.Ytnjgcacnfobmiaa
open Ieee
set_option linter.unusedVariables false

theorem finK_mg {k : FloatKind} {s : Nat} (h : finK k s = true) : mg k s < inf k := by
  rcases Nat.lt_trichotomy (mg k s) (inf k) with h1 | h1 | h1
  · exact h1
  · unfold finK at h
    rw [read_inf h1] at h
    cases h
  · have : isNan k s = true := by rw [isNan_mg]; simp; omega
    rw [finK_nan this] at h; cases h
theorem mg_finK {k : FloatKind} {s : Nat} (h : mg k s < inf k) : finK k s = true := by
  obtain ⟨m, e, e1, _, _⟩ := read_fin h
  unfold finK
  rw [e1]
/-- A number that is finite and above 0. -/
structure Pos (s : Nat) : Prop where
  sg : fs .f32 s = false
  lo : 0 < mg .f32 s
  hi : mg .f32 s < inf .f32
theorem sv_zero0 : sv .f32 (canon .f32 0) = 0 := by decide +kernel
theorem zero_fin0 : mg .f32 (canon .f32 0) < inf .f32 := by decide +kernel
theorem vl_ne {r : Nat} (h : 0 < r) : 0 < vl .f32 r := by
  have h1 : ¬ vl .f32 r ≤ vl .f32 0 := by rw [vl_le]; omega
  rw [vl_zero] at h1
  omega
theorem hardB_pos {s : Nat} (h : hardB s = true) : Pos s := by
  unfold hardB at h
  simp only [Bool.and_eq_true] at h
  have h1 := finK_mg h.1
  have h2 := h.2
  rw [fcmp_fin h1 zero_fin0] at h2
  have h3 : sv .f32 (canon .f32 0) < sv .f32 s := of_decide_eq_true h2
  rw [sv_zero0] at h3
  unfold sv at h3
  cases hs : fs .f32 s with
  | true => rw [hs] at h3; simp only [if_true] at h3; omega
  | false =>
    rw [hs] at h3
    simp only [Bool.false_eq_true, if_false] at h3
    refine ⟨hs, ?_, h1⟩
    rcases Nat.eq_zero_or_pos (mg .f32 s) with h4 | h4
    · rw [h4, vl_zero] at h3; omega
    · exact h4
theorem pos_of {r : Nat} (h0 : 0 < r) (h1 : r < inf .f32) : Pos r := ⟨fs_small (Nat.le_of_lt h1), by rw [mg_small (Nat.le_of_lt h1)]; exact h0, by rw [mg_small (Nat.le_of_lt h1)]; exact h1⟩
theorem nv_ne {m : Nat} {e : Int} (h : 0 < nv m e) : m ≠ 0 := fun h0 => by
  subst h0
  unfold nv at h
  rw [Nat.zero_mul] at h
  exact Nat.lt_irrefl _ h
theorem word_inf (k : FloatKind) : k.format.word false k.format.infRung = inf k := rfl
theorem add_nn {a b : Nat} (ha : a ≤ inf .f32) (hb : b ≤ inf .f32) : fop .add .f32 a b ≤ inf .f32 := by
  have ra : mg .f32 a = a := mg_small ha
  have rb : mg .f32 b = b := mg_small hb
  have sa := fs_small ha
  have sb := fs_small hb
  rcases Nat.lt_or_eq_of_le ha with h1 | h1
  · rcases Nat.lt_or_eq_of_le hb with h2 | h2
    · obtain ⟨u, T, e, h3, _⟩ := add_fin (k := .f32) (x := a) (y := b) (by rw [ra]; exact h1) (by rw [rb]; exact h2)
      rw [e, (h3 (by rw [sa, sb])).1, sa, mk_false]
      exact RR_inf _ _
    · obtain ⟨m, i, e1, _, _⟩ := read_fin (k := .f32) (b := a) (by rw [ra]; exact h1)
      have e2 : FloatKind.f32.format.read b = .infinity (fs .f32 b) := read_inf (by rw [rb]; exact h2)
      have h5 : fop .add .f32 a b = inf .f32 := by
        apply fop_of
        show FloatKind.f32.format.add a b = _
        unfold Format.add
        rw [e1, e2, sb]
        rfl
      rw [h5]; exact Nat.le_refl _
  · have e1 : FloatKind.f32.format.read a = .infinity (fs .f32 a) := read_inf (by rw [ra]; exact h1)
    have h5 : fop .add .f32 a b = inf .f32 := by
      apply fop_of
      show FloatKind.f32.format.add a b = _
      unfold Format.add
      rw [e1, sa]
      rcases Nat.lt_or_eq_of_le hb with h2 | h2
      · obtain ⟨m, i, e3, _, _⟩ := read_fin (k := .f32) (b := b) (by rw [rb]; exact h2)
        rw [e3]; rfl
      · have e2 : FloatKind.f32.format.read b = .infinity (fs .f32 b) := read_inf (by rw [rb]; exact h2)
        rw [e2, sb]; rfl
    rw [h5]; exact Nat.le_refl _
theorem mul_pos {a b : Nat} (ha : a ≤ inf .f32) (hb : Pos b) : fop .mul .f32 a b ≤ inf .f32 ∧ (a = inf .f32 → fop .mul .f32 a b = inf .f32) := by
  have ra : mg .f32 a = a := mg_small ha
  have sa := fs_small ha
  rcases Nat.lt_or_eq_of_le ha with h1 | h1
  · obtain ⟨T, e, _⟩ := mul_fin (k := .f32) (x := a) (y := b) (by rw [ra]; exact h1) hb.hi
    rw [e, sa, hb.sg, Bool.xor_self, mk_false]
    exact ⟨RR_inf _ _, fun h => by omega⟩
  · have e1 : FloatKind.f32.format.read a = .infinity (fs .f32 a) := read_inf (by rw [ra]; exact h1)
    obtain ⟨m, i, e3, h3, h4⟩ := read_fin hb.hi
    have hm : m ≠ 0 := fun h => by
      have := vl_ne hb.lo
      rw [← h4] at this
      exact nv_ne this h
    have h5 : fop .mul .f32 a b = inf .f32 := by
      apply fop_of
      show FloatKind.f32.format.mul a b = _
      unfold Format.mul
      rw [e1, e3, sa, hb.sg]
      simp only [Datum.product, if_neg hm]
      rfl
    rw [h5]
    exact ⟨Nat.le_refl _, fun _ => rfl⟩
theorem quo_pos {a b : Nat} (ha : fs .f32 a = false) (ha2 : mg .f32 a < inf .f32) (hb : Pos b) : fop .quo .f32 a b ≤ inf .f32 := by
  obtain ⟨Q, e, _⟩ := quo_fin (k := .f32) ha2 hb.hi (by have := hb.lo; omega)
  rw [e, ha, hb.sg, Bool.xor_self, mk_false]
  exact RR_inf _ _
theorem root_low {A m : Nat} {e q : Int} {more : Nat} (he : e - more = 2 * q) (he0 : -1074 ≤ e) (hmore : more + m.log2 ≤ 109) (hv : tp 3947 ≤ nv m e) (hA : 1 ≤ A) : tp 3966 ≤ nv A (q - 1) := by
  obtain ⟨E, hE⟩ : ∃ E : Nat, (E : Int) = e + 4096 := ⟨(e + 4096).toNat, by omega⟩
  have h1 : nv m e < tp (m.log2 + 1 + E) := by
    unfold nv
    rw [show (e + 4096).toNat = E by omega, ← tp_add]
    exact Nat.mul_lt_mul_of_pos_right Nat.lt_log2_self (Nat.two_pow_pos _)
  have h2 := tp_lt (Nat.lt_of_le_of_lt hv h1)
  unfold nv
  refine Nat.le_trans ?_ (Nat.le_mul_of_pos_left _ hA)
  exact tp_le (by omega)
theorem vl_one : vl .f32 1 = tp 3947 := by decide +kernel
theorem low_vl64 : vl .f64 (RR FloatKind.f64.format (tp 3966)) = tp 3966 := by decide +kernel
theorem low_pos32 : 0 < RR FloatKind.f32.format (tp 3966) := by decide +kernel
/-- The root of a number above 0 is above 0, and finite. -/
theorem root_pos {t : Nat} (ht : Pos t) : Pos (rootF t) := by
  obtain ⟨r, hr, e, hv⟩ := widen_fin ht.hi
  unfold rootF
  rw [e, ht.sg]
  have h1 := mg_mk .f64 false (Nat.le_of_lt hr)
  obtain ⟨m, i, e1, h2, h3⟩ := read_fin (b := mk .f64 false r) (by rw [h1]; exact hr)
  rw [h1, hv] at h3
  rw [fs_mk _ _ (Nat.le_of_lt hr)] at e1
  have h4 : nv m i < tp 4224 := by
    rw [h3, ← vl_inf32]
    unfold vl
    exact vg_lt ht.hi
  have h5 : tp 3947 ≤ nv m i := by
    rw [h3, ← vl_one]
    exact vl_le.2 ht.lo
  have hm : m ≠ 0 := nv_ne (Nat.lt_of_lt_of_le (tp_pos 3947) h5)
  have hm2 := (read_bounds e1).1
  have hlg : m.log2 < 53 := (Nat.log2_lt hm).2 hm2
  have key : ∃ N, tp 3966 ≤ N ∧ N ≤ tp 4161 ∧ fsqrt (mk .f64 false r) = mk .f64 false (RR FloatKind.f64.format N) := by
    unfold fsqrt Ieee.Format.sqrt
    rw [e1]
    unfold Ieee.Datum.root
    simp only [if_neg hm, Bool.false_eq_true, if_false, Option.map_some, Option.getD_some]
    have hF : FloatKind.f64.format.fractionBits = 52 := rfl
    rw [hF]
    generalize hmo : 2 * (52 + 2) - m.log2 = mo
    have hmo2 : mo ≤ 108 := by omega
    generalize hmm : mo + ((i - (mo : Int)) % 2).toNat = more
    have hmore : more ≤ 200 := by omega
    obtain ⟨q, hq⟩ : ∃ q : Int, i - (more : Int) = 2 * q := ⟨(i - (more : Int)) / 2, by omega⟩
    have hq2 : (i - (more : Int)) / 2 = q := by omega
    rw [hq2]
    have hA := rootFrom_sq (m <<< more) ((m <<< more).log2 / 2 + 1) 0 (Nat.zero_le _)
    have hn0 : m <<< more ≠ 0 := by
      rw [Nat.shiftLeft_eq]
      exact Nat.ne_of_gt (Nat.mul_pos (by omega) (Nat.two_pow_pos _))
    generalize hR : Ieee.Datum.rootFrom (m <<< more) ((m <<< more).log2 / 2 + 1) 0 = A at hA
    have hA1 : 1 ≤ 2 * A + (A * A != m <<< more).toNat := by
      rcases Nat.eq_zero_or_pos A with h | h
      · subst h
        have : (0 * 0 != m <<< more) = true := by simp only [bne_iff_ne]; omega
        rw [this]; decide
      · omega
    rw [Nat.shiftLeft_eq] at hA
    have e2 : FloatKind.f64.format.write (.number false (2 * A + (A * A != m <<< more).toNat) (q - 1)) = mk .f64 false (RR FloatKind.f64.format (nv (2 * A + (A * A != m <<< more).toNat) (q - 1))) := nearest_mk .f64 _ _ _ (by omega)
    have hmo3 : more + m.log2 ≤ 109 := by omega
    have hb2 : (A * A != m <<< more).toNat ≤ 1 := by cases (A * A != m <<< more) <;> decide
    rw [e2]
    exact ⟨nv (2 * A + (A * A != m <<< more).toNat) (q - 1), root_low hq h2 hmo3 h5 hA1, root_bound hA hq h2 hmore hm h4 _ hb2, rfl⟩
  obtain ⟨N, hN1, hN2, hN⟩ := key
  rw [hN]
  have g1 : RR FloatKind.f64.format N ≤ RR FloatKind.f64.format (tp 4161) := RR_mono _ hN2
  have g2 : RR FloatKind.f64.format N < inf .f64 := Nat.lt_of_le_of_lt g1 big_fin64
  have g3 := mg_mk .f64 false (Nat.le_of_lt g2)
  have g4 : vl .f64 (RR FloatKind.f64.format N) ≤ tp 4161 := by rw [← big_vl64]; exact vl_le.2 g1
  have g5 : tp 3966 ≤ vl .f64 (RR FloatKind.f64.format N) := by rw [← low_vl64]; exact vl_le.2 (RR_mono _ hN1)
  have g6 : RR FloatKind.f32.format (vl .f64 (RR FloatKind.f64.format N)) < inf .f32 := Nat.lt_of_le_of_lt (RR_mono _ g4) big_fin32
  have g7 := (narrow_fin (s := mk .f64 false (RR FloatKind.f64.format N)) (by rw [g3]; exact g2) (by rw [g3]; exact g6)).1
  have g8 : RR FloatKind.f32.format (tp 3966) ≤ RR FloatKind.f32.format (vl .f64 (RR FloatKind.f64.format N)) := RR_mono _ g5
  have g9 := Nat.lt_of_lt_of_le low_pos32 g8
  rw [g7, g3, fs_mk _ _ (Nat.le_of_lt g2), mk_false]
  exact pos_of g9 g6
theorem one_fin : mg .f32 (canon .f32 1065353216) < inf .f32 := by decide +kernel
theorem one_eq : canon .f32 1065353216 = 1065353216 := by decide +kernel
theorem one_le : 1065353216 ≤ inf .f32 := by decide +kernel
theorem sq_top : mg .f32 (fop .mul .f32 1065353215 1065353215) ≤ 1065353214 := by decide +kernel
theorem gap_one : 0 < RR FloatKind.f32.format (vl .f32 1065353216 - vl .f32 1065353214) ∧ RR FloatKind.f32.format (vl .f32 1065353216) < inf .f32 := by decide +kernel
theorem lt_one : vl .f32 1065353214 < vl .f32 1065353216 := by decide +kernel
theorem big_mul : mg .f32 (fop .mul .f32 2139095039 1065353215) < inf .f32 := by decide +kernel
theorem inf32 : inf .f32 = 2139095040 := by decide +kernel
/-- The cosine of a sine below 1 is above 0. -/
theorem cos_pos {s : Nat} (h : s < 1065353216) : Pos (cosV s) := by
  unfold cosV
  apply root_pos
  have hi := inf32
  have rs : mg .f32 s = s := mg_small (by omega)
  have h1 : mg .f32 (fop .mul .f32 s s) ≤ 1065353214 := Nat.le_trans (mul_lim (k := .f32) (X := 1065353215) (Y := 1065353215) (by omega) (by omega) (by omega) (by omega)) sq_top
  obtain ⟨T, e, _⟩ := mul_fin (k := .f32) (x := s) (y := s) (by omega) (by omega)
  rw [Bool.xor_self, mk_false] at e
  have hle := RR_inf .f32 T
  rw [e, mg_small hle] at h1
  rw [e, one_eq]
  generalize RR FloatKind.f32.format T = r at *
  have r1 : mg .f32 1065353216 = 1065353216 := mg_small one_le
  obtain ⟨u, T', e', _, h3⟩ := sub_fin (k := .f32) (x := 1065353216) (y := r) (by rw [r1]; omega) (by rw [mg_small hle]; omega)
  have s1 : fs .f32 1065353216 = false := fs_small one_le
  have h4 := h3 (by rw [s1, fs_small hle])
  rw [r1, mg_small hle] at h4
  have h5 : vl .f32 r ≤ vl .f32 1065353214 := vl_le.2 h1
  have h6 := lt_one
  rw [e', h4.2.1 (by omega), s1, mk_false]
  refine pos_of ?_ ?_
  · refine Nat.lt_of_lt_of_le gap_one.1 (RR_mono _ ?_)
    rw [h4.1]; omega
  · refine Nat.lt_of_le_of_lt (RR_mono _ ?_) gap_one.2
    rw [h4.1]; omega
theorem quo_one {v : Nat} (hv : Pos v) : fop .quo .f32 (canon .f32 1065353216) v ≤ inf .f32 := quo_pos (by decide +kernel) one_fin hv
/-- A sine below 1. -/
theorem sine_small {p v : Nat} (hp : p ≤ inf .f32) (hv : Pos v) (h : fcmp .lss .f32 (fop .mul .f32 p v) (canon .f32 1065353216) = true) : fop .mul .f32 p v < 1065353216 ∧ p < inf .f32 := by
  obtain ⟨h1, h2⟩ := mul_pos hp hv
  rw [one_eq, fcmp_small h1 one_le] at h
  have h3 : fop .mul .f32 p v < 1065353216 := of_decide_eq_true h
  refine ⟨h3, ?_⟩
  rcases Nat.lt_or_eq_of_le hp with h4 | h4
  · exact h4
  · rw [h2 h4, inf32] at h3; omega
/-- The way in one layer is no NaN. -/
theorem way_nn {t p v : Nat} (ht : Pos t) (hp : p ≤ inf .f32) (hv : Pos v) (h : fcmp .lss .f32 (fop .mul .f32 p v) (canon .f32 1065353216) = true) :
    fop .quo .f32 (fop .mul .f32 t (fop .mul .f32 p v)) (cosV (fop .mul .f32 p v)) ≤ inf .f32 := by
  obtain ⟨h1, _⟩ := sine_small hp hv h
  generalize fop .mul .f32 p v = s at *
  have hi := inf32
  have rs : mg .f32 s = s := mg_small (by omega)
  have h2 : mg .f32 (fop .mul .f32 t s) < inf .f32 := Nat.lt_of_le_of_lt (mul_lim (k := .f32) (X := 2139095039) (Y := 1065353215) (by omega) (by omega) (by have := ht.hi; omega) (by omega)) big_mul
  refine quo_pos ?_ h2 (cos_pos h1)
  obtain ⟨T, e, _⟩ := mul_fin (k := .f32) (x := t) (y := s) ht.hi (by omega)
  rw [e, ht.sg, fs_small (show s ≤ inf .f32 by omega), Bool.xor_self, mk_false]
  exact fs_small (RR_inf _ _)
theorem two_pos : Pos 1073741824 := pos_of (by omega) (by rw [inf32]; omega)
theorem mul_comm32 {a b : Nat} (ha : a ≤ inf .f32) (hb : Pos b) : fop .mul .f32 b a ≤ inf .f32 := by
  have ra : mg .f32 a = a := mg_small ha
  have sa := fs_small ha
  rcases Nat.lt_or_eq_of_le ha with h1 | h1
  · obtain ⟨T, e, _⟩ := mul_fin (k := .f32) (x := b) (y := a) hb.hi (by rw [ra]; exact h1)
    rw [e, sa, hb.sg, Bool.xor_self, mk_false]
    exact RR_inf _ _
  · have e1 : FloatKind.f32.format.read a = .infinity (fs .f32 a) := read_inf (by rw [ra]; exact h1)
    obtain ⟨m, i, e3, h3, h4⟩ := read_fin hb.hi
    have hm : m ≠ 0 := fun h => by
      have := vl_ne hb.lo
      rw [← h4] at this
      exact nv_ne this h
    have h5 : fop .mul .f32 b a = inf .f32 := by
      apply fop_of
      show FloatKind.f32.format.mul b a = _
      unfold Format.mul
      rw [e1, e3, sa, hb.sg]
      simp only [Datum.product, if_neg hm]
      rfl
    rw [h5]
    exact Nat.le_refl _
theorem nan_of_le {r : Nat} (h : r ≤ inf .f32) : isNan .f32 r = false := by rw [isNan_mg, mg_small h]; simp; omega
theorem order_total {k : FloatKind} {x y : Nat} (hx : isNan k x = false) (hy : isNan k y = false) : ∃ o, k.format.order x y = some o := by
  unfold Format.order
  rcases read_not hx with ⟨s, m, e, h1⟩ | ⟨s, h1⟩ <;> rcases read_not hy with ⟨t, n, j, h2⟩ | ⟨t, h2⟩ <;> rw [h1, h2] <;> exact ⟨_, rfl⟩
theorem leq_gtr {k : FloatKind} {x y : Nat} (hx : isNan k x = false) (hy : isNan k y = false) : fcmp .leq k x y = !fcmp .gtr k x y := by
  obtain ⟨o, ho⟩ := order_total hx hy
  unfold fcmp
  rw [ho]
  cases o <;> rfl
/-- The head wave's two tests of its least way. -/
theorem least_same {l way : Nat} (hl : l ≤ inf .f32) (hw : finK .f32 way = true) : fcmp .leq .f32 (fop .mul .f32 (canon .f32 1073741824) l) way = !fcmp .gtr .f32 (fop .mul .f32 (canon .f32 1073741824) l) way := by
  have e : canon .f32 1073741824 = 1073741824 := by decide +kernel
  rw [e]
  refine leq_gtr (nan_of_le (mul_comm32 hl two_pos)) ?_
  have := finK_mg hw
  rw [isNan_mg]; simp; omega
/-! ### Halves -/
theorem two_eq : canon .f32 1073741824 = 1073741824 := by decide +kernel
theorem half_eq : canon .f32 1056964608 = 1056964608 := by decide +kernel
theorem read_two : FloatKind.f32.format.read 1073741824 = .number false 8388608 (-22) := by decide +kernel
theorem read_half : FloatKind.f32.format.read 1056964608 = .number false 8388608 (-24) := by decide +kernel
/-- What is halved by two is what a half makes of it. -/
theorem half_same (x : Nat) : fop .quo .f32 x (canon .f32 1073741824) = fop .mul .f32 (canon .f32 1056964608) x := by
  rw [two_eq, half_eq]
  rcases Nat.lt_trichotomy (mg .f32 x) (inf .f32) with h | h | h
  · obtain ⟨m, i, e1, h1, h2⟩ := read_fin h
    obtain ⟨hm24, hi1, hi2⟩ := read_single_bounds x e1
    generalize fs .f32 x = s at *
    have a1 : fop .mul .f32 1056964608 x = mk .f32 (false ^^ s) (RR FloatKind.f32.format (nv (8388608 * m) (-24 + i))) := by
      apply fop_of
      show FloatKind.f32.format.mul 1056964608 x = _
      unfold Format.mul
      rw [e1, read_half]
      simp only [Datum.product, Option.map_some, Format.write]
      rw [nearest_mk _ _ _ _ (by omega)]
    have hlg : m.log2 < 24 := by
      by_cases hm : m = 0
      · subst hm; decide +kernel
      · exact log2_lt24 hm hm24
    have hl2 : (8388608 : Nat).log2 = 23 := by decide +kernel
    obtain ⟨c, hc⟩ : ∃ c, 25 + 23 - m.log2 = c + 23 := ⟨25 - m.log2, by omega⟩
    have hd : m <<< (c + 23) = m * 2 ^ c * 8388608 := by rw [Nat.shiftLeft_eq, Nat.pow_add, ← Nat.mul_assoc]
    have a2 : fop .quo .f32 x 1073741824 = mk .f32 (s ^^ false) (RR FloatKind.f32.format (nv (2 * (m * 2 ^ c)) (i - -22 - (c + 23 : Nat) - 1))) := by
      apply fop_of
      show FloatKind.f32.format.div x 1073741824 = _
      unfold Format.div
      rw [e1, read_two]
      have hF : FloatKind.f32.format.fractionBits + 2 = 25 := rfl
      simp only [Datum.quotient, hF, hl2, hc, hd, if_neg (show ¬ (8388608 : Nat) = 0 by omega), Option.map_some, Format.write]
      rw [Nat.mul_div_cancel _ (by omega), Nat.mul_mod_left]
      rw [nearest_mk _ _ _ _ (by omega)]
      rfl
    rw [a1, a2]
    have hcc : c ≤ 25 := by omega
    have e3 : nv (2 * (m * 2 ^ c)) (i - -22 - (c + 23 : Nat) - 1) = nv (8388608 * m) (-24 + i) := by
      unfold nv
      obtain ⟨J, hJ⟩ : ∃ J : Nat, (J : Int) = i + 4096 - 24 := ⟨(i + 4096 - 24).toNat, by omega⟩
      rw [show (-24 + i + 4096).toNat = J by omega]
      have h5 : c + 1 + (i - -22 - ((c + 23 : Nat) : Int) - 1 + 4096).toNat = 23 + J := by omega
      rw [show 2 * (m * 2 ^ c) = m * 2 ^ (c + 1) by rw [Nat.pow_succ]; ac_rfl, Nat.mul_assoc, ← Nat.pow_add, h5, Nat.pow_add, ← Nat.mul_assoc, Nat.mul_comm m]
    rw [e3]
    cases s <;> rfl
  · have e1 : FloatKind.f32.format.read x = .infinity (fs .f32 x) := read_inf h
    have a1 : fop .mul .f32 1056964608 x = FloatKind.f32.format.write (.infinity (fs .f32 x ^^ false)) := by
      apply fop_of
      show FloatKind.f32.format.mul 1056964608 x = _
      unfold Format.mul
      rw [e1, read_half]
      simp only [Datum.product, if_neg (show ¬ (8388608 : Nat) = 0 by omega)]
      rfl
    have a2 : fop .quo .f32 x 1073741824 = FloatKind.f32.format.write (.infinity (fs .f32 x ^^ false)) := by
      apply fop_of
      show FloatKind.f32.format.div x 1073741824 = _
      unfold Format.div
      rw [e1, read_two]; rfl
    rw [a1, a2]
  · have hn : isNan .f32 x = true := by rw [isNan_mg]; simp; omega
    unfold fop
    rw [floatBits_nan (.inl hn), floatBits_nan (.inr hn)]
theorem half_pos : Pos 1056964608 := pos_of (by omega) (by rw [inf32]; omega)
/-- The middle of two that are not below 0. -/
theorem mid_nn {x y : Nat} (hx : x ≤ inf .f32) (hy : y ≤ inf .f32) : fop .mul .f32 (canon .f32 1056964608) (fop .add .f32 x y) ≤ inf .f32 := by
  rw [half_eq]
  exact mul_comm32 (add_nn hx hy) half_pos
theorem slow_nn {p : Nat} (h : p ≤ inf .f32) : slowB p = true := by
  have e : canon .f32 0 = 0 := by decide +kernel
  unfold slowB
  rw [e, fcmp_small h (Nat.zero_le _)]
  simp
end Go.Proofs.Ytnjgcacnfobmiaa
