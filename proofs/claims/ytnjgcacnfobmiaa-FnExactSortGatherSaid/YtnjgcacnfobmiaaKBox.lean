/- Two boxes of gathers beside each other. -/
import Derived.Test.YtnjgcacnfobmiaaFKeepI
namespace Go.Proofs.Ytnjgcacnfobmiaa
open Go.RowKit
set_option maxRecDepth 100000
set_option linter.unusedVariables false

def pickV (l : List Nat) (vs : List Value) : List Value := l.map (va vs)
theorem OwnRows.at' {w : World} {base n cap g : Nat} {vs : List Value} {rs : List (List Nat)} (h : OwnRows w base (.slice (some ⟨g, 0, none⟩) n cap) vs rs) {k : Nat} (hk : k < rs.length) :
    ∃ ua uc, va vs k = .slice ua (row rs k).length uc ∧ w.cell? ⟨g, k, none⟩ = some (.slice ua (row rs k).length uc) ∧ w.frozen? ⟨g, k, none⟩ = false := by
  obtain ⟨ua, uc, eu, _⟩ := (h.2.2.1 k (by rw [h.1]; exact hk)).fr
  obtain ⟨g', h1, _, _, h2, h3⟩ := h.at hk
  simp only [Option.some.injEq, Addr.mk.injEq, and_true] at h1
  subst h1
  exact ⟨ua, uc, eu, by rw [← eu]; exact h2, h3⟩
theorem GBox.kept {wr w3 wa : World} {base gO gX BO : Nat} {t : Int} {pv rv x : Value} {vs : List Value} {ps : List Nat} {rs : List (List Nat)} (h : GBox wr base gO t pv rv vs ps rs) (he : Ext wr w3) (hC : Chg (fun q => x.ownBlock = some q) w3 wa) (hx : ∀ q, x.ownBlock = some q → BO ≤ q) (hg : BO ≤ gX) (h1 : gO < BO) (h2 : ∀ q, gB pv rv vs q → q < BO) (i n m : Nat) (v : Value) :
    GBox (((wa.drewN n).setCell ⟨gX, i, none⟩ v).drewN m) base gO t pv rv vs ps rs :=
  ((h.ext he).chg hC (fun e => by have := hx gO e; omega) (fun q hq e => by have := hx q e; have := h2 q hq; omega)).chg (chg_one wa gX i n m v) (fun e => by have e' : gO = gX := e; omega) (fun q hq e => by have e' : q = gX := e; have := h2 q hq; omega)
theorem two_boxes {w5 : World} {base bO cO bR cR : Nat} {t : Int} {vsO : List Value} {ps : List Nat} {rs : List (List Nat)} (hO : OwnG w5 base (.slice (some ⟨bO, 0, none⟩) ps.length cO) (.slice (some ⟨bR, 0, none⟩) rs.length cR) vsO ps rs) (hb : base ≤ w5.heap.size) :
    GBox ((((w5.alloc (.cells #[.int .i64 t, .slice (some ⟨bO, 0, none⟩) ps.length cO, .slice (some ⟨bR, 0, none⟩) rs.length cR] 25)).alloc (.cells #[] 34)).alloc (.cells #[] 22)).alloc (.cells #[.int .i64 t, .slice (some ⟨w5.heap.size + 1, 0, none⟩) 0 0, .slice (some ⟨w5.heap.size + 1 + 1, 0, none⟩) 0 0] 25)) base w5.heap.size t (.slice (some ⟨bO, 0, none⟩) ps.length cO) (.slice (some ⟨bR, 0, none⟩) rs.length cR) vsO ps rs ∧
    GBox ((((w5.alloc (.cells #[.int .i64 t, .slice (some ⟨bO, 0, none⟩) ps.length cO, .slice (some ⟨bR, 0, none⟩) rs.length cR] 25)).alloc (.cells #[] 34)).alloc (.cells #[] 22)).alloc (.cells #[.int .i64 t, .slice (some ⟨w5.heap.size + 1, 0, none⟩) 0 0, .slice (some ⟨w5.heap.size + 1 + 1, 0, none⟩) 0 0] 25)) base (w5.heap.size + 1 + 1 + 1) t (.slice (some ⟨w5.heap.size + 1, 0, none⟩) 0 0) (.slice (some ⟨w5.heap.size + 1 + 1, 0, none⟩) 0 0) [] [] [] ∧
    Ext w5 ((((w5.alloc (.cells #[.int .i64 t, .slice (some ⟨bO, 0, none⟩) ps.length cO, .slice (some ⟨bR, 0, none⟩) rs.length cR] 25)).alloc (.cells #[] 34)).alloc (.cells #[] 22)).alloc (.cells #[.int .i64 t, .slice (some ⟨w5.heap.size + 1, 0, none⟩) 0 0, .slice (some ⟨w5.heap.size + 1 + 1, 0, none⟩) 0 0] 25)) := by
  have hl := hO.lt
  have he : Ext w5 ((((w5.alloc (.cells #[.int .i64 t, .slice (some ⟨bO, 0, none⟩) ps.length cO, .slice (some ⟨bR, 0, none⟩) rs.length cR] 25)).alloc (.cells #[] 34)).alloc (.cells #[] 22)).alloc (.cells #[.int .i64 t, .slice (some ⟨w5.heap.size + 1, 0, none⟩) 0 0, .slice (some ⟨w5.heap.size + 1 + 1, 0, none⟩) 0 0] 25)) := ((((Ext.refl w5).alloc _).alloc _).alloc _).alloc _
  refine ⟨⟨heap_past (heap_past (heap_past (heap_here rfl))), hb, hO.ext he, fun k hk => by have := (hl k hk).2; omega⟩, ⟨heap_here (by simp only [size_alloc]), by omega, ⟨(show RowOk #[] 0 [] from ⟨Nat.le_refl _, by unfold maxLen; omega, rfl, rfl⟩).own (heap_past (heap_past (heap_here (by simp only [size_alloc])))) (by omega), ownRows_at (heap_past (heap_here (by simp only [size_alloc]))) (by omega), fun k e => ⟨fun e' => ?_, fun ⟨i, hi, _⟩ => by simp at hi⟩⟩, fun k hk => ?_⟩, he⟩
  · injection e with e
    injection e' with e'
    have h1 : w5.heap.size + 1 = k := e
    have h2 : w5.heap.size + 1 + 1 = k := e'
    omega
  · rcases hk with e | e | ⟨i, hi, _⟩
    · injection e with e; have h1 : w5.heap.size + 1 = k := e; omega
    · injection e with e; have h1 : w5.heap.size + 1 + 1 = k := e; omega
    · simp at hi
theorem keepI_nodup (ps : List Nat) (s1 s2 n : Nat) (vs : List Value) (j : Nat) (hj : j < (pickV (keepI ps s1 s2 n) vs).length) : va (pickV (keepI ps s1 s2 n) vs) j = va vs (elv (keepI ps s1 s2 n) j) ∧ elv (keepI ps s1 s2 n) j < n := by
  have hj' : j < (keepI ps s1 s2 n).length := by simpa [pickV] using hj
  refine ⟨?_, keepI_lt _ _ _ _ _ hj'⟩
  rw [elv_eq hj']
  unfold pickV va
  simp [List.getD, hj']
theorem apart_ne {u v : Value} {N : Nat} (hf : ∀ q, u.ownBlock = some q → q < N) (hv : ∀ q, v.ownBlock = some q → N ≤ q) : u.ownBlock ≠ v.ownBlock ∨ u.ownBlock = none := by
  cases h : u.ownBlock with
  | none => exact .inr rfl
  | some q => exact .inl (fun e => by have h1 := hf q h; have h2 := hv q e.symm; omega)
theorem pick_snoc (l : List Nat) (k : Nat) (ps : List Nat) : pick (l ++ [k]) ps = pick l ps ++ [el ps k] := by simp [pick]
theorem pickR_snoc (l : List Nat) (k : Nat) (rs : List (List Nat)) : pickR (l ++ [k]) rs = pickR l rs ++ [row rs k] := by simp [pickR]
theorem pickV_snoc (l : List Nat) (k : Nat) (vs : List Value) : pickV (l ++ [k]) vs = pickV l vs ++ [va vs k] := by simp [pickV]
end Go.Proofs.Ytnjgcacnfobmiaa
