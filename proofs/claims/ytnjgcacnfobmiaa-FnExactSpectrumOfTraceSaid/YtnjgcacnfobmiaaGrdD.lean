/- What the functions over a ground compute, in plain lists. -/
import Derived.Test.YtnjgcacnfobmiaaGrd
import Derived.Test.YtnjgcacnfobmiaaAre
import Derived.Test.YtnjgcacnfobmiaaSqr
namespace Go.Proofs.Ytnjgcacnfobmiaa
open Go.RowKit
set_option maxRecDepth 100000
set_option linter.unusedVariables false

def one32 : Nat := 1065353216
def lay (ls : List Nat) (i j : Nat) : Nat := el ls (i * 4 + j)
def lossB (s : Nat) : Bool := fcmp .geq .f32 s (canon .f32 0) && fcmp .lss .f32 s (canon .f32 1065353216)
def layB (ls : List Nat) (i : Nat) : Bool := hardB (lay ls i 0) && (hardB (lay ls i 1) && (hardB (lay ls i 2) && lossB (lay ls i 3)))
def layAll (ls : List Nat) : Nat → Bool
  | 0 => true
  | k + 1 => layAll ls k && layB ls k
def grdB (n : Nat) (ls : List Nat) (sp de : Nat) : Bool := inB (n : Int) 1 12 && (hardB sp && (hardB de && layAll ls n))
theorem layAll_not {ls : List Nat} {k n : Nat} (hk : k < n) (h : layB ls k = false) : layAll ls n = false := by
  induction n with
  | zero => omega
  | succ n ih =>
    show (layAll ls n && layB ls n) = false
    by_cases h1 : k = n
    · subst h1; rw [h, Bool.and_false]
    · rw [ih (by omega), Bool.false_and]
theorem layAll_at {ls : List Nat} {k n : Nat} (hk : k < n) (h : layAll ls n = true) : layB ls k = true := by
  cases hb : layB ls k with
  | true => rfl
  | false => rw [layAll_not hk hb] at h; cases h
def spdG (n : Nat) (ls : List Nat) (sp : Nat) (k : Nat) : Nat := if k < n then lay ls k 1 else sp
def sinG (n : Nat) (ls : List Nat) (sp : Nat) (k p : Nat) : Nat := fop .mul .f32 p (spdG n ls sp k)
def cosV (s : Nat) : Nat := rootF (fop .sub .f32 (canon .f32 1065353216) (fop .mul .f32 s s))
def cosO (n : Nat) (ls : List Nat) (sp : Nat) (k p : Nat) : Option Nat := if fcmp .lss .f32 (sinG n ls sp k p) (canon .f32 1065353216) then some (cosV (sinG n ls sp k p)) else none
/-- The time and the way of a ray behind k layers. -/
def rayS (n : Nat) (ls : List Nat) (sp p : Nat) : Nat → Option (Nat × Nat)
  | 0 => some (canon .f32 0, canon .f32 0)
  | k + 1 => match rayS n ls sp p k, cosO n ls sp k p with
    | some x, some c => some (fop .add .f32 x.1 (fop .quo .f32 (lay ls k 0) (fop .mul .f32 (lay ls k 1) c)), fop .add .f32 x.2 (fop .quo .f32 (fop .mul .f32 (lay ls k 0) (fop .mul .f32 p (lay ls k 1))) c))
    | _, _ => none
/-- Two numbers, if they are finite. -/
def fin2 (o : Option (Nat × Nat)) : Option (Nat × Nat) := match o with
  | some x => if finK .f32 x.1 && finK .f32 x.2 then some x else none
  | none => none
def bndB (n : Nat) (ls : List Nat) (sp de : Nat) (k : Int) : Bool := grdB n ls sp de && inB k 0 ((n : Int) - 1)
def slowB (p : Nat) : Bool := fcmp .geq .f32 p (canon .f32 0)
def wayB (p : Nat) : Bool := finK .f32 p && fcmp .geq .f32 p (canon .f32 0)
def rayG (n : Nat) (ls : List Nat) (sp : Nat) (k : Nat) (p : Nat) : Option (Nat × Nat) := fin2 (rayS n ls sp p (k + 1))
def rayO (n : Nat) (ls : List Nat) (sp de : Nat) (k : Int) (p : Nat) : Option (Nat × Nat) := if bndB n ls sp de k && slowB p then rayG n ls sp k.toNat p else none
def dbl (x : Nat × Nat) : Nat × Nat := (fop .mul .f32 (canon .f32 1073741824) x.1, fop .mul .f32 (canon .f32 1073741824) x.2)
def echG (n : Nat) (ls : List Nat) (sp : Nat) (k : Nat) (p : Nat) : Option (Nat × Nat) := fin2 ((rayG n ls sp k p).map dbl)
def echRO (n : Nat) (ls : List Nat) (sp de : Nat) (k : Int) (p : Nat) : Option (Nat × Nat) := if bndB n ls sp de k && slowB p then echG n ls sp k.toNat p else none
/-- The greatest speed of the first k + 1 layers. -/
def mostG (ls : List Nat) : Nat → Nat
  | 0 => lay ls 0 1
  | k + 1 => if fcmp .gtr .f32 (lay ls (k + 1) 1) (mostG ls k) then lay ls (k + 1) 1 else mostG ls k
def stpG (ls : List Nat) (k : Nat) : Nat := fop .quo .f32 (canon .f32 1065353216) (mostG ls k)
/-- The search of ShootRay: low and high behind j rounds. -/
def midG (x : Nat × Nat) : Nat := fop .mul .f32 (canon .f32 1056964608) (fop .add .f32 x.1 x.2)
def upB (n : Nat) (ls : List Nat) (sp : Nat) (k : Nat) (way p : Nat) : Bool := match echG n ls sp k p with
  | some x => fcmp .gtr .f32 x.2 way
  | none => true
def shtS (n : Nat) (ls : List Nat) (sp : Nat) (k : Nat) (way : Nat) : Nat → Nat × Nat
  | 0 => (canon .f32 0, stpG ls k)
  | j + 1 => let x := shtS n ls sp k way j
    if upB n ls sp k way (midG x) then (x.1, midG x) else (midG x, x.2)
def shtO (n : Nat) (ls : List Nat) (sp de : Nat) (k : Int) (way : Nat) : Option (Nat × Nat) :=
  if bndB n ls sp de k && (wayB way && finK .f32 (stpG ls k.toNat)) then (echG n ls sp k.toNat (shtS n ls sp k.toNat way 30).1).map (fun x => ((shtS n ls sp k.toNat way 30).1, x.1)) else none
/-- The head wave's time and least way behind j layers. -/
def hedP (n : Nat) (ls : List Nat) (sp : Nat) (k : Nat) : Nat := fop .quo .f32 (canon .f32 1065353216) (spdG n ls sp (k + 1))
def hedS (n : Nat) (ls : List Nat) (sp : Nat) (p way : Nat) : Nat → Option (Nat × Nat)
  | 0 => some (fop .mul .f32 way p, canon .f32 0)
  | k + 1 => match hedS n ls sp p way k, cosO n ls sp k p with
    | some x, some c => some (fop .add .f32 x.1 (fop .mul .f32 (canon .f32 1073741824) (fop .quo .f32 (fop .mul .f32 (lay ls k 0) c) (lay ls k 1))), fop .add .f32 x.2 (fop .quo .f32 (fop .mul .f32 (lay ls k 0) (fop .mul .f32 p (lay ls k 1))) c))
    | _, _ => none
def hedG (n : Nat) (ls : List Nat) (sp : Nat) (k : Nat) (way : Nat) : Option Nat := match hedS n ls sp (hedP n ls sp k) way (k + 1) with
  | some x => if fcmp .leq .f32 (fop .mul .f32 (canon .f32 1073741824) x.2) way && finK .f32 x.1 then some x.1 else none
  | none => none
def hedO (n : Nat) (ls : List Nat) (sp de : Nat) (k : Int) (way : Nat) : Option Nat := if bndB n ls sp de k && wayB way then hedG n ls sp k.toNat way else none
/-- The first wave behind j boundaries. -/
def fstS (n : Nat) (ls : List Nat) (sp : Nat) (way : Nat) : Nat → Int × Nat
  | 0 => (-1, fop .quo .f32 way (lay ls 0 1))
  | j + 1 => let x := fstS n ls sp way j
    match hedG n ls sp j way with
    | some t => if fcmp .lss .f32 t x.2 then ((j : Int), t) else x
    | none => x
def fstO (n : Nat) (ls : List Nat) (sp de : Nat) (way : Nat) : Option (Int × Nat) :=
  if grdB n ls sp de && wayB way then (if finK .f32 (fstS n ls sp way n).2 then some (fstS n ls sp way n) else none) else none
end Go.Proofs.Ytnjgcacnfobmiaa
