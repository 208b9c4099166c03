/-
  No cell of these rows narrows 'for every input' (looked for: loops, veiled, ifaces, maps, wideKeys, modest, calm, conditions, laid).
  DERIVED. THE GIVEN ROWS OF THIS SEAT. 17 by the template 'for every input the law returns true; each argument reads behind the call as it read before'; 0 by the template 'total and deterministic' (their statements: YtnjgcacnfobmiaaTotals.lean).
  GIVEN WITH THE SEED: the statements are not yours to turn. If you find one false, say at which input.
  Laid BY PROGRAM, IN A SANDBOX (cutbox-rows.mjs): the forced cells as the released guide's own fill.sh prints them over the translation 0d1d0933d727bb22… (all of the seat's roots in one cut). By AI agents, Wed Nov 11 2026. No macro, syntax, notation, axiom, sorry.
-/
import Derived.Test.YtnjgcacnfobmiaaChecked
import GoSem.Claim
import GoSem.ClaimJoined
import GoSem.ClaimMapViews
import Derived.JoinedTies
import Derived.KernelRfl
namespace Go.Proofs.Ytnjgcacnfobmiaa
/- THE CELL 'sum', in the pinned program and in every row, IS THE sha256 OF THE DUMP (.gsa) THAT YtnjgcacnfobmiaaProg.lean LOADS. Nothing in Lean hashes anything: it is a label: what it is worth is what the hold of that sum in a sandbox is worth. -/
noncomputable def Try.pinned : Pinned := { name := "ytnjgcacnfobmiaa", sum := "0d1d0933d727bb22aa97bad5b42cfb569a568fadd8f5a6d7012d1460b9308ce3", checked := Try.checked }
namespace Rows
def none {H : Type} : Left H := { results := [], args := [] }

/-- 'laws.FnExactFlatGather': WHATEVER THE INPUT: true; the input reads as it did. -/
def fnExactFlatGatherSpec : ChangeSpec := { name := "fnExactFlatGather", fn := fun _ => fun
  | [d1, d2] => { results := [.lit (.bool true)], args := [d1, d2] }
  | _ => none }
def fnExactFlatGatherRow : OpenClaim := { program := "ytnjgcacnfobmiaa", sum := "0d1d0933d727bb22aa97bad5b42cfb569a568fadd8f5a6d7012d1460b9308ce3", func := "loop.example/g01231/laws.FnExactFlatGather", spec := "fnExactFlatGather", apart := false }
def FnExactFlatGatherSaid : Prop := fnExactFlatGatherRow.holds Try.pinned (OpenSpec.ofChange fnExactFlatGatherSpec)

/-- ITS FALSE NEIGHBOUR: 'it returns false'. Refute it at one input. -/
def fnExactFlatGatherWrong : ChangeSpec := { name := "fnExactFlatGather", fn := fun _ => fun
  | [d1, d2] => { results := [.lit (.bool false)], args := [d1, d2] }
  | _ => none }
def FnExactFlatGatherWrongFalsely : Prop := fnExactFlatGatherRow.holds Try.pinned (OpenSpec.ofChange fnExactFlatGatherWrong)

/-- 'laws.FnExactPeakOfTrace': WHATEVER THE INPUT: true; the input reads as it did. -/
def fnExactPeakOfTraceSpec : ChangeSpec := { name := "fnExactPeakOfTrace", fn := fun _ => fun
  | [d] => { results := [.lit (.bool true)], args := [d] }
  | _ => none }
def fnExactPeakOfTraceRow : OpenClaim := { program := "ytnjgcacnfobmiaa", sum := "0d1d0933d727bb22aa97bad5b42cfb569a568fadd8f5a6d7012d1460b9308ce3", func := "loop.example/g01231/laws.FnExactPeakOfTrace", spec := "fnExactPeakOfTrace", inPlace := ["math.Float64bits", "math.Float64frombits"], apart := false }
def FnExactPeakOfTraceSaid : Prop := fnExactPeakOfTraceRow.holds Try.pinned (OpenSpec.ofChange fnExactPeakOfTraceSpec)

/-- ITS FALSE NEIGHBOUR: 'it returns false'. Refute it at one input. -/
def fnExactPeakOfTraceWrong : ChangeSpec := { name := "fnExactPeakOfTrace", fn := fun _ => fun
  | [d] => { results := [.lit (.bool false)], args := [d] }
  | _ => none }
def FnExactPeakOfTraceWrongFalsely : Prop := fnExactPeakOfTraceRow.holds Try.pinned (OpenSpec.ofChange fnExactPeakOfTraceWrong)

/-- 'laws.FnExactPeelTrace': WHATEVER THE INPUT: true; the input reads as it did. -/
def fnExactPeelTraceSpec : ChangeSpec := { name := "fnExactPeelTrace", fn := fun _ => fun
  | [d1, d2, d3] => { results := [.lit (.bool true)], args := [d1, d2, d3] }
  | _ => none }
def fnExactPeelTraceRow : OpenClaim := { program := "ytnjgcacnfobmiaa", sum := "0d1d0933d727bb22aa97bad5b42cfb569a568fadd8f5a6d7012d1460b9308ce3", func := "loop.example/g01231/laws.FnExactPeelTrace", spec := "fnExactPeelTrace", inPlace := ["math.Float64bits", "math.Float64frombits"], apart := false }
def FnExactPeelTraceSaid : Prop := fnExactPeelTraceRow.holds Try.pinned (OpenSpec.ofChange fnExactPeelTraceSpec)

/-- ITS FALSE NEIGHBOUR: 'it returns false'. Refute it at one input. -/
def fnExactPeelTraceWrong : ChangeSpec := { name := "fnExactPeelTrace", fn := fun _ => fun
  | [d1, d2, d3] => { results := [.lit (.bool false)], args := [d1, d2, d3] }
  | _ => none }
def FnExactPeelTraceWrongFalsely : Prop := fnExactPeelTraceRow.holds Try.pinned (OpenSpec.ofChange fnExactPeelTraceWrong)

/-- 'laws.FnExactEchoesOf': WHATEVER THE INPUT: true; the input reads as it did. -/
def fnExactEchoesOfSpec : ChangeSpec := { name := "fnExactEchoesOf", fn := fun _ => fun
  | [d1, d2, d3] => { results := [.lit (.bool true)], args := [d1, d2, d3] }
  | _ => none }
def fnExactEchoesOfRow : OpenClaim := { program := "ytnjgcacnfobmiaa", sum := "0d1d0933d727bb22aa97bad5b42cfb569a568fadd8f5a6d7012d1460b9308ce3", func := "loop.example/g01231/laws.FnExactEchoesOf", spec := "fnExactEchoesOf", inPlace := ["math.Float64bits", "math.Float64frombits"], unfollowed := true, recurses := true, apart := false }
def FnExactEchoesOfSaid : Prop := fnExactEchoesOfRow.holds Try.pinned (OpenSpec.ofChange fnExactEchoesOfSpec)

/-- ITS FALSE NEIGHBOUR: 'it returns false'. Refute it at one input. -/
def fnExactEchoesOfWrong : ChangeSpec := { name := "fnExactEchoesOf", fn := fun _ => fun
  | [d1, d2, d3] => { results := [.lit (.bool false)], args := [d1, d2, d3] }
  | _ => none }
def FnExactEchoesOfWrongFalsely : Prop := fnExactEchoesOfRow.holds Try.pinned (OpenSpec.ofChange fnExactEchoesOfWrong)

/-- 'laws.FnExactSpectrumAt': WHATEVER THE INPUT: true; the input reads as it did. -/
def fnExactSpectrumAtSpec : ChangeSpec := { name := "fnExactSpectrumAt", fn := fun _ => fun
  | [d1, d2] => { results := [.lit (.bool true)], args := [d1, d2] }
  | _ => none }
def fnExactSpectrumAtRow : OpenClaim := { program := "ytnjgcacnfobmiaa", sum := "0d1d0933d727bb22aa97bad5b42cfb569a568fadd8f5a6d7012d1460b9308ce3", func := "loop.example/g01231/laws.FnExactSpectrumAt", spec := "fnExactSpectrumAt", inPlace := ["math.Float32frombits", "math.Float64frombits", "math.Float64bits", "math.archTrunc"], apart := false }
def FnExactSpectrumAtSaid : Prop := fnExactSpectrumAtRow.holds Try.pinned (OpenSpec.ofChange fnExactSpectrumAtSpec)

/-- ITS FALSE NEIGHBOUR: 'it returns false'. Refute it at one input. -/
def fnExactSpectrumAtWrong : ChangeSpec := { name := "fnExactSpectrumAt", fn := fun _ => fun
  | [d1, d2] => { results := [.lit (.bool false)], args := [d1, d2] }
  | _ => none }
def FnExactSpectrumAtWrongFalsely : Prop := fnExactSpectrumAtRow.holds Try.pinned (OpenSpec.ofChange fnExactSpectrumAtWrong)

/-- 'laws.FnExactSpectrumOfTrace': WHATEVER THE INPUT: true; the input reads as it did. -/
def fnExactSpectrumOfTraceSpec : ChangeSpec := { name := "fnExactSpectrumOfTrace", fn := fun _ => fun
  | [d1, d2] => { results := [.lit (.bool true)], args := [d1, d2] }
  | _ => none }
def fnExactSpectrumOfTraceRow : OpenClaim := { program := "ytnjgcacnfobmiaa", sum := "0d1d0933d727bb22aa97bad5b42cfb569a568fadd8f5a6d7012d1460b9308ce3", func := "loop.example/g01231/laws.FnExactSpectrumOfTrace", spec := "fnExactSpectrumOfTrace", inPlace := ["math.Float32frombits", "math.Float64frombits", "math.Float64bits", "math.archTrunc"], apart := false }
def FnExactSpectrumOfTraceSaid : Prop := fnExactSpectrumOfTraceRow.holds Try.pinned (OpenSpec.ofChange fnExactSpectrumOfTraceSpec)

/-- ITS FALSE NEIGHBOUR: 'it returns false'. Refute it at one input. -/
def fnExactSpectrumOfTraceWrong : ChangeSpec := { name := "fnExactSpectrumOfTrace", fn := fun _ => fun
  | [d1, d2] => { results := [.lit (.bool false)], args := [d1, d2] }
  | _ => none }
def FnExactSpectrumOfTraceWrongFalsely : Prop := fnExactSpectrumOfTraceRow.holds Try.pinned (OpenSpec.ofChange fnExactSpectrumOfTraceWrong)

/-- 'laws.FnExactKeepPlaces': WHATEVER THE INPUT: true; the input reads as it did. -/
def fnExactKeepPlacesSpec : ChangeSpec := { name := "fnExactKeepPlaces", fn := fun _ => fun
  | [d1, d2, d3] => { results := [.lit (.bool true)], args := [d1, d2, d3] }
  | _ => none }
def fnExactKeepPlacesRow : OpenClaim := { program := "ytnjgcacnfobmiaa", sum := "0d1d0933d727bb22aa97bad5b42cfb569a568fadd8f5a6d7012d1460b9308ce3", func := "loop.example/g01231/laws.FnExactKeepPlaces", spec := "fnExactKeepPlaces", unfollowed := true, recurses := true, apart := false }
def FnExactKeepPlacesSaid : Prop := fnExactKeepPlacesRow.holds Try.pinned (OpenSpec.ofChange fnExactKeepPlacesSpec)

/-- ITS FALSE NEIGHBOUR: 'it returns false'. Refute it at one input. -/
def fnExactKeepPlacesWrong : ChangeSpec := { name := "fnExactKeepPlaces", fn := fun _ => fun
  | [d1, d2, d3] => { results := [.lit (.bool false)], args := [d1, d2, d3] }
  | _ => none }
def FnExactKeepPlacesWrongFalsely : Prop := fnExactKeepPlacesRow.holds Try.pinned (OpenSpec.ofChange fnExactKeepPlacesWrong)

/-- 'laws.FnExactShiftsOf': WHATEVER THE INPUT: true; the input reads as it did. -/
def fnExactShiftsOfSpec : ChangeSpec := { name := "fnExactShiftsOf", fn := fun _ => fun
  | [d1, d2, d3] => { results := [.lit (.bool true)], args := [d1, d2, d3] }
  | _ => none }
def fnExactShiftsOfRow : OpenClaim := { program := "ytnjgcacnfobmiaa", sum := "0d1d0933d727bb22aa97bad5b42cfb569a568fadd8f5a6d7012d1460b9308ce3", func := "loop.example/g01231/laws.FnExactShiftsOf", spec := "fnExactShiftsOf", unfollowed := true, recurses := true, apart := false }
def FnExactShiftsOfSaid : Prop := fnExactShiftsOfRow.holds Try.pinned (OpenSpec.ofChange fnExactShiftsOfSpec)

/-- ITS FALSE NEIGHBOUR: 'it returns false'. Refute it at one input. -/
def fnExactShiftsOfWrong : ChangeSpec := { name := "fnExactShiftsOf", fn := fun _ => fun
  | [d1, d2, d3] => { results := [.lit (.bool false)], args := [d1, d2, d3] }
  | _ => none }
def FnExactShiftsOfWrongFalsely : Prop := fnExactShiftsOfRow.holds Try.pinned (OpenSpec.ofChange fnExactShiftsOfWrong)

/-- 'laws.FnExactShiftGather': WHATEVER THE INPUT: true; the input reads as it did. -/
def fnExactShiftGatherSpec : ChangeSpec := { name := "fnExactShiftGather", fn := fun _ => fun
  | [d1, d2] => { results := [.lit (.bool true)], args := [d1, d2] }
  | _ => none }
def fnExactShiftGatherRow : OpenClaim := { program := "ytnjgcacnfobmiaa", sum := "0d1d0933d727bb22aa97bad5b42cfb569a568fadd8f5a6d7012d1460b9308ce3", func := "loop.example/g01231/laws.FnExactShiftGather", spec := "fnExactShiftGather", unfollowed := true, recurses := true, apart := false }
def FnExactShiftGatherSaid : Prop := fnExactShiftGatherRow.holds Try.pinned (OpenSpec.ofChange fnExactShiftGatherSpec)

/-- ITS FALSE NEIGHBOUR: 'it returns false'. Refute it at one input. -/
def fnExactShiftGatherWrong : ChangeSpec := { name := "fnExactShiftGather", fn := fun _ => fun
  | [d1, d2] => { results := [.lit (.bool false)], args := [d1, d2] }
  | _ => none }
def FnExactShiftGatherWrongFalsely : Prop := fnExactShiftGatherRow.holds Try.pinned (OpenSpec.ofChange fnExactShiftGatherWrong)

/-- 'laws.FnExactSortGather': WHATEVER THE INPUT: true; the input reads as it did. -/
def fnExactSortGatherSpec : ChangeSpec := { name := "fnExactSortGather", fn := fun _ => fun
  | [d] => { results := [.lit (.bool true)], args := [d] }
  | _ => none }
def fnExactSortGatherRow : OpenClaim := { program := "ytnjgcacnfobmiaa", sum := "0d1d0933d727bb22aa97bad5b42cfb569a568fadd8f5a6d7012d1460b9308ce3", func := "loop.example/g01231/laws.FnExactSortGather", spec := "fnExactSortGather", unfollowed := true, recurses := true, apart := false }
def FnExactSortGatherSaid : Prop := fnExactSortGatherRow.holds Try.pinned (OpenSpec.ofChange fnExactSortGatherSpec)

/-- ITS FALSE NEIGHBOUR: 'it returns false'. Refute it at one input. -/
def fnExactSortGatherWrong : ChangeSpec := { name := "fnExactSortGather", fn := fun _ => fun
  | [d] => { results := [.lit (.bool false)], args := [d] }
  | _ => none }
def FnExactSortGatherWrongFalsely : Prop := fnExactSortGatherRow.holds Try.pinned (OpenSpec.ofChange fnExactSortGatherWrong)

/-- 'laws.FnExactRayTo': WHATEVER THE INPUT: true; the input reads as it did. -/
def fnExactRayToSpec : ChangeSpec := { name := "fnExactRayTo", fn := fun _ => fun
  | [d1, d2, d3] => { results := [.lit (.bool true)], args := [d1, d2, d3] }
  | _ => none }
def fnExactRayToRow : OpenClaim := { program := "ytnjgcacnfobmiaa", sum := "0d1d0933d727bb22aa97bad5b42cfb569a568fadd8f5a6d7012d1460b9308ce3", func := "loop.example/g01231/laws.FnExactRayTo", spec := "fnExactRayTo", inPlace := ["math.sqrt"], unfollowed := true, recurses := true, apart := false }
def FnExactRayToSaid : Prop := fnExactRayToRow.holds Try.pinned (OpenSpec.ofChange fnExactRayToSpec)

/-- ITS FALSE NEIGHBOUR: 'it returns false'. Refute it at one input. -/
def fnExactRayToWrong : ChangeSpec := { name := "fnExactRayTo", fn := fun _ => fun
  | [d1, d2, d3] => { results := [.lit (.bool false)], args := [d1, d2, d3] }
  | _ => none }
def FnExactRayToWrongFalsely : Prop := fnExactRayToRow.holds Try.pinned (OpenSpec.ofChange fnExactRayToWrong)

/-- 'laws.FnExactEchoRay': WHATEVER THE INPUT: true; the input reads as it did. -/
def fnExactEchoRaySpec : ChangeSpec := { name := "fnExactEchoRay", fn := fun _ => fun
  | [d1, d2, d3] => { results := [.lit (.bool true)], args := [d1, d2, d3] }
  | _ => none }
def fnExactEchoRayRow : OpenClaim := { program := "ytnjgcacnfobmiaa", sum := "0d1d0933d727bb22aa97bad5b42cfb569a568fadd8f5a6d7012d1460b9308ce3", func := "loop.example/g01231/laws.FnExactEchoRay", spec := "fnExactEchoRay", inPlace := ["math.sqrt"], unfollowed := true, recurses := true, apart := false }
def FnExactEchoRaySaid : Prop := fnExactEchoRayRow.holds Try.pinned (OpenSpec.ofChange fnExactEchoRaySpec)

/-- ITS FALSE NEIGHBOUR: 'it returns false'. Refute it at one input. -/
def fnExactEchoRayWrong : ChangeSpec := { name := "fnExactEchoRay", fn := fun _ => fun
  | [d1, d2, d3] => { results := [.lit (.bool false)], args := [d1, d2, d3] }
  | _ => none }
def FnExactEchoRayWrongFalsely : Prop := fnExactEchoRayRow.holds Try.pinned (OpenSpec.ofChange fnExactEchoRayWrong)

/-- 'laws.FnExactShootRay': WHATEVER THE INPUT: true; the input reads as it did. -/
def fnExactShootRaySpec : ChangeSpec := { name := "fnExactShootRay", fn := fun _ => fun
  | [d1, d2, d3] => { results := [.lit (.bool true)], args := [d1, d2, d3] }
  | _ => none }
def fnExactShootRayRow : OpenClaim := { program := "ytnjgcacnfobmiaa", sum := "0d1d0933d727bb22aa97bad5b42cfb569a568fadd8f5a6d7012d1460b9308ce3", func := "loop.example/g01231/laws.FnExactShootRay", spec := "fnExactShootRay", inPlace := ["math.sqrt"], unfollowed := true, recurses := true, apart := false }
def FnExactShootRaySaid : Prop := fnExactShootRayRow.holds Try.pinned (OpenSpec.ofChange fnExactShootRaySpec)

/-- ITS FALSE NEIGHBOUR: 'it returns false'. Refute it at one input. -/
def fnExactShootRayWrong : ChangeSpec := { name := "fnExactShootRay", fn := fun _ => fun
  | [d1, d2, d3] => { results := [.lit (.bool false)], args := [d1, d2, d3] }
  | _ => none }
def FnExactShootRayWrongFalsely : Prop := fnExactShootRayRow.holds Try.pinned (OpenSpec.ofChange fnExactShootRayWrong)

/-- 'laws.FnExactHeadTime': WHATEVER THE INPUT: true; the input reads as it did. -/
def fnExactHeadTimeSpec : ChangeSpec := { name := "fnExactHeadTime", fn := fun _ => fun
  | [d1, d2, d3] => { results := [.lit (.bool true)], args := [d1, d2, d3] }
  | _ => none }
def fnExactHeadTimeRow : OpenClaim := { program := "ytnjgcacnfobmiaa", sum := "0d1d0933d727bb22aa97bad5b42cfb569a568fadd8f5a6d7012d1460b9308ce3", func := "loop.example/g01231/laws.FnExactHeadTime", spec := "fnExactHeadTime", inPlace := ["math.sqrt"], unfollowed := true, recurses := true, apart := false }
def FnExactHeadTimeSaid : Prop := fnExactHeadTimeRow.holds Try.pinned (OpenSpec.ofChange fnExactHeadTimeSpec)

/-- ITS FALSE NEIGHBOUR: 'it returns false'. Refute it at one input. -/
def fnExactHeadTimeWrong : ChangeSpec := { name := "fnExactHeadTime", fn := fun _ => fun
  | [d1, d2, d3] => { results := [.lit (.bool false)], args := [d1, d2, d3] }
  | _ => none }
def FnExactHeadTimeWrongFalsely : Prop := fnExactHeadTimeRow.holds Try.pinned (OpenSpec.ofChange fnExactHeadTimeWrong)

/-- 'laws.FnExactFirstTime': WHATEVER THE INPUT: true; the input reads as it did. -/
def fnExactFirstTimeSpec : ChangeSpec := { name := "fnExactFirstTime", fn := fun _ => fun
  | [d1, d2] => { results := [.lit (.bool true)], args := [d1, d2] }
  | _ => none }
def fnExactFirstTimeRow : OpenClaim := { program := "ytnjgcacnfobmiaa", sum := "0d1d0933d727bb22aa97bad5b42cfb569a568fadd8f5a6d7012d1460b9308ce3", func := "loop.example/g01231/laws.FnExactFirstTime", spec := "fnExactFirstTime", inPlace := ["math.sqrt"], unfollowed := true, recurses := true, apart := false }
def FnExactFirstTimeSaid : Prop := fnExactFirstTimeRow.holds Try.pinned (OpenSpec.ofChange fnExactFirstTimeSpec)

/-- ITS FALSE NEIGHBOUR: 'it returns false'. Refute it at one input. -/
def fnExactFirstTimeWrong : ChangeSpec := { name := "fnExactFirstTime", fn := fun _ => fun
  | [d1, d2] => { results := [.lit (.bool false)], args := [d1, d2] }
  | _ => none }
def FnExactFirstTimeWrongFalsely : Prop := fnExactFirstTimeRow.holds Try.pinned (OpenSpec.ofChange fnExactFirstTimeWrong)

/-- 'laws.FnExactReflectAngle': WHATEVER THE INPUT: true; the input reads as it did. -/
def fnExactReflectAngleSpec : ChangeSpec := { name := "fnExactReflectAngle", fn := fun _ => fun
  | [d1, d2, d3] => { results := [.lit (.bool true)], args := [d1, d2, d3] }
  | _ => none }
def fnExactReflectAngleRow : OpenClaim := { program := "ytnjgcacnfobmiaa", sum := "0d1d0933d727bb22aa97bad5b42cfb569a568fadd8f5a6d7012d1460b9308ce3", func := "loop.example/g01231/laws.FnExactReflectAngle", spec := "fnExactReflectAngle", inPlace := ["math.sqrt"], unfollowed := true, recurses := true, apart := false }
def FnExactReflectAngleSaid : Prop := fnExactReflectAngleRow.holds Try.pinned (OpenSpec.ofChange fnExactReflectAngleSpec)

/-- ITS FALSE NEIGHBOUR: 'it returns false'. Refute it at one input. -/
def fnExactReflectAngleWrong : ChangeSpec := { name := "fnExactReflectAngle", fn := fun _ => fun
  | [d1, d2, d3] => { results := [.lit (.bool false)], args := [d1, d2, d3] }
  | _ => none }
def FnExactReflectAngleWrongFalsely : Prop := fnExactReflectAngleRow.holds Try.pinned (OpenSpec.ofChange fnExactReflectAngleWrong)

/-- 'laws.FnExactPassAngle': WHATEVER THE INPUT: true; the input reads as it did. -/
def fnExactPassAngleSpec : ChangeSpec := { name := "fnExactPassAngle", fn := fun _ => fun
  | [d1, d2, d3] => { results := [.lit (.bool true)], args := [d1, d2, d3] }
  | _ => none }
def fnExactPassAngleRow : OpenClaim := { program := "ytnjgcacnfobmiaa", sum := "0d1d0933d727bb22aa97bad5b42cfb569a568fadd8f5a6d7012d1460b9308ce3", func := "loop.example/g01231/laws.FnExactPassAngle", spec := "fnExactPassAngle", inPlace := ["math.sqrt"], unfollowed := true, recurses := true, apart := false }
def FnExactPassAngleSaid : Prop := fnExactPassAngleRow.holds Try.pinned (OpenSpec.ofChange fnExactPassAngleSpec)

/-- ITS FALSE NEIGHBOUR: 'it returns false'. Refute it at one input. -/
def fnExactPassAngleWrong : ChangeSpec := { name := "fnExactPassAngle", fn := fun _ => fun
  | [d1, d2, d3] => { results := [.lit (.bool false)], args := [d1, d2, d3] }
  | _ => none }
def FnExactPassAngleWrongFalsely : Prop := fnExactPassAngleRow.holds Try.pinned (OpenSpec.ofChange fnExactPassAngleWrong)

/- THE SECOND FORM. 'bulk': how many values and letters a reading holds, each counted each time it is reached (what is shared counts as often as it is met; a slice's spare places count too). A statement '..UptoSaid' is the law's where the arguments, and the package variables that the reading takes, are together of bulk at most 1048576: NARROWER than '..Said'. Prove '..Said' where nothing that the law and all that it calls make is longer than what came in: it says more and counts as full. Else prove '..UptoSaid'. A law counts once. -/
mutual
def uptoBulk {H : Type} : DataW H → Nat
  | .lit (.string bytes) => bytes.length + 1
  | .lit _ => 1
  | .nil => 1
  | .ptr d => uptoBulk d + 1
  | .slice elems spare => uptoBulkAll elems + uptoBulkAll spare + 1
  | .agg parts => uptoBulkAll parts + 1
  | .iface _ d => uptoBulk d + 1
  | .map entries => uptoBulkEntries entries + 1
  | .held _ => 1
def uptoBulkAll {H : Type} : List (DataW H) → Nat
  | [] => 0
  | d :: r => uptoBulk d + uptoBulkAll r
def uptoBulkEntries {H : Type} : List (Lit × DataW H) → Nat
  | [] => 0
  | x :: r => uptoBulkEntry x + uptoBulkEntries r
def uptoBulkEntry {H : Type} : Lit × DataW H → Nat
  | (.string bytes, d) => bytes.length + uptoBulk d + 1
  | (_, d) => uptoBulk d + 1
 end
def uptoSmall : (H : Type) → List (DataW H) → Bool := fun _ ds => decide (uptoBulkAll ds ≤ 1048576)
def OpenSpec.upto (s : _root_.Go.ChangeSpec) : _root_.Go.OpenSpec := { _root_.Go.OpenSpec.ofChange s with cond := some uptoSmall }

/-- 'laws.FnExactFlatGather', WHERE WHAT IT READS IS OF BULK AT MOST 1048576: true; the input reads as it did. -/
def fnExactFlatGatherUptoRow : OpenClaim := { program := "ytnjgcacnfobmiaa", sum := "0d1d0933d727bb22aa97bad5b42cfb569a568fadd8f5a6d7012d1460b9308ce3", func := "loop.example/g01231/laws.FnExactFlatGather", spec := "fnExactFlatGather", apart := false, narrowed := true }
def FnExactFlatGatherUptoSaid : Prop := fnExactFlatGatherUptoRow.holds Try.pinned (OpenSpec.upto fnExactFlatGatherSpec)

/-- 'laws.FnExactPeakOfTrace', WHERE WHAT IT READS IS OF BULK AT MOST 1048576: true; the input reads as it did. -/
def fnExactPeakOfTraceUptoRow : OpenClaim := { program := "ytnjgcacnfobmiaa", sum := "0d1d0933d727bb22aa97bad5b42cfb569a568fadd8f5a6d7012d1460b9308ce3", func := "loop.example/g01231/laws.FnExactPeakOfTrace", spec := "fnExactPeakOfTrace", inPlace := ["math.Float64bits", "math.Float64frombits"], apart := false, narrowed := true }
def FnExactPeakOfTraceUptoSaid : Prop := fnExactPeakOfTraceUptoRow.holds Try.pinned (OpenSpec.upto fnExactPeakOfTraceSpec)

/-- 'laws.FnExactPeelTrace', WHERE WHAT IT READS IS OF BULK AT MOST 1048576: true; the input reads as it did. -/
def fnExactPeelTraceUptoRow : OpenClaim := { program := "ytnjgcacnfobmiaa", sum := "0d1d0933d727bb22aa97bad5b42cfb569a568fadd8f5a6d7012d1460b9308ce3", func := "loop.example/g01231/laws.FnExactPeelTrace", spec := "fnExactPeelTrace", inPlace := ["math.Float64bits", "math.Float64frombits"], apart := false, narrowed := true }
def FnExactPeelTraceUptoSaid : Prop := fnExactPeelTraceUptoRow.holds Try.pinned (OpenSpec.upto fnExactPeelTraceSpec)

/-- 'laws.FnExactEchoesOf', WHERE WHAT IT READS IS OF BULK AT MOST 1048576: true; the input reads as it did. -/
def fnExactEchoesOfUptoRow : OpenClaim := { program := "ytnjgcacnfobmiaa", sum := "0d1d0933d727bb22aa97bad5b42cfb569a568fadd8f5a6d7012d1460b9308ce3", func := "loop.example/g01231/laws.FnExactEchoesOf", spec := "fnExactEchoesOf", inPlace := ["math.Float64bits", "math.Float64frombits"], unfollowed := true, recurses := true, apart := false, narrowed := true }
def FnExactEchoesOfUptoSaid : Prop := fnExactEchoesOfUptoRow.holds Try.pinned (OpenSpec.upto fnExactEchoesOfSpec)

/-- 'laws.FnExactSpectrumAt', WHERE WHAT IT READS IS OF BULK AT MOST 1048576: true; the input reads as it did. -/
def fnExactSpectrumAtUptoRow : OpenClaim := { program := "ytnjgcacnfobmiaa", sum := "0d1d0933d727bb22aa97bad5b42cfb569a568fadd8f5a6d7012d1460b9308ce3", func := "loop.example/g01231/laws.FnExactSpectrumAt", spec := "fnExactSpectrumAt", inPlace := ["math.Float32frombits", "math.Float64frombits", "math.Float64bits", "math.archTrunc"], apart := false, narrowed := true }
def FnExactSpectrumAtUptoSaid : Prop := fnExactSpectrumAtUptoRow.holds Try.pinned (OpenSpec.upto fnExactSpectrumAtSpec)

/-- 'laws.FnExactSpectrumOfTrace', WHERE WHAT IT READS IS OF BULK AT MOST 1048576: true; the input reads as it did. -/
def fnExactSpectrumOfTraceUptoRow : OpenClaim := { program := "ytnjgcacnfobmiaa", sum := "0d1d0933d727bb22aa97bad5b42cfb569a568fadd8f5a6d7012d1460b9308ce3", func := "loop.example/g01231/laws.FnExactSpectrumOfTrace", spec := "fnExactSpectrumOfTrace", inPlace := ["math.Float32frombits", "math.Float64frombits", "math.Float64bits", "math.archTrunc"], apart := false, narrowed := true }
def FnExactSpectrumOfTraceUptoSaid : Prop := fnExactSpectrumOfTraceUptoRow.holds Try.pinned (OpenSpec.upto fnExactSpectrumOfTraceSpec)

/-- 'laws.FnExactKeepPlaces', WHERE WHAT IT READS IS OF BULK AT MOST 1048576: true; the input reads as it did. -/
def fnExactKeepPlacesUptoRow : OpenClaim := { program := "ytnjgcacnfobmiaa", sum := "0d1d0933d727bb22aa97bad5b42cfb569a568fadd8f5a6d7012d1460b9308ce3", func := "loop.example/g01231/laws.FnExactKeepPlaces", spec := "fnExactKeepPlaces", unfollowed := true, recurses := true, apart := false, narrowed := true }
def FnExactKeepPlacesUptoSaid : Prop := fnExactKeepPlacesUptoRow.holds Try.pinned (OpenSpec.upto fnExactKeepPlacesSpec)

/-- 'laws.FnExactShiftsOf', WHERE WHAT IT READS IS OF BULK AT MOST 1048576: true; the input reads as it did. -/
def fnExactShiftsOfUptoRow : OpenClaim := { program := "ytnjgcacnfobmiaa", sum := "0d1d0933d727bb22aa97bad5b42cfb569a568fadd8f5a6d7012d1460b9308ce3", func := "loop.example/g01231/laws.FnExactShiftsOf", spec := "fnExactShiftsOf", unfollowed := true, recurses := true, apart := false, narrowed := true }
def FnExactShiftsOfUptoSaid : Prop := fnExactShiftsOfUptoRow.holds Try.pinned (OpenSpec.upto fnExactShiftsOfSpec)

/-- 'laws.FnExactShiftGather', WHERE WHAT IT READS IS OF BULK AT MOST 1048576: true; the input reads as it did. -/
def fnExactShiftGatherUptoRow : OpenClaim := { program := "ytnjgcacnfobmiaa", sum := "0d1d0933d727bb22aa97bad5b42cfb569a568fadd8f5a6d7012d1460b9308ce3", func := "loop.example/g01231/laws.FnExactShiftGather", spec := "fnExactShiftGather", unfollowed := true, recurses := true, apart := false, narrowed := true }
def FnExactShiftGatherUptoSaid : Prop := fnExactShiftGatherUptoRow.holds Try.pinned (OpenSpec.upto fnExactShiftGatherSpec)

/-- 'laws.FnExactSortGather', WHERE WHAT IT READS IS OF BULK AT MOST 1048576: true; the input reads as it did. -/
def fnExactSortGatherUptoRow : OpenClaim := { program := "ytnjgcacnfobmiaa", sum := "0d1d0933d727bb22aa97bad5b42cfb569a568fadd8f5a6d7012d1460b9308ce3", func := "loop.example/g01231/laws.FnExactSortGather", spec := "fnExactSortGather", unfollowed := true, recurses := true, apart := false, narrowed := true }
def FnExactSortGatherUptoSaid : Prop := fnExactSortGatherUptoRow.holds Try.pinned (OpenSpec.upto fnExactSortGatherSpec)

/-- 'laws.FnExactRayTo', WHERE WHAT IT READS IS OF BULK AT MOST 1048576: true; the input reads as it did. -/
def fnExactRayToUptoRow : OpenClaim := { program := "ytnjgcacnfobmiaa", sum := "0d1d0933d727bb22aa97bad5b42cfb569a568fadd8f5a6d7012d1460b9308ce3", func := "loop.example/g01231/laws.FnExactRayTo", spec := "fnExactRayTo", inPlace := ["math.sqrt"], unfollowed := true, recurses := true, apart := false, narrowed := true }
def FnExactRayToUptoSaid : Prop := fnExactRayToUptoRow.holds Try.pinned (OpenSpec.upto fnExactRayToSpec)

/-- 'laws.FnExactEchoRay', WHERE WHAT IT READS IS OF BULK AT MOST 1048576: true; the input reads as it did. -/
def fnExactEchoRayUptoRow : OpenClaim := { program := "ytnjgcacnfobmiaa", sum := "0d1d0933d727bb22aa97bad5b42cfb569a568fadd8f5a6d7012d1460b9308ce3", func := "loop.example/g01231/laws.FnExactEchoRay", spec := "fnExactEchoRay", inPlace := ["math.sqrt"], unfollowed := true, recurses := true, apart := false, narrowed := true }
def FnExactEchoRayUptoSaid : Prop := fnExactEchoRayUptoRow.holds Try.pinned (OpenSpec.upto fnExactEchoRaySpec)

/-- 'laws.FnExactShootRay', WHERE WHAT IT READS IS OF BULK AT MOST 1048576: true; the input reads as it did. -/
def fnExactShootRayUptoRow : OpenClaim := { program := "ytnjgcacnfobmiaa", sum := "0d1d0933d727bb22aa97bad5b42cfb569a568fadd8f5a6d7012d1460b9308ce3", func := "loop.example/g01231/laws.FnExactShootRay", spec := "fnExactShootRay", inPlace := ["math.sqrt"], unfollowed := true, recurses := true, apart := false, narrowed := true }
def FnExactShootRayUptoSaid : Prop := fnExactShootRayUptoRow.holds Try.pinned (OpenSpec.upto fnExactShootRaySpec)

/-- 'laws.FnExactHeadTime', WHERE WHAT IT READS IS OF BULK AT MOST 1048576: true; the input reads as it did. -/
def fnExactHeadTimeUptoRow : OpenClaim := { program := "ytnjgcacnfobmiaa", sum := "0d1d0933d727bb22aa97bad5b42cfb569a568fadd8f5a6d7012d1460b9308ce3", func := "loop.example/g01231/laws.FnExactHeadTime", spec := "fnExactHeadTime", inPlace := ["math.sqrt"], unfollowed := true, recurses := true, apart := false, narrowed := true }
def FnExactHeadTimeUptoSaid : Prop := fnExactHeadTimeUptoRow.holds Try.pinned (OpenSpec.upto fnExactHeadTimeSpec)

/-- 'laws.FnExactFirstTime', WHERE WHAT IT READS IS OF BULK AT MOST 1048576: true; the input reads as it did. -/
def fnExactFirstTimeUptoRow : OpenClaim := { program := "ytnjgcacnfobmiaa", sum := "0d1d0933d727bb22aa97bad5b42cfb569a568fadd8f5a6d7012d1460b9308ce3", func := "loop.example/g01231/laws.FnExactFirstTime", spec := "fnExactFirstTime", inPlace := ["math.sqrt"], unfollowed := true, recurses := true, apart := false, narrowed := true }
def FnExactFirstTimeUptoSaid : Prop := fnExactFirstTimeUptoRow.holds Try.pinned (OpenSpec.upto fnExactFirstTimeSpec)

/-- 'laws.FnExactReflectAngle', WHERE WHAT IT READS IS OF BULK AT MOST 1048576: true; the input reads as it did. -/
def fnExactReflectAngleUptoRow : OpenClaim := { program := "ytnjgcacnfobmiaa", sum := "0d1d0933d727bb22aa97bad5b42cfb569a568fadd8f5a6d7012d1460b9308ce3", func := "loop.example/g01231/laws.FnExactReflectAngle", spec := "fnExactReflectAngle", inPlace := ["math.sqrt"], unfollowed := true, recurses := true, apart := false, narrowed := true }
def FnExactReflectAngleUptoSaid : Prop := fnExactReflectAngleUptoRow.holds Try.pinned (OpenSpec.upto fnExactReflectAngleSpec)

/-- 'laws.FnExactPassAngle', WHERE WHAT IT READS IS OF BULK AT MOST 1048576: true; the input reads as it did. -/
def fnExactPassAngleUptoRow : OpenClaim := { program := "ytnjgcacnfobmiaa", sum := "0d1d0933d727bb22aa97bad5b42cfb569a568fadd8f5a6d7012d1460b9308ce3", func := "loop.example/g01231/laws.FnExactPassAngle", spec := "fnExactPassAngle", inPlace := ["math.sqrt"], unfollowed := true, recurses := true, apart := false, narrowed := true }
def FnExactPassAngleUptoSaid : Prop := fnExactPassAngleUptoRow.holds Try.pinned (OpenSpec.upto fnExactPassAngleSpec)

end Rows
end Go.Proofs.Ytnjgcacnfobmiaa
