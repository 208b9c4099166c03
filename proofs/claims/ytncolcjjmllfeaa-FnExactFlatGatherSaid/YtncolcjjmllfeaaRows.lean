/-
  No cell of these rows narrows 'for every input' (looked for: loops, veiled, ifaces, maps, wideKeys, modest, calm, conditions, laid).
  DERIVED. THE GIVEN ROWS OF THIS SEAT. 21 by the template 'for every input the law returns true; each argument reads behind the call as it read before'; 0 by the template 'total and deterministic' (their statements: YtncolcjjmllfeaaTotals.lean).
  GIVEN WITH THE SEED: the statements are not yours to turn. If you find one false, say at which input.
  Laid BY PROGRAM, IN A SANDBOX (cutbox-rows.mjs): the forced cells as the released guide's own fill.sh prints them over the translation 65510fb89d88b468… (all of the seat's roots in one cut). By AI agents, Wed Nov 11 2026. No macro, syntax, notation, axiom, sorry.
-/
import Derived.Test.YtncolcjjmllfeaaChecked
import GoSem.Claim
import GoSem.ClaimJoined
import GoSem.ClaimMapViews
import Derived.JoinedTies
import Derived.KernelRfl
namespace Go.Proofs.Ytncolcjjmllfeaa
/- THE CELL 'sum', in the pinned program and in every row, IS THE sha256 OF THE DUMP (.gsa) THAT YtncolcjjmllfeaaProg.lean LOADS. Nothing in Lean hashes anything: it is a label: what it is worth is what the hold of that sum in a sandbox is worth. -/
noncomputable def Try.pinned : Pinned := { name := "ytncolcjjmllfeaa", sum := "65510fb89d88b4684182b7ef08164dafff5aaf9a1e8c870af7a05c364fb7a080", checked := Try.checked }
namespace Rows
def none {H : Type} : Left H := { results := [], args := [] }

/-- 'laws.FnExactPeakOfTrace': WHATEVER THE INPUT: true; the input reads as it did. -/
def fnExactPeakOfTraceSpec : ChangeSpec := { name := "fnExactPeakOfTrace", fn := fun _ => fun
  | [d] => { results := [.lit (.bool true)], args := [d] }
  | _ => none }
def fnExactPeakOfTraceRow : OpenClaim := { program := "ytncolcjjmllfeaa", sum := "65510fb89d88b4684182b7ef08164dafff5aaf9a1e8c870af7a05c364fb7a080", func := "loop.example/g01231/laws.FnExactPeakOfTrace", spec := "fnExactPeakOfTrace", inPlace := ["math.Float64bits", "math.Float64frombits"], apart := false }
def FnExactPeakOfTraceSaid : Prop := fnExactPeakOfTraceRow.holds Try.pinned (OpenSpec.ofChange fnExactPeakOfTraceSpec)

/-- ITS FALSE NEIGHBOUR: 'it returns false'. Refute it at one input. -/
def fnExactPeakOfTraceWrong : ChangeSpec := { name := "fnExactPeakOfTrace", fn := fun _ => fun
  | [d] => { results := [.lit (.bool false)], args := [d] }
  | _ => none }
def FnExactPeakOfTraceWrongFalsely : Prop := fnExactPeakOfTraceRow.holds Try.pinned (OpenSpec.ofChange fnExactPeakOfTraceWrong)

/-- 'laws.FnExactPeelTrace': WHATEVER THE INPUT: true; the input reads as it did. -/
def fnExactPeelTraceSpec : ChangeSpec := { name := "fnExactPeelTrace", fn := fun _ => fun
  | [d1, d2, d3] => { results := [.lit (.bool true)], args := [d1, d2, d3] }
  | _ => none }
def fnExactPeelTraceRow : OpenClaim := { program := "ytncolcjjmllfeaa", sum := "65510fb89d88b4684182b7ef08164dafff5aaf9a1e8c870af7a05c364fb7a080", func := "loop.example/g01231/laws.FnExactPeelTrace", spec := "fnExactPeelTrace", inPlace := ["math.Float64bits", "math.Float64frombits"], apart := false }
def FnExactPeelTraceSaid : Prop := fnExactPeelTraceRow.holds Try.pinned (OpenSpec.ofChange fnExactPeelTraceSpec)

/-- ITS FALSE NEIGHBOUR: 'it returns false'. Refute it at one input. -/
def fnExactPeelTraceWrong : ChangeSpec := { name := "fnExactPeelTrace", fn := fun _ => fun
  | [d1, d2, d3] => { results := [.lit (.bool false)], args := [d1, d2, d3] }
  | _ => none }
def FnExactPeelTraceWrongFalsely : Prop := fnExactPeelTraceRow.holds Try.pinned (OpenSpec.ofChange fnExactPeelTraceWrong)

/-- 'laws.FnExactHardnessOf': WHATEVER THE INPUT: true; the input reads as it did. -/
def fnExactHardnessOfSpec : ChangeSpec := { name := "fnExactHardnessOf", fn := fun _ => fun
  | [d1, d2] => { results := [.lit (.bool true)], args := [d1, d2] }
  | _ => none }
def fnExactHardnessOfRow : OpenClaim := { program := "ytncolcjjmllfeaa", sum := "65510fb89d88b4684182b7ef08164dafff5aaf9a1e8c870af7a05c364fb7a080", func := "loop.example/g01231/laws.FnExactHardnessOf", spec := "fnExactHardnessOf", inPlace := ["math.Float64bits", "math.Float64frombits"], unfollowed := true, recurses := true, apart := false }
def FnExactHardnessOfSaid : Prop := fnExactHardnessOfRow.holds Try.pinned (OpenSpec.ofChange fnExactHardnessOfSpec)

/-- ITS FALSE NEIGHBOUR: 'it returns false'. Refute it at one input. -/
def fnExactHardnessOfWrong : ChangeSpec := { name := "fnExactHardnessOf", fn := fun _ => fun
  | [d1, d2] => { results := [.lit (.bool false)], args := [d1, d2] }
  | _ => none }
def FnExactHardnessOfWrongFalsely : Prop := fnExactHardnessOfRow.holds Try.pinned (OpenSpec.ofChange fnExactHardnessOfWrong)

/-- 'laws.FnExactEchoesOf': WHATEVER THE INPUT: true; the input reads as it did. -/
def fnExactEchoesOfSpec : ChangeSpec := { name := "fnExactEchoesOf", fn := fun _ => fun
  | [d1, d2, d3] => { results := [.lit (.bool true)], args := [d1, d2, d3] }
  | _ => none }
def fnExactEchoesOfRow : OpenClaim := { program := "ytncolcjjmllfeaa", sum := "65510fb89d88b4684182b7ef08164dafff5aaf9a1e8c870af7a05c364fb7a080", func := "loop.example/g01231/laws.FnExactEchoesOf", spec := "fnExactEchoesOf", inPlace := ["math.Float64bits", "math.Float64frombits"], unfollowed := true, recurses := true, apart := false }
def FnExactEchoesOfSaid : Prop := fnExactEchoesOfRow.holds Try.pinned (OpenSpec.ofChange fnExactEchoesOfSpec)

/-- ITS FALSE NEIGHBOUR: 'it returns false'. Refute it at one input. -/
def fnExactEchoesOfWrong : ChangeSpec := { name := "fnExactEchoesOf", fn := fun _ => fun
  | [d1, d2, d3] => { results := [.lit (.bool false)], args := [d1, d2, d3] }
  | _ => none }
def FnExactEchoesOfWrongFalsely : Prop := fnExactEchoesOfRow.holds Try.pinned (OpenSpec.ofChange fnExactEchoesOfWrong)

/-- 'laws.FnExactSampleBetween': WHATEVER THE INPUT: true; the input reads as it did. -/
def fnExactSampleBetweenSpec : ChangeSpec := { name := "fnExactSampleBetween", fn := fun _ => fun
  | [d1, d2] => { results := [.lit (.bool true)], args := [d1, d2] }
  | _ => none }
def fnExactSampleBetweenRow : OpenClaim := { program := "ytncolcjjmllfeaa", sum := "65510fb89d88b4684182b7ef08164dafff5aaf9a1e8c870af7a05c364fb7a080", func := "loop.example/g01231/laws.FnExactSampleBetween", spec := "fnExactSampleBetween", inPlace := ["math.archFloor", "math.Float64bits", "math.Float64frombits", "math.archTrunc"], apart := false }
def FnExactSampleBetweenSaid : Prop := fnExactSampleBetweenRow.holds Try.pinned (OpenSpec.ofChange fnExactSampleBetweenSpec)

/-- ITS FALSE NEIGHBOUR: 'it returns false'. Refute it at one input. -/
def fnExactSampleBetweenWrong : ChangeSpec := { name := "fnExactSampleBetween", fn := fun _ => fun
  | [d1, d2] => { results := [.lit (.bool false)], args := [d1, d2] }
  | _ => none }
def FnExactSampleBetweenWrongFalsely : Prop := fnExactSampleBetweenRow.holds Try.pinned (OpenSpec.ofChange fnExactSampleBetweenWrong)

/-- 'laws.FnExactStretchAt': WHATEVER THE INPUT: true; the input reads as it did. -/
def fnExactStretchAtSpec : ChangeSpec := { name := "fnExactStretchAt", fn := fun _ => fun
  | [d1, d2, d3] => { results := [.lit (.bool true)], args := [d1, d2, d3] }
  | _ => none }
def fnExactStretchAtRow : OpenClaim := { program := "ytncolcjjmllfeaa", sum := "65510fb89d88b4684182b7ef08164dafff5aaf9a1e8c870af7a05c364fb7a080", func := "loop.example/g01231/laws.FnExactStretchAt", spec := "fnExactStretchAt", inPlace := ["math.sqrt"], unfollowed := true, recurses := true, apart := false }
def FnExactStretchAtSaid : Prop := fnExactStretchAtRow.holds Try.pinned (OpenSpec.ofChange fnExactStretchAtSpec)

/-- ITS FALSE NEIGHBOUR: 'it returns false'. Refute it at one input. -/
def fnExactStretchAtWrong : ChangeSpec := { name := "fnExactStretchAt", fn := fun _ => fun
  | [d1, d2, d3] => { results := [.lit (.bool false)], args := [d1, d2, d3] }
  | _ => none }
def FnExactStretchAtWrongFalsely : Prop := fnExactStretchAtRow.holds Try.pinned (OpenSpec.ofChange fnExactStretchAtWrong)

/-- 'laws.FnExactSameGather': WHATEVER THE INPUT: true; the input reads as it did. -/
def fnExactSameGatherSpec : ChangeSpec := { name := "fnExactSameGather", fn := fun _ => fun
  | [d1, d2] => { results := [.lit (.bool true)], args := [d1, d2] }
  | _ => none }
def fnExactSameGatherRow : OpenClaim := { program := "ytncolcjjmllfeaa", sum := "65510fb89d88b4684182b7ef08164dafff5aaf9a1e8c870af7a05c364fb7a080", func := "loop.example/g01231/laws.FnExactSameGather", spec := "fnExactSameGather", inPlace := ["math.Float32bits"], unfollowed := true, recurses := true, apart := false }
def FnExactSameGatherSaid : Prop := fnExactSameGatherRow.holds Try.pinned (OpenSpec.ofChange fnExactSameGatherSpec)

/-- ITS FALSE NEIGHBOUR: 'it returns false'. Refute it at one input. -/
def fnExactSameGatherWrong : ChangeSpec := { name := "fnExactSameGather", fn := fun _ => fun
  | [d1, d2] => { results := [.lit (.bool false)], args := [d1, d2] }
  | _ => none }
def FnExactSameGatherWrongFalsely : Prop := fnExactSameGatherRow.holds Try.pinned (OpenSpec.ofChange fnExactSameGatherWrong)

/-- 'laws.FnExactValidGather': WHATEVER THE INPUT: true; the input reads as it did. -/
def fnExactValidGatherSpec : ChangeSpec := { name := "fnExactValidGather", fn := fun _ => fun
  | [d] => { results := [.lit (.bool true)], args := [d] }
  | _ => none }
def fnExactValidGatherRow : OpenClaim := { program := "ytncolcjjmllfeaa", sum := "65510fb89d88b4684182b7ef08164dafff5aaf9a1e8c870af7a05c364fb7a080", func := "loop.example/g01231/laws.FnExactValidGather", spec := "fnExactValidGather", unfollowed := true, recurses := true, apart := false }
def FnExactValidGatherSaid : Prop := fnExactValidGatherRow.holds Try.pinned (OpenSpec.ofChange fnExactValidGatherSpec)

/-- ITS FALSE NEIGHBOUR: 'it returns false'. Refute it at one input. -/
def fnExactValidGatherWrong : ChangeSpec := { name := "fnExactValidGather", fn := fun _ => fun
  | [d] => { results := [.lit (.bool false)], args := [d] }
  | _ => none }
def FnExactValidGatherWrongFalsely : Prop := fnExactValidGatherRow.holds Try.pinned (OpenSpec.ofChange fnExactValidGatherWrong)

/-- 'laws.FnExactFlatGather': WHATEVER THE INPUT: true; the input reads as it did. -/
def fnExactFlatGatherSpec : ChangeSpec := { name := "fnExactFlatGather", fn := fun _ => fun
  | [d1, d2] => { results := [.lit (.bool true)], args := [d1, d2] }
  | _ => none }
def fnExactFlatGatherRow : OpenClaim := { program := "ytncolcjjmllfeaa", sum := "65510fb89d88b4684182b7ef08164dafff5aaf9a1e8c870af7a05c364fb7a080", func := "loop.example/g01231/laws.FnExactFlatGather", spec := "fnExactFlatGather", apart := false }
def FnExactFlatGatherSaid : Prop := fnExactFlatGatherRow.holds Try.pinned (OpenSpec.ofChange fnExactFlatGatherSpec)

/-- ITS FALSE NEIGHBOUR: 'it returns false'. Refute it at one input. -/
def fnExactFlatGatherWrong : ChangeSpec := { name := "fnExactFlatGather", fn := fun _ => fun
  | [d1, d2] => { results := [.lit (.bool false)], args := [d1, d2] }
  | _ => none }
def FnExactFlatGatherWrongFalsely : Prop := fnExactFlatGatherRow.holds Try.pinned (OpenSpec.ofChange fnExactFlatGatherWrong)

/-- 'laws.FnExactMoveTrace': WHATEVER THE INPUT: true; the input reads as it did. -/
def fnExactMoveTraceSpec : ChangeSpec := { name := "fnExactMoveTrace", fn := fun _ => fun
  | [d1, d2] => { results := [.lit (.bool true)], args := [d1, d2] }
  | _ => none }
def fnExactMoveTraceRow : OpenClaim := { program := "ytncolcjjmllfeaa", sum := "65510fb89d88b4684182b7ef08164dafff5aaf9a1e8c870af7a05c364fb7a080", func := "loop.example/g01231/laws.FnExactMoveTrace", spec := "fnExactMoveTrace", inPlace := ["math.archFloor", "math.Float64bits", "math.Float64frombits", "math.archTrunc"], unfollowed := true, recurses := true, apart := false }
def FnExactMoveTraceSaid : Prop := fnExactMoveTraceRow.holds Try.pinned (OpenSpec.ofChange fnExactMoveTraceSpec)

/-- ITS FALSE NEIGHBOUR: 'it returns false'. Refute it at one input. -/
def fnExactMoveTraceWrong : ChangeSpec := { name := "fnExactMoveTrace", fn := fun _ => fun
  | [d1, d2] => { results := [.lit (.bool false)], args := [d1, d2] }
  | _ => none }
def FnExactMoveTraceWrongFalsely : Prop := fnExactMoveTraceRow.holds Try.pinned (OpenSpec.ofChange fnExactMoveTraceWrong)

/-- 'laws.FnExactSpectrumAt': WHATEVER THE INPUT: true; the input reads as it did. -/
def fnExactSpectrumAtSpec : ChangeSpec := { name := "fnExactSpectrumAt", fn := fun _ => fun
  | [d1, d2] => { results := [.lit (.bool true)], args := [d1, d2] }
  | _ => none }
def fnExactSpectrumAtRow : OpenClaim := { program := "ytncolcjjmllfeaa", sum := "65510fb89d88b4684182b7ef08164dafff5aaf9a1e8c870af7a05c364fb7a080", func := "loop.example/g01231/laws.FnExactSpectrumAt", spec := "fnExactSpectrumAt", inPlace := ["math.Float32frombits", "math.Float64frombits", "math.Float64bits", "math.archTrunc"], apart := false }
def FnExactSpectrumAtSaid : Prop := fnExactSpectrumAtRow.holds Try.pinned (OpenSpec.ofChange fnExactSpectrumAtSpec)

/-- ITS FALSE NEIGHBOUR: 'it returns false'. Refute it at one input. -/
def fnExactSpectrumAtWrong : ChangeSpec := { name := "fnExactSpectrumAt", fn := fun _ => fun
  | [d1, d2] => { results := [.lit (.bool false)], args := [d1, d2] }
  | _ => none }
def FnExactSpectrumAtWrongFalsely : Prop := fnExactSpectrumAtRow.holds Try.pinned (OpenSpec.ofChange fnExactSpectrumAtWrong)

/-- 'laws.FnExactStackOf': WHATEVER THE INPUT: true; the input reads as it did. -/
def fnExactStackOfSpec : ChangeSpec := { name := "fnExactStackOf", fn := fun _ => fun
  | [d] => { results := [.lit (.bool true)], args := [d] }
  | _ => none }
def fnExactStackOfRow : OpenClaim := { program := "ytncolcjjmllfeaa", sum := "65510fb89d88b4684182b7ef08164dafff5aaf9a1e8c870af7a05c364fb7a080", func := "loop.example/g01231/laws.FnExactStackOf", spec := "fnExactStackOf", unfollowed := true, recurses := true, apart := false }
def FnExactStackOfSaid : Prop := fnExactStackOfRow.holds Try.pinned (OpenSpec.ofChange fnExactStackOfSpec)

/-- ITS FALSE NEIGHBOUR: 'it returns false'. Refute it at one input. -/
def fnExactStackOfWrong : ChangeSpec := { name := "fnExactStackOf", fn := fun _ => fun
  | [d] => { results := [.lit (.bool false)], args := [d] }
  | _ => none }
def FnExactStackOfWrongFalsely : Prop := fnExactStackOfRow.holds Try.pinned (OpenSpec.ofChange fnExactStackOfWrong)

/-- 'laws.FnExactLiveStack': WHATEVER THE INPUT: true; the input reads as it did. -/
def fnExactLiveStackSpec : ChangeSpec := { name := "fnExactLiveStack", fn := fun _ => fun
  | [d] => { results := [.lit (.bool true)], args := [d] }
  | _ => none }
def fnExactLiveStackRow : OpenClaim := { program := "ytncolcjjmllfeaa", sum := "65510fb89d88b4684182b7ef08164dafff5aaf9a1e8c870af7a05c364fb7a080", func := "loop.example/g01231/laws.FnExactLiveStack", spec := "fnExactLiveStack", unfollowed := true, recurses := true, apart := false }
def FnExactLiveStackSaid : Prop := fnExactLiveStackRow.holds Try.pinned (OpenSpec.ofChange fnExactLiveStackSpec)

/-- ITS FALSE NEIGHBOUR: 'it returns false'. Refute it at one input. -/
def fnExactLiveStackWrong : ChangeSpec := { name := "fnExactLiveStack", fn := fun _ => fun
  | [d] => { results := [.lit (.bool false)], args := [d] }
  | _ => none }
def FnExactLiveStackWrongFalsely : Prop := fnExactLiveStackRow.holds Try.pinned (OpenSpec.ofChange fnExactLiveStackWrong)

/-- 'laws.FnExactSemblanceAt': WHATEVER THE INPUT: true; the input reads as it did. -/
def fnExactSemblanceAtSpec : ChangeSpec := { name := "fnExactSemblanceAt", fn := fun _ => fun
  | [d1, d2, d3] => { results := [.lit (.bool true)], args := [d1, d2, d3] }
  | _ => none }
def fnExactSemblanceAtRow : OpenClaim := { program := "ytncolcjjmllfeaa", sum := "65510fb89d88b4684182b7ef08164dafff5aaf9a1e8c870af7a05c364fb7a080", func := "loop.example/g01231/laws.FnExactSemblanceAt", spec := "fnExactSemblanceAt", unfollowed := true, recurses := true, apart := false }
def FnExactSemblanceAtSaid : Prop := fnExactSemblanceAtRow.holds Try.pinned (OpenSpec.ofChange fnExactSemblanceAtSpec)

/-- ITS FALSE NEIGHBOUR: 'it returns false'. Refute it at one input. -/
def fnExactSemblanceAtWrong : ChangeSpec := { name := "fnExactSemblanceAt", fn := fun _ => fun
  | [d1, d2, d3] => { results := [.lit (.bool false)], args := [d1, d2, d3] }
  | _ => none }
def FnExactSemblanceAtWrongFalsely : Prop := fnExactSemblanceAtRow.holds Try.pinned (OpenSpec.ofChange fnExactSemblanceAtWrong)

/-- 'laws.FnExactKeepPlaces': WHATEVER THE INPUT: true; the input reads as it did. -/
def fnExactKeepPlacesSpec : ChangeSpec := { name := "fnExactKeepPlaces", fn := fun _ => fun
  | [d1, d2, d3] => { results := [.lit (.bool true)], args := [d1, d2, d3] }
  | _ => none }
def fnExactKeepPlacesRow : OpenClaim := { program := "ytncolcjjmllfeaa", sum := "65510fb89d88b4684182b7ef08164dafff5aaf9a1e8c870af7a05c364fb7a080", func := "loop.example/g01231/laws.FnExactKeepPlaces", spec := "fnExactKeepPlaces", unfollowed := true, recurses := true, apart := false }
def FnExactKeepPlacesSaid : Prop := fnExactKeepPlacesRow.holds Try.pinned (OpenSpec.ofChange fnExactKeepPlacesSpec)

/-- ITS FALSE NEIGHBOUR: 'it returns false'. Refute it at one input. -/
def fnExactKeepPlacesWrong : ChangeSpec := { name := "fnExactKeepPlaces", fn := fun _ => fun
  | [d1, d2, d3] => { results := [.lit (.bool false)], args := [d1, d2, d3] }
  | _ => none }
def FnExactKeepPlacesWrongFalsely : Prop := fnExactKeepPlacesRow.holds Try.pinned (OpenSpec.ofChange fnExactKeepPlacesWrong)

/-- 'laws.FnExactSpectrumOfTrace': WHATEVER THE INPUT: true; the input reads as it did. -/
def fnExactSpectrumOfTraceSpec : ChangeSpec := { name := "fnExactSpectrumOfTrace", fn := fun _ => fun
  | [d1, d2] => { results := [.lit (.bool true)], args := [d1, d2] }
  | _ => none }
def fnExactSpectrumOfTraceRow : OpenClaim := { program := "ytncolcjjmllfeaa", sum := "65510fb89d88b4684182b7ef08164dafff5aaf9a1e8c870af7a05c364fb7a080", func := "loop.example/g01231/laws.FnExactSpectrumOfTrace", spec := "fnExactSpectrumOfTrace", inPlace := ["math.Float32frombits", "math.Float64frombits", "math.Float64bits", "math.archTrunc"], apart := false }
def FnExactSpectrumOfTraceSaid : Prop := fnExactSpectrumOfTraceRow.holds Try.pinned (OpenSpec.ofChange fnExactSpectrumOfTraceSpec)

/-- ITS FALSE NEIGHBOUR: 'it returns false'. Refute it at one input. -/
def fnExactSpectrumOfTraceWrong : ChangeSpec := { name := "fnExactSpectrumOfTrace", fn := fun _ => fun
  | [d1, d2] => { results := [.lit (.bool false)], args := [d1, d2] }
  | _ => none }
def FnExactSpectrumOfTraceWrongFalsely : Prop := fnExactSpectrumOfTraceRow.holds Try.pinned (OpenSpec.ofChange fnExactSpectrumOfTraceWrong)

/-- 'laws.FnExactShiftsOf': WHATEVER THE INPUT: true; the input reads as it did. -/
def fnExactShiftsOfSpec : ChangeSpec := { name := "fnExactShiftsOf", fn := fun _ => fun
  | [d1, d2, d3] => { results := [.lit (.bool true)], args := [d1, d2, d3] }
  | _ => none }
def fnExactShiftsOfRow : OpenClaim := { program := "ytncolcjjmllfeaa", sum := "65510fb89d88b4684182b7ef08164dafff5aaf9a1e8c870af7a05c364fb7a080", func := "loop.example/g01231/laws.FnExactShiftsOf", spec := "fnExactShiftsOf", unfollowed := true, recurses := true, apart := false }
def FnExactShiftsOfSaid : Prop := fnExactShiftsOfRow.holds Try.pinned (OpenSpec.ofChange fnExactShiftsOfSpec)

/-- ITS FALSE NEIGHBOUR: 'it returns false'. Refute it at one input. -/
def fnExactShiftsOfWrong : ChangeSpec := { name := "fnExactShiftsOf", fn := fun _ => fun
  | [d1, d2, d3] => { results := [.lit (.bool false)], args := [d1, d2, d3] }
  | _ => none }
def FnExactShiftsOfWrongFalsely : Prop := fnExactShiftsOfRow.holds Try.pinned (OpenSpec.ofChange fnExactShiftsOfWrong)

/-- 'laws.FnExactCorrectTrace': WHATEVER THE INPUT: true; the input reads as it did. -/
def fnExactCorrectTraceSpec : ChangeSpec := { name := "fnExactCorrectTrace", fn := fun _ => fun
  | [d1, d2, d3] => { results := [.lit (.bool true)], args := [d1, d2, d3] }
  | _ => none }
def fnExactCorrectTraceRow : OpenClaim := { program := "ytncolcjjmllfeaa", sum := "65510fb89d88b4684182b7ef08164dafff5aaf9a1e8c870af7a05c364fb7a080", func := "loop.example/g01231/laws.FnExactCorrectTrace", spec := "fnExactCorrectTrace", inPlace := ["math.sqrt", "math.archFloor", "math.Float64bits", "math.Float64frombits", "math.archTrunc"], unfollowed := true, recurses := true, apart := false }
def FnExactCorrectTraceSaid : Prop := fnExactCorrectTraceRow.holds Try.pinned (OpenSpec.ofChange fnExactCorrectTraceSpec)

/-- ITS FALSE NEIGHBOUR: 'it returns false'. Refute it at one input. -/
def fnExactCorrectTraceWrong : ChangeSpec := { name := "fnExactCorrectTrace", fn := fun _ => fun
  | [d1, d2, d3] => { results := [.lit (.bool false)], args := [d1, d2, d3] }
  | _ => none }
def FnExactCorrectTraceWrongFalsely : Prop := fnExactCorrectTraceRow.holds Try.pinned (OpenSpec.ofChange fnExactCorrectTraceWrong)

/-- 'laws.FnExactBendTrace': WHATEVER THE INPUT: true; the input reads as it did. -/
def fnExactBendTraceSpec : ChangeSpec := { name := "fnExactBendTrace", fn := fun _ => fun
  | [d1, d2, d3] => { results := [.lit (.bool true)], args := [d1, d2, d3] }
  | _ => none }
def fnExactBendTraceRow : OpenClaim := { program := "ytncolcjjmllfeaa", sum := "65510fb89d88b4684182b7ef08164dafff5aaf9a1e8c870af7a05c364fb7a080", func := "loop.example/g01231/laws.FnExactBendTrace", spec := "fnExactBendTrace", inPlace := ["math.sqrt", "math.archFloor", "math.Float64bits", "math.Float64frombits", "math.archTrunc"], unfollowed := true, recurses := true, apart := false }
def FnExactBendTraceSaid : Prop := fnExactBendTraceRow.holds Try.pinned (OpenSpec.ofChange fnExactBendTraceSpec)

/-- ITS FALSE NEIGHBOUR: 'it returns false'. Refute it at one input. -/
def fnExactBendTraceWrong : ChangeSpec := { name := "fnExactBendTrace", fn := fun _ => fun
  | [d1, d2, d3] => { results := [.lit (.bool false)], args := [d1, d2, d3] }
  | _ => none }
def FnExactBendTraceWrongFalsely : Prop := fnExactBendTraceRow.holds Try.pinned (OpenSpec.ofChange fnExactBendTraceWrong)

/-- 'laws.FnExactShiftGather': WHATEVER THE INPUT: true; the input reads as it did. -/
def fnExactShiftGatherSpec : ChangeSpec := { name := "fnExactShiftGather", fn := fun _ => fun
  | [d1, d2] => { results := [.lit (.bool true)], args := [d1, d2] }
  | _ => none }
def fnExactShiftGatherRow : OpenClaim := { program := "ytncolcjjmllfeaa", sum := "65510fb89d88b4684182b7ef08164dafff5aaf9a1e8c870af7a05c364fb7a080", func := "loop.example/g01231/laws.FnExactShiftGather", spec := "fnExactShiftGather", unfollowed := true, recurses := true, apart := false }
def FnExactShiftGatherSaid : Prop := fnExactShiftGatherRow.holds Try.pinned (OpenSpec.ofChange fnExactShiftGatherSpec)

/-- ITS FALSE NEIGHBOUR: 'it returns false'. Refute it at one input. -/
def fnExactShiftGatherWrong : ChangeSpec := { name := "fnExactShiftGather", fn := fun _ => fun
  | [d1, d2] => { results := [.lit (.bool false)], args := [d1, d2] }
  | _ => none }
def FnExactShiftGatherWrongFalsely : Prop := fnExactShiftGatherRow.holds Try.pinned (OpenSpec.ofChange fnExactShiftGatherWrong)

/-- 'laws.FnExactSortGather': WHATEVER THE INPUT: true; the input reads as it did. -/
def fnExactSortGatherSpec : ChangeSpec := { name := "fnExactSortGather", fn := fun _ => fun
  | [d] => { results := [.lit (.bool true)], args := [d] }
  | _ => none }
def fnExactSortGatherRow : OpenClaim := { program := "ytncolcjjmllfeaa", sum := "65510fb89d88b4684182b7ef08164dafff5aaf9a1e8c870af7a05c364fb7a080", func := "loop.example/g01231/laws.FnExactSortGather", spec := "fnExactSortGather", unfollowed := true, recurses := true, apart := false }
def FnExactSortGatherSaid : Prop := fnExactSortGatherRow.holds Try.pinned (OpenSpec.ofChange fnExactSortGatherSpec)

/-- ITS FALSE NEIGHBOUR: 'it returns false'. Refute it at one input. -/
def fnExactSortGatherWrong : ChangeSpec := { name := "fnExactSortGather", fn := fun _ => fun
  | [d] => { results := [.lit (.bool false)], args := [d] }
  | _ => none }
def FnExactSortGatherWrongFalsely : Prop := fnExactSortGatherRow.holds Try.pinned (OpenSpec.ofChange fnExactSortGatherWrong)

/- THE SECOND FORM. 'bulk': how many values and letters a reading holds, each counted each time it is reached (what is shared counts as often as it is met; a slice's spare places count too). A statement '..UptoSaid' is the law's where the arguments, and the package variables that the reading takes, are together of bulk at most 1048576: NARROWER than '..Said'. Prove '..Said' where nothing that the law and all that it calls make is longer than what came in: it says more and counts as full. Else prove '..UptoSaid'. A law counts once. -/
mutual
def uptoBulk {H : Type} : DataW H → Nat
  | .lit (.string bytes) => bytes.length + 1
  | .lit _ => 1
  | .nil => 1
  | .ptr d => uptoBulk d + 1
  | .slice elems spare => uptoBulkAll elems + uptoBulkAll spare + 1
  | .agg parts => uptoBulkAll parts + 1
  | .iface _ d => uptoBulk d + 1
  | .map entries => uptoBulkEntries entries + 1
  | .held _ => 1
def uptoBulkAll {H : Type} : List (DataW H) → Nat
  | [] => 0
  | d :: r => uptoBulk d + uptoBulkAll r
def uptoBulkEntries {H : Type} : List (Lit × DataW H) → Nat
  | [] => 0
  | x :: r => uptoBulkEntry x + uptoBulkEntries r
def uptoBulkEntry {H : Type} : Lit × DataW H → Nat
  | (.string bytes, d) => bytes.length + uptoBulk d + 1
  | (_, d) => uptoBulk d + 1
 end
def uptoSmall : (H : Type) → List (DataW H) → Bool := fun _ ds => decide (uptoBulkAll ds ≤ 1048576)
def OpenSpec.upto (s : _root_.Go.ChangeSpec) : _root_.Go.OpenSpec := { _root_.Go.OpenSpec.ofChange s with cond := some uptoSmall }

/-- 'laws.FnExactPeakOfTrace', WHERE WHAT IT READS IS OF BULK AT MOST 1048576: true; the input reads as it did. -/
def fnExactPeakOfTraceUptoRow : OpenClaim := { program := "ytncolcjjmllfeaa", sum := "65510fb89d88b4684182b7ef08164dafff5aaf9a1e8c870af7a05c364fb7a080", func := "loop.example/g01231/laws.FnExactPeakOfTrace", spec := "fnExactPeakOfTrace", inPlace := ["math.Float64bits", "math.Float64frombits"], apart := false, narrowed := true }
def FnExactPeakOfTraceUptoSaid : Prop := fnExactPeakOfTraceUptoRow.holds Try.pinned (OpenSpec.upto fnExactPeakOfTraceSpec)

/-- 'laws.FnExactPeelTrace', WHERE WHAT IT READS IS OF BULK AT MOST 1048576: true; the input reads as it did. -/
def fnExactPeelTraceUptoRow : OpenClaim := { program := "ytncolcjjmllfeaa", sum := "65510fb89d88b4684182b7ef08164dafff5aaf9a1e8c870af7a05c364fb7a080", func := "loop.example/g01231/laws.FnExactPeelTrace", spec := "fnExactPeelTrace", inPlace := ["math.Float64bits", "math.Float64frombits"], apart := false, narrowed := true }
def FnExactPeelTraceUptoSaid : Prop := fnExactPeelTraceUptoRow.holds Try.pinned (OpenSpec.upto fnExactPeelTraceSpec)

/-- 'laws.FnExactHardnessOf', WHERE WHAT IT READS IS OF BULK AT MOST 1048576: true; the input reads as it did. -/
def fnExactHardnessOfUptoRow : OpenClaim := { program := "ytncolcjjmllfeaa", sum := "65510fb89d88b4684182b7ef08164dafff5aaf9a1e8c870af7a05c364fb7a080", func := "loop.example/g01231/laws.FnExactHardnessOf", spec := "fnExactHardnessOf", inPlace := ["math.Float64bits", "math.Float64frombits"], unfollowed := true, recurses := true, apart := false, narrowed := true }
def FnExactHardnessOfUptoSaid : Prop := fnExactHardnessOfUptoRow.holds Try.pinned (OpenSpec.upto fnExactHardnessOfSpec)

/-- 'laws.FnExactEchoesOf', WHERE WHAT IT READS IS OF BULK AT MOST 1048576: true; the input reads as it did. -/
def fnExactEchoesOfUptoRow : OpenClaim := { program := "ytncolcjjmllfeaa", sum := "65510fb89d88b4684182b7ef08164dafff5aaf9a1e8c870af7a05c364fb7a080", func := "loop.example/g01231/laws.FnExactEchoesOf", spec := "fnExactEchoesOf", inPlace := ["math.Float64bits", "math.Float64frombits"], unfollowed := true, recurses := true, apart := false, narrowed := true }
def FnExactEchoesOfUptoSaid : Prop := fnExactEchoesOfUptoRow.holds Try.pinned (OpenSpec.upto fnExactEchoesOfSpec)

/-- 'laws.FnExactSampleBetween', WHERE WHAT IT READS IS OF BULK AT MOST 1048576: true; the input reads as it did. -/
def fnExactSampleBetweenUptoRow : OpenClaim := { program := "ytncolcjjmllfeaa", sum := "65510fb89d88b4684182b7ef08164dafff5aaf9a1e8c870af7a05c364fb7a080", func := "loop.example/g01231/laws.FnExactSampleBetween", spec := "fnExactSampleBetween", inPlace := ["math.archFloor", "math.Float64bits", "math.Float64frombits", "math.archTrunc"], apart := false, narrowed := true }
def FnExactSampleBetweenUptoSaid : Prop := fnExactSampleBetweenUptoRow.holds Try.pinned (OpenSpec.upto fnExactSampleBetweenSpec)

/-- 'laws.FnExactStretchAt', WHERE WHAT IT READS IS OF BULK AT MOST 1048576: true; the input reads as it did. -/
def fnExactStretchAtUptoRow : OpenClaim := { program := "ytncolcjjmllfeaa", sum := "65510fb89d88b4684182b7ef08164dafff5aaf9a1e8c870af7a05c364fb7a080", func := "loop.example/g01231/laws.FnExactStretchAt", spec := "fnExactStretchAt", inPlace := ["math.sqrt"], unfollowed := true, recurses := true, apart := false, narrowed := true }
def FnExactStretchAtUptoSaid : Prop := fnExactStretchAtUptoRow.holds Try.pinned (OpenSpec.upto fnExactStretchAtSpec)

/-- 'laws.FnExactSameGather', WHERE WHAT IT READS IS OF BULK AT MOST 1048576: true; the input reads as it did. -/
def fnExactSameGatherUptoRow : OpenClaim := { program := "ytncolcjjmllfeaa", sum := "65510fb89d88b4684182b7ef08164dafff5aaf9a1e8c870af7a05c364fb7a080", func := "loop.example/g01231/laws.FnExactSameGather", spec := "fnExactSameGather", inPlace := ["math.Float32bits"], unfollowed := true, recurses := true, apart := false, narrowed := true }
def FnExactSameGatherUptoSaid : Prop := fnExactSameGatherUptoRow.holds Try.pinned (OpenSpec.upto fnExactSameGatherSpec)

/-- 'laws.FnExactValidGather', WHERE WHAT IT READS IS OF BULK AT MOST 1048576: true; the input reads as it did. -/
def fnExactValidGatherUptoRow : OpenClaim := { program := "ytncolcjjmllfeaa", sum := "65510fb89d88b4684182b7ef08164dafff5aaf9a1e8c870af7a05c364fb7a080", func := "loop.example/g01231/laws.FnExactValidGather", spec := "fnExactValidGather", unfollowed := true, recurses := true, apart := false, narrowed := true }
def FnExactValidGatherUptoSaid : Prop := fnExactValidGatherUptoRow.holds Try.pinned (OpenSpec.upto fnExactValidGatherSpec)

/-- 'laws.FnExactFlatGather', WHERE WHAT IT READS IS OF BULK AT MOST 1048576: true; the input reads as it did. -/
def fnExactFlatGatherUptoRow : OpenClaim := { program := "ytncolcjjmllfeaa", sum := "65510fb89d88b4684182b7ef08164dafff5aaf9a1e8c870af7a05c364fb7a080", func := "loop.example/g01231/laws.FnExactFlatGather", spec := "fnExactFlatGather", apart := false, narrowed := true }
def FnExactFlatGatherUptoSaid : Prop := fnExactFlatGatherUptoRow.holds Try.pinned (OpenSpec.upto fnExactFlatGatherSpec)

/-- 'laws.FnExactMoveTrace', WHERE WHAT IT READS IS OF BULK AT MOST 1048576: true; the input reads as it did. -/
def fnExactMoveTraceUptoRow : OpenClaim := { program := "ytncolcjjmllfeaa", sum := "65510fb89d88b4684182b7ef08164dafff5aaf9a1e8c870af7a05c364fb7a080", func := "loop.example/g01231/laws.FnExactMoveTrace", spec := "fnExactMoveTrace", inPlace := ["math.archFloor", "math.Float64bits", "math.Float64frombits", "math.archTrunc"], unfollowed := true, recurses := true, apart := false, narrowed := true }
def FnExactMoveTraceUptoSaid : Prop := fnExactMoveTraceUptoRow.holds Try.pinned (OpenSpec.upto fnExactMoveTraceSpec)

/-- 'laws.FnExactSpectrumAt', WHERE WHAT IT READS IS OF BULK AT MOST 1048576: true; the input reads as it did. -/
def fnExactSpectrumAtUptoRow : OpenClaim := { program := "ytncolcjjmllfeaa", sum := "65510fb89d88b4684182b7ef08164dafff5aaf9a1e8c870af7a05c364fb7a080", func := "loop.example/g01231/laws.FnExactSpectrumAt", spec := "fnExactSpectrumAt", inPlace := ["math.Float32frombits", "math.Float64frombits", "math.Float64bits", "math.archTrunc"], apart := false, narrowed := true }
def FnExactSpectrumAtUptoSaid : Prop := fnExactSpectrumAtUptoRow.holds Try.pinned (OpenSpec.upto fnExactSpectrumAtSpec)

/-- 'laws.FnExactStackOf', WHERE WHAT IT READS IS OF BULK AT MOST 1048576: true; the input reads as it did. -/
def fnExactStackOfUptoRow : OpenClaim := { program := "ytncolcjjmllfeaa", sum := "65510fb89d88b4684182b7ef08164dafff5aaf9a1e8c870af7a05c364fb7a080", func := "loop.example/g01231/laws.FnExactStackOf", spec := "fnExactStackOf", unfollowed := true, recurses := true, apart := false, narrowed := true }
def FnExactStackOfUptoSaid : Prop := fnExactStackOfUptoRow.holds Try.pinned (OpenSpec.upto fnExactStackOfSpec)

/-- 'laws.FnExactLiveStack', WHERE WHAT IT READS IS OF BULK AT MOST 1048576: true; the input reads as it did. -/
def fnExactLiveStackUptoRow : OpenClaim := { program := "ytncolcjjmllfeaa", sum := "65510fb89d88b4684182b7ef08164dafff5aaf9a1e8c870af7a05c364fb7a080", func := "loop.example/g01231/laws.FnExactLiveStack", spec := "fnExactLiveStack", unfollowed := true, recurses := true, apart := false, narrowed := true }
def FnExactLiveStackUptoSaid : Prop := fnExactLiveStackUptoRow.holds Try.pinned (OpenSpec.upto fnExactLiveStackSpec)

/-- 'laws.FnExactSemblanceAt', WHERE WHAT IT READS IS OF BULK AT MOST 1048576: true; the input reads as it did. -/
def fnExactSemblanceAtUptoRow : OpenClaim := { program := "ytncolcjjmllfeaa", sum := "65510fb89d88b4684182b7ef08164dafff5aaf9a1e8c870af7a05c364fb7a080", func := "loop.example/g01231/laws.FnExactSemblanceAt", spec := "fnExactSemblanceAt", unfollowed := true, recurses := true, apart := false, narrowed := true }
def FnExactSemblanceAtUptoSaid : Prop := fnExactSemblanceAtUptoRow.holds Try.pinned (OpenSpec.upto fnExactSemblanceAtSpec)

/-- 'laws.FnExactKeepPlaces', WHERE WHAT IT READS IS OF BULK AT MOST 1048576: true; the input reads as it did. -/
def fnExactKeepPlacesUptoRow : OpenClaim := { program := "ytncolcjjmllfeaa", sum := "65510fb89d88b4684182b7ef08164dafff5aaf9a1e8c870af7a05c364fb7a080", func := "loop.example/g01231/laws.FnExactKeepPlaces", spec := "fnExactKeepPlaces", unfollowed := true, recurses := true, apart := false, narrowed := true }
def FnExactKeepPlacesUptoSaid : Prop := fnExactKeepPlacesUptoRow.holds Try.pinned (OpenSpec.upto fnExactKeepPlacesSpec)

/-- 'laws.FnExactSpectrumOfTrace', WHERE WHAT IT READS IS OF BULK AT MOST 1048576: true; the input reads as it did. -/
def fnExactSpectrumOfTraceUptoRow : OpenClaim := { program := "ytncolcjjmllfeaa", sum := "65510fb89d88b4684182b7ef08164dafff5aaf9a1e8c870af7a05c364fb7a080", func := "loop.example/g01231/laws.FnExactSpectrumOfTrace", spec := "fnExactSpectrumOfTrace", inPlace := ["math.Float32frombits", "math.Float64frombits", "math.Float64bits", "math.archTrunc"], apart := false, narrowed := true }
def FnExactSpectrumOfTraceUptoSaid : Prop := fnExactSpectrumOfTraceUptoRow.holds Try.pinned (OpenSpec.upto fnExactSpectrumOfTraceSpec)

/-- 'laws.FnExactShiftsOf', WHERE WHAT IT READS IS OF BULK AT MOST 1048576: true; the input reads as it did. -/
def fnExactShiftsOfUptoRow : OpenClaim := { program := "ytncolcjjmllfeaa", sum := "65510fb89d88b4684182b7ef08164dafff5aaf9a1e8c870af7a05c364fb7a080", func := "loop.example/g01231/laws.FnExactShiftsOf", spec := "fnExactShiftsOf", unfollowed := true, recurses := true, apart := false, narrowed := true }
def FnExactShiftsOfUptoSaid : Prop := fnExactShiftsOfUptoRow.holds Try.pinned (OpenSpec.upto fnExactShiftsOfSpec)

/-- 'laws.FnExactCorrectTrace', WHERE WHAT IT READS IS OF BULK AT MOST 1048576: true; the input reads as it did. -/
def fnExactCorrectTraceUptoRow : OpenClaim := { program := "ytncolcjjmllfeaa", sum := "65510fb89d88b4684182b7ef08164dafff5aaf9a1e8c870af7a05c364fb7a080", func := "loop.example/g01231/laws.FnExactCorrectTrace", spec := "fnExactCorrectTrace", inPlace := ["math.sqrt", "math.archFloor", "math.Float64bits", "math.Float64frombits", "math.archTrunc"], unfollowed := true, recurses := true, apart := false, narrowed := true }
def FnExactCorrectTraceUptoSaid : Prop := fnExactCorrectTraceUptoRow.holds Try.pinned (OpenSpec.upto fnExactCorrectTraceSpec)

/-- 'laws.FnExactBendTrace', WHERE WHAT IT READS IS OF BULK AT MOST 1048576: true; the input reads as it did. -/
def fnExactBendTraceUptoRow : OpenClaim := { program := "ytncolcjjmllfeaa", sum := "65510fb89d88b4684182b7ef08164dafff5aaf9a1e8c870af7a05c364fb7a080", func := "loop.example/g01231/laws.FnExactBendTrace", spec := "fnExactBendTrace", inPlace := ["math.sqrt", "math.archFloor", "math.Float64bits", "math.Float64frombits", "math.archTrunc"], unfollowed := true, recurses := true, apart := false, narrowed := true }
def FnExactBendTraceUptoSaid : Prop := fnExactBendTraceUptoRow.holds Try.pinned (OpenSpec.upto fnExactBendTraceSpec)

/-- 'laws.FnExactShiftGather', WHERE WHAT IT READS IS OF BULK AT MOST 1048576: true; the input reads as it did. -/
def fnExactShiftGatherUptoRow : OpenClaim := { program := "ytncolcjjmllfeaa", sum := "65510fb89d88b4684182b7ef08164dafff5aaf9a1e8c870af7a05c364fb7a080", func := "loop.example/g01231/laws.FnExactShiftGather", spec := "fnExactShiftGather", unfollowed := true, recurses := true, apart := false, narrowed := true }
def FnExactShiftGatherUptoSaid : Prop := fnExactShiftGatherUptoRow.holds Try.pinned (OpenSpec.upto fnExactShiftGatherSpec)

/-- 'laws.FnExactSortGather', WHERE WHAT IT READS IS OF BULK AT MOST 1048576: true; the input reads as it did. -/
def fnExactSortGatherUptoRow : OpenClaim := { program := "ytncolcjjmllfeaa", sum := "65510fb89d88b4684182b7ef08164dafff5aaf9a1e8c870af7a05c364fb7a080", func := "loop.example/g01231/laws.FnExactSortGather", spec := "fnExactSortGather", unfollowed := true, recurses := true, apart := false, narrowed := true }
def FnExactSortGatherUptoSaid : Prop := fnExactSortGatherUptoRow.holds Try.pinned (OpenSpec.upto fnExactSortGatherSpec)

end Rows
end Go.Proofs.Ytncolcjjmllfeaa
