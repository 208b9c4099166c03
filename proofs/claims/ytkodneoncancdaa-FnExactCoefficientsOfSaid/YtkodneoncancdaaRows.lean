/-
  No cell of these rows narrows 'for every input' (looked for: loops, veiled, ifaces, maps, wideKeys, modest, calm, conditions, laid).
  DERIVED. THE GIVEN ROWS OF THIS SEAT. 18 by the template 'for every input the law returns true; each argument reads behind the call as it read before'; 0 by the template 'total and deterministic' (their statements: YtkodneoncancdaaTotals.lean).
  GIVEN WITH THE SEED: the statements are not yours to turn. If you find one false, say at which input.
  Laid BY PROGRAM, IN A SANDBOX (cutbox-rows.mjs): the forced cells as the released guide's own fill.sh prints them over the translation 3b3fd721180761f0… (all of the seat's roots in one cut). By AI agents, Wed Nov 11 2026. No macro, syntax, notation, axiom, sorry.
-/
import Derived.Test.YtkodneoncancdaaChecked
import GoSem.Claim
import GoSem.ClaimJoined
import GoSem.ClaimMapViews
import Derived.JoinedTies
import Derived.KernelRfl
namespace Go.Proofs.Ytkodneoncancdaa
/- THE CELL 'sum', in the pinned program and in every row, IS THE sha256 OF THE DUMP (.gsa) THAT YtkodneoncancdaaProg.lean LOADS. Nothing in Lean hashes anything: it is a label: what it is worth is what the hold of that sum in a sandbox is worth. -/
noncomputable def Try.pinned : Pinned := { name := "ytkodneoncancdaa", sum := "3b3fd721180761f06785492a604ec50378f984f8f2d713b982fbb5a6b300f4ce", checked := Try.checked }
namespace Rows
def none {H : Type} : Left H := { results := [], args := [] }

/-- 'laws.FnExactAreCoefficients': WHATEVER THE INPUT: true; the input reads as it did. -/
def fnExactAreCoefficientsSpec : ChangeSpec := { name := "fnExactAreCoefficients", fn := fun _ => fun
  | [d] => { results := [.lit (.bool true)], args := [d] }
  | _ => none }
def fnExactAreCoefficientsRow : OpenClaim := { program := "ytkodneoncancdaa", sum := "3b3fd721180761f06785492a604ec50378f984f8f2d713b982fbb5a6b300f4ce", func := "loop.example/g01231/laws.FnExactAreCoefficients", spec := "fnExactAreCoefficients", inPlace := ["math.Float64bits", "math.Float64frombits"], unfollowed := true, recurses := true, apart := false }
def FnExactAreCoefficientsSaid : Prop := fnExactAreCoefficientsRow.holds Try.pinned (OpenSpec.ofChange fnExactAreCoefficientsSpec)

/-- ITS FALSE NEIGHBOUR: 'it returns false'. Refute it at one input. -/
def fnExactAreCoefficientsWrong : ChangeSpec := { name := "fnExactAreCoefficients", fn := fun _ => fun
  | [d] => { results := [.lit (.bool false)], args := [d] }
  | _ => none }
def FnExactAreCoefficientsWrongFalsely : Prop := fnExactAreCoefficientsRow.holds Try.pinned (OpenSpec.ofChange fnExactAreCoefficientsWrong)

/-- 'laws.FnExactInverseOf': WHATEVER THE INPUT: true; the input reads as it did. -/
def fnExactInverseOfSpec : ChangeSpec := { name := "fnExactInverseOf", fn := fun _ => fun
  | [d1, d2] => { results := [.lit (.bool true)], args := [d1, d2] }
  | _ => none }
def fnExactInverseOfRow : OpenClaim := { program := "ytkodneoncancdaa", sum := "3b3fd721180761f06785492a604ec50378f984f8f2d713b982fbb5a6b300f4ce", func := "loop.example/g01231/laws.FnExactInverseOf", spec := "fnExactInverseOf", apart := false }
def FnExactInverseOfSaid : Prop := fnExactInverseOfRow.holds Try.pinned (OpenSpec.ofChange fnExactInverseOfSpec)

/-- ITS FALSE NEIGHBOUR: 'it returns false'. Refute it at one input. -/
def fnExactInverseOfWrong : ChangeSpec := { name := "fnExactInverseOf", fn := fun _ => fun
  | [d1, d2] => { results := [.lit (.bool false)], args := [d1, d2] }
  | _ => none }
def FnExactInverseOfWrongFalsely : Prop := fnExactInverseOfRow.holds Try.pinned (OpenSpec.ofChange fnExactInverseOfWrong)

/-- 'laws.FnExactTimesToeplitz': WHATEVER THE INPUT: true; the input reads as it did. -/
def fnExactTimesToeplitzSpec : ChangeSpec := { name := "fnExactTimesToeplitz", fn := fun _ => fun
  | [d1, d2] => { results := [.lit (.bool true)], args := [d1, d2] }
  | _ => none }
def fnExactTimesToeplitzRow : OpenClaim := { program := "ytkodneoncancdaa", sum := "3b3fd721180761f06785492a604ec50378f984f8f2d713b982fbb5a6b300f4ce", func := "loop.example/g01231/laws.FnExactTimesToeplitz", spec := "fnExactTimesToeplitz", apart := false }
def FnExactTimesToeplitzSaid : Prop := fnExactTimesToeplitzRow.holds Try.pinned (OpenSpec.ofChange fnExactTimesToeplitzSpec)

/-- ITS FALSE NEIGHBOUR: 'it returns false'. Refute it at one input. -/
def fnExactTimesToeplitzWrong : ChangeSpec := { name := "fnExactTimesToeplitz", fn := fun _ => fun
  | [d1, d2] => { results := [.lit (.bool false)], args := [d1, d2] }
  | _ => none }
def FnExactTimesToeplitzWrongFalsely : Prop := fnExactTimesToeplitzRow.holds Try.pinned (OpenSpec.ofChange fnExactTimesToeplitzWrong)

/-- 'laws.FnExactApplyFilter': WHATEVER THE INPUT: true; the input reads as it did. -/
def fnExactApplyFilterSpec : ChangeSpec := { name := "fnExactApplyFilter", fn := fun _ => fun
  | [d1, d2] => { results := [.lit (.bool true)], args := [d1, d2] }
  | _ => none }
def fnExactApplyFilterRow : OpenClaim := { program := "ytkodneoncancdaa", sum := "3b3fd721180761f06785492a604ec50378f984f8f2d713b982fbb5a6b300f4ce", func := "loop.example/g01231/laws.FnExactApplyFilter", spec := "fnExactApplyFilter", apart := false }
def FnExactApplyFilterSaid : Prop := fnExactApplyFilterRow.holds Try.pinned (OpenSpec.ofChange fnExactApplyFilterSpec)

/-- ITS FALSE NEIGHBOUR: 'it returns false'. Refute it at one input. -/
def fnExactApplyFilterWrong : ChangeSpec := { name := "fnExactApplyFilter", fn := fun _ => fun
  | [d1, d2] => { results := [.lit (.bool false)], args := [d1, d2] }
  | _ => none }
def FnExactApplyFilterWrongFalsely : Prop := fnExactApplyFilterRow.holds Try.pinned (OpenSpec.ofChange fnExactApplyFilterWrong)

/-- 'laws.FnExactMirrorTrace': WHATEVER THE INPUT: true; the input reads as it did. -/
def fnExactMirrorTraceSpec : ChangeSpec := { name := "fnExactMirrorTrace", fn := fun _ => fun
  | [d] => { results := [.lit (.bool true)], args := [d] }
  | _ => none }
def fnExactMirrorTraceRow : OpenClaim := { program := "ytkodneoncancdaa", sum := "3b3fd721180761f06785492a604ec50378f984f8f2d713b982fbb5a6b300f4ce", func := "loop.example/g01231/laws.FnExactMirrorTrace", spec := "fnExactMirrorTrace", apart := false }
def FnExactMirrorTraceSaid : Prop := fnExactMirrorTraceRow.holds Try.pinned (OpenSpec.ofChange fnExactMirrorTraceSpec)

/-- ITS FALSE NEIGHBOUR: 'it returns false'. Refute it at one input. -/
def fnExactMirrorTraceWrong : ChangeSpec := { name := "fnExactMirrorTrace", fn := fun _ => fun
  | [d] => { results := [.lit (.bool false)], args := [d] }
  | _ => none }
def FnExactMirrorTraceWrongFalsely : Prop := fnExactMirrorTraceRow.holds Try.pinned (OpenSpec.ofChange fnExactMirrorTraceWrong)

/-- 'laws.FnExactCrossOf': WHATEVER THE INPUT: true; the input reads as it did. -/
def fnExactCrossOfSpec : ChangeSpec := { name := "fnExactCrossOf", fn := fun _ => fun
  | [d1, d2, d3] => { results := [.lit (.bool true)], args := [d1, d2, d3] }
  | _ => none }
def fnExactCrossOfRow : OpenClaim := { program := "ytkodneoncancdaa", sum := "3b3fd721180761f06785492a604ec50378f984f8f2d713b982fbb5a6b300f4ce", func := "loop.example/g01231/laws.FnExactCrossOf", spec := "fnExactCrossOf", apart := false }
def FnExactCrossOfSaid : Prop := fnExactCrossOfRow.holds Try.pinned (OpenSpec.ofChange fnExactCrossOfSpec)

/-- ITS FALSE NEIGHBOUR: 'it returns false'. Refute it at one input. -/
def fnExactCrossOfWrong : ChangeSpec := { name := "fnExactCrossOf", fn := fun _ => fun
  | [d1, d2, d3] => { results := [.lit (.bool false)], args := [d1, d2, d3] }
  | _ => none }
def FnExactCrossOfWrongFalsely : Prop := fnExactCrossOfRow.holds Try.pinned (OpenSpec.ofChange fnExactCrossOfWrong)

/-- 'laws.FnExactAutoOf': WHATEVER THE INPUT: true; the input reads as it did. -/
def fnExactAutoOfSpec : ChangeSpec := { name := "fnExactAutoOf", fn := fun _ => fun
  | [d1, d2] => { results := [.lit (.bool true)], args := [d1, d2] }
  | _ => none }
def fnExactAutoOfRow : OpenClaim := { program := "ytkodneoncancdaa", sum := "3b3fd721180761f06785492a604ec50378f984f8f2d713b982fbb5a6b300f4ce", func := "loop.example/g01231/laws.FnExactAutoOf", spec := "fnExactAutoOf", apart := false }
def FnExactAutoOfSaid : Prop := fnExactAutoOfRow.holds Try.pinned (OpenSpec.ofChange fnExactAutoOfSpec)

/-- ITS FALSE NEIGHBOUR: 'it returns false'. Refute it at one input. -/
def fnExactAutoOfWrong : ChangeSpec := { name := "fnExactAutoOf", fn := fun _ => fun
  | [d1, d2] => { results := [.lit (.bool false)], args := [d1, d2] }
  | _ => none }
def FnExactAutoOfWrongFalsely : Prop := fnExactAutoOfRow.holds Try.pinned (OpenSpec.ofChange fnExactAutoOfWrong)

/-- 'laws.FnExactPeakOfTrace': WHATEVER THE INPUT: true; the input reads as it did. -/
def fnExactPeakOfTraceSpec : ChangeSpec := { name := "fnExactPeakOfTrace", fn := fun _ => fun
  | [d] => { results := [.lit (.bool true)], args := [d] }
  | _ => none }
def fnExactPeakOfTraceRow : OpenClaim := { program := "ytkodneoncancdaa", sum := "3b3fd721180761f06785492a604ec50378f984f8f2d713b982fbb5a6b300f4ce", func := "loop.example/g01231/laws.FnExactPeakOfTrace", spec := "fnExactPeakOfTrace", inPlace := ["math.Float64bits", "math.Float64frombits"], apart := false }
def FnExactPeakOfTraceSaid : Prop := fnExactPeakOfTraceRow.holds Try.pinned (OpenSpec.ofChange fnExactPeakOfTraceSpec)

/-- ITS FALSE NEIGHBOUR: 'it returns false'. Refute it at one input. -/
def fnExactPeakOfTraceWrong : ChangeSpec := { name := "fnExactPeakOfTrace", fn := fun _ => fun
  | [d] => { results := [.lit (.bool false)], args := [d] }
  | _ => none }
def FnExactPeakOfTraceWrongFalsely : Prop := fnExactPeakOfTraceRow.holds Try.pinned (OpenSpec.ofChange fnExactPeakOfTraceWrong)

/-- 'laws.FnExactFoldTraces': WHATEVER THE INPUT: true; the input reads as it did. -/
def fnExactFoldTracesSpec : ChangeSpec := { name := "fnExactFoldTraces", fn := fun _ => fun
  | [d1, d2] => { results := [.lit (.bool true)], args := [d1, d2] }
  | _ => none }
def fnExactFoldTracesRow : OpenClaim := { program := "ytkodneoncancdaa", sum := "3b3fd721180761f06785492a604ec50378f984f8f2d713b982fbb5a6b300f4ce", func := "loop.example/g01231/laws.FnExactFoldTraces", spec := "fnExactFoldTraces", apart := false }
def FnExactFoldTracesSaid : Prop := fnExactFoldTracesRow.holds Try.pinned (OpenSpec.ofChange fnExactFoldTracesSpec)

/-- ITS FALSE NEIGHBOUR: 'it returns false'. Refute it at one input. -/
def fnExactFoldTracesWrong : ChangeSpec := { name := "fnExactFoldTraces", fn := fun _ => fun
  | [d1, d2] => { results := [.lit (.bool false)], args := [d1, d2] }
  | _ => none }
def FnExactFoldTracesWrongFalsely : Prop := fnExactFoldTracesRow.holds Try.pinned (OpenSpec.ofChange fnExactFoldTracesWrong)

/-- 'laws.FnExactAddSurface': WHATEVER THE INPUT: true; the input reads as it did. -/
def fnExactAddSurfaceSpec : ChangeSpec := { name := "fnExactAddSurface", fn := fun _ => fun
  | [d1, d2] => { results := [.lit (.bool true)], args := [d1, d2] }
  | _ => none }
def fnExactAddSurfaceRow : OpenClaim := { program := "ytkodneoncancdaa", sum := "3b3fd721180761f06785492a604ec50378f984f8f2d713b982fbb5a6b300f4ce", func := "loop.example/g01231/laws.FnExactAddSurface", spec := "fnExactAddSurface", apart := false }
def FnExactAddSurfaceSaid : Prop := fnExactAddSurfaceRow.holds Try.pinned (OpenSpec.ofChange fnExactAddSurfaceSpec)

/-- ITS FALSE NEIGHBOUR: 'it returns false'. Refute it at one input. -/
def fnExactAddSurfaceWrong : ChangeSpec := { name := "fnExactAddSurface", fn := fun _ => fun
  | [d1, d2] => { results := [.lit (.bool false)], args := [d1, d2] }
  | _ => none }
def FnExactAddSurfaceWrongFalsely : Prop := fnExactAddSurfaceRow.holds Try.pinned (OpenSpec.ofChange fnExactAddSurfaceWrong)

/-- 'laws.FnExactDropSurface': WHATEVER THE INPUT: true; the input reads as it did. -/
def fnExactDropSurfaceSpec : ChangeSpec := { name := "fnExactDropSurface", fn := fun _ => fun
  | [d1, d2] => { results := [.lit (.bool true)], args := [d1, d2] }
  | _ => none }
def fnExactDropSurfaceRow : OpenClaim := { program := "ytkodneoncancdaa", sum := "3b3fd721180761f06785492a604ec50378f984f8f2d713b982fbb5a6b300f4ce", func := "loop.example/g01231/laws.FnExactDropSurface", spec := "fnExactDropSurface", apart := false }
def FnExactDropSurfaceSaid : Prop := fnExactDropSurfaceRow.holds Try.pinned (OpenSpec.ofChange fnExactDropSurfaceSpec)

/-- ITS FALSE NEIGHBOUR: 'it returns false'. Refute it at one input. -/
def fnExactDropSurfaceWrong : ChangeSpec := { name := "fnExactDropSurface", fn := fun _ => fun
  | [d1, d2] => { results := [.lit (.bool false)], args := [d1, d2] }
  | _ => none }
def FnExactDropSurfaceWrongFalsely : Prop := fnExactDropSurfaceRow.holds Try.pinned (OpenSpec.ofChange fnExactDropSurfaceWrong)

/-- 'laws.FnExactShiftTrace': WHATEVER THE INPUT: true; the input reads as it did. -/
def fnExactShiftTraceSpec : ChangeSpec := { name := "fnExactShiftTrace", fn := fun _ => fun
  | [d1, d2] => { results := [.lit (.bool true)], args := [d1, d2] }
  | _ => none }
def fnExactShiftTraceRow : OpenClaim := { program := "ytkodneoncancdaa", sum := "3b3fd721180761f06785492a604ec50378f984f8f2d713b982fbb5a6b300f4ce", func := "loop.example/g01231/laws.FnExactShiftTrace", spec := "fnExactShiftTrace", apart := false }
def FnExactShiftTraceSaid : Prop := fnExactShiftTraceRow.holds Try.pinned (OpenSpec.ofChange fnExactShiftTraceSpec)

/-- ITS FALSE NEIGHBOUR: 'it returns false'. Refute it at one input. -/
def fnExactShiftTraceWrong : ChangeSpec := { name := "fnExactShiftTrace", fn := fun _ => fun
  | [d1, d2] => { results := [.lit (.bool false)], args := [d1, d2] }
  | _ => none }
def FnExactShiftTraceWrongFalsely : Prop := fnExactShiftTraceRow.holds Try.pinned (OpenSpec.ofChange fnExactShiftTraceWrong)

/-- 'laws.FnExactFoldAbout': WHATEVER THE INPUT: true; the input reads as it did. -/
def fnExactFoldAboutSpec : ChangeSpec := { name := "fnExactFoldAbout", fn := fun _ => fun
  | [d1, d2] => { results := [.lit (.bool true)], args := [d1, d2] }
  | _ => none }
def fnExactFoldAboutRow : OpenClaim := { program := "ytkodneoncancdaa", sum := "3b3fd721180761f06785492a604ec50378f984f8f2d713b982fbb5a6b300f4ce", func := "loop.example/g01231/laws.FnExactFoldAbout", spec := "fnExactFoldAbout", apart := false }
def FnExactFoldAboutSaid : Prop := fnExactFoldAboutRow.holds Try.pinned (OpenSpec.ofChange fnExactFoldAboutSpec)

/-- ITS FALSE NEIGHBOUR: 'it returns false'. Refute it at one input. -/
def fnExactFoldAboutWrong : ChangeSpec := { name := "fnExactFoldAbout", fn := fun _ => fun
  | [d1, d2] => { results := [.lit (.bool false)], args := [d1, d2] }
  | _ => none }
def FnExactFoldAboutWrongFalsely : Prop := fnExactFoldAboutRow.holds Try.pinned (OpenSpec.ofChange fnExactFoldAboutWrong)

/-- 'laws.FnExactPrimariesOf': WHATEVER THE INPUT: true; the input reads as it did. -/
def fnExactPrimariesOfSpec : ChangeSpec := { name := "fnExactPrimariesOf", fn := fun _ => fun
  | [d1, d2] => { results := [.lit (.bool true)], args := [d1, d2] }
  | _ => none }
def fnExactPrimariesOfRow : OpenClaim := { program := "ytkodneoncancdaa", sum := "3b3fd721180761f06785492a604ec50378f984f8f2d713b982fbb5a6b300f4ce", func := "loop.example/g01231/laws.FnExactPrimariesOf", spec := "fnExactPrimariesOf", inPlace := ["math.Float64bits", "math.Float64frombits"], unfollowed := true, recurses := true, apart := false }
def FnExactPrimariesOfSaid : Prop := fnExactPrimariesOfRow.holds Try.pinned (OpenSpec.ofChange fnExactPrimariesOfSpec)

/-- ITS FALSE NEIGHBOUR: 'it returns false'. Refute it at one input. -/
def fnExactPrimariesOfWrong : ChangeSpec := { name := "fnExactPrimariesOf", fn := fun _ => fun
  | [d1, d2] => { results := [.lit (.bool false)], args := [d1, d2] }
  | _ => none }
def FnExactPrimariesOfWrongFalsely : Prop := fnExactPrimariesOfRow.holds Try.pinned (OpenSpec.ofChange fnExactPrimariesOfWrong)

/-- 'laws.FnExactPeelTrace': WHATEVER THE INPUT: true; the input reads as it did. -/
def fnExactPeelTraceSpec : ChangeSpec := { name := "fnExactPeelTrace", fn := fun _ => fun
  | [d1, d2, d3] => { results := [.lit (.bool true)], args := [d1, d2, d3] }
  | _ => none }
def fnExactPeelTraceRow : OpenClaim := { program := "ytkodneoncancdaa", sum := "3b3fd721180761f06785492a604ec50378f984f8f2d713b982fbb5a6b300f4ce", func := "loop.example/g01231/laws.FnExactPeelTrace", spec := "fnExactPeelTrace", inPlace := ["math.Float64bits", "math.Float64frombits"], apart := false }
def FnExactPeelTraceSaid : Prop := fnExactPeelTraceRow.holds Try.pinned (OpenSpec.ofChange fnExactPeelTraceSpec)

/-- ITS FALSE NEIGHBOUR: 'it returns false'. Refute it at one input. -/
def fnExactPeelTraceWrong : ChangeSpec := { name := "fnExactPeelTrace", fn := fun _ => fun
  | [d1, d2, d3] => { results := [.lit (.bool false)], args := [d1, d2, d3] }
  | _ => none }
def FnExactPeelTraceWrongFalsely : Prop := fnExactPeelTraceRow.holds Try.pinned (OpenSpec.ofChange fnExactPeelTraceWrong)

/-- 'laws.FnExactCoefficientsOf': WHATEVER THE INPUT: true; the input reads as it did. -/
def fnExactCoefficientsOfSpec : ChangeSpec := { name := "fnExactCoefficientsOf", fn := fun _ => fun
  | [d] => { results := [.lit (.bool true)], args := [d] }
  | _ => none }
def fnExactCoefficientsOfRow : OpenClaim := { program := "ytkodneoncancdaa", sum := "3b3fd721180761f06785492a604ec50378f984f8f2d713b982fbb5a6b300f4ce", func := "loop.example/g01231/laws.FnExactCoefficientsOf", spec := "fnExactCoefficientsOf", inPlace := ["math.Float64bits", "math.Float64frombits"], unfollowed := true, recurses := true, apart := false }
def FnExactCoefficientsOfSaid : Prop := fnExactCoefficientsOfRow.holds Try.pinned (OpenSpec.ofChange fnExactCoefficientsOfSpec)

/-- ITS FALSE NEIGHBOUR: 'it returns false'. Refute it at one input. -/
def fnExactCoefficientsOfWrong : ChangeSpec := { name := "fnExactCoefficientsOf", fn := fun _ => fun
  | [d] => { results := [.lit (.bool false)], args := [d] }
  | _ => none }
def FnExactCoefficientsOfWrongFalsely : Prop := fnExactCoefficientsOfRow.holds Try.pinned (OpenSpec.ofChange fnExactCoefficientsOfWrong)

/-- 'laws.FnExactHardnessOf': WHATEVER THE INPUT: true; the input reads as it did. -/
def fnExactHardnessOfSpec : ChangeSpec := { name := "fnExactHardnessOf", fn := fun _ => fun
  | [d1, d2] => { results := [.lit (.bool true)], args := [d1, d2] }
  | _ => none }
def fnExactHardnessOfRow : OpenClaim := { program := "ytkodneoncancdaa", sum := "3b3fd721180761f06785492a604ec50378f984f8f2d713b982fbb5a6b300f4ce", func := "loop.example/g01231/laws.FnExactHardnessOf", spec := "fnExactHardnessOf", inPlace := ["math.Float64bits", "math.Float64frombits"], unfollowed := true, recurses := true, apart := false }
def FnExactHardnessOfSaid : Prop := fnExactHardnessOfRow.holds Try.pinned (OpenSpec.ofChange fnExactHardnessOfSpec)

/-- ITS FALSE NEIGHBOUR: 'it returns false'. Refute it at one input. -/
def fnExactHardnessOfWrong : ChangeSpec := { name := "fnExactHardnessOf", fn := fun _ => fun
  | [d1, d2] => { results := [.lit (.bool false)], args := [d1, d2] }
  | _ => none }
def FnExactHardnessOfWrongFalsely : Prop := fnExactHardnessOfRow.holds Try.pinned (OpenSpec.ofChange fnExactHardnessOfWrong)

/-- 'laws.FnExactEchoesOf': WHATEVER THE INPUT: true; the input reads as it did. -/
def fnExactEchoesOfSpec : ChangeSpec := { name := "fnExactEchoesOf", fn := fun _ => fun
  | [d1, d2, d3] => { results := [.lit (.bool true)], args := [d1, d2, d3] }
  | _ => none }
def fnExactEchoesOfRow : OpenClaim := { program := "ytkodneoncancdaa", sum := "3b3fd721180761f06785492a604ec50378f984f8f2d713b982fbb5a6b300f4ce", func := "loop.example/g01231/laws.FnExactEchoesOf", spec := "fnExactEchoesOf", inPlace := ["math.Float64bits", "math.Float64frombits"], unfollowed := true, recurses := true, apart := false }
def FnExactEchoesOfSaid : Prop := fnExactEchoesOfRow.holds Try.pinned (OpenSpec.ofChange fnExactEchoesOfSpec)

/-- ITS FALSE NEIGHBOUR: 'it returns false'. Refute it at one input. -/
def fnExactEchoesOfWrong : ChangeSpec := { name := "fnExactEchoesOf", fn := fun _ => fun
  | [d1, d2, d3] => { results := [.lit (.bool false)], args := [d1, d2, d3] }
  | _ => none }
def FnExactEchoesOfWrongFalsely : Prop := fnExactEchoesOfRow.holds Try.pinned (OpenSpec.ofChange fnExactEchoesOfWrong)

/- THE SECOND FORM. 'bulk': how many values and letters a reading holds, each counted each time it is reached (what is shared counts as often as it is met; a slice's spare places count too). A statement '..UptoSaid' is the law's where the arguments, and the package variables that the reading takes, are together of bulk at most 1048576: NARROWER than '..Said'. Prove '..Said' where nothing that the law and all that it calls make is longer than what came in: it says more and counts as full. Else prove '..UptoSaid'. A law counts once. -/
mutual
def uptoBulk {H : Type} : DataW H → Nat
  | .lit (.string bytes) => bytes.length + 1
  | .lit _ => 1
  | .nil => 1
  | .ptr d => uptoBulk d + 1
  | .slice elems spare => uptoBulkAll elems + uptoBulkAll spare + 1
  | .agg parts => uptoBulkAll parts + 1
  | .iface _ d => uptoBulk d + 1
  | .map entries => uptoBulkEntries entries + 1
  | .held _ => 1
def uptoBulkAll {H : Type} : List (DataW H) → Nat
  | [] => 0
  | d :: r => uptoBulk d + uptoBulkAll r
def uptoBulkEntries {H : Type} : List (Lit × DataW H) → Nat
  | [] => 0
  | x :: r => uptoBulkEntry x + uptoBulkEntries r
def uptoBulkEntry {H : Type} : Lit × DataW H → Nat
  | (.string bytes, d) => bytes.length + uptoBulk d + 1
  | (_, d) => uptoBulk d + 1
 end
def uptoSmall : (H : Type) → List (DataW H) → Bool := fun _ ds => decide (uptoBulkAll ds ≤ 1048576)
def OpenSpec.upto (s : _root_.Go.ChangeSpec) : _root_.Go.OpenSpec := { _root_.Go.OpenSpec.ofChange s with cond := some uptoSmall }

/-- 'laws.FnExactAreCoefficients', WHERE WHAT IT READS IS OF BULK AT MOST 1048576: true; the input reads as it did. -/
def fnExactAreCoefficientsUptoRow : OpenClaim := { program := "ytkodneoncancdaa", sum := "3b3fd721180761f06785492a604ec50378f984f8f2d713b982fbb5a6b300f4ce", func := "loop.example/g01231/laws.FnExactAreCoefficients", spec := "fnExactAreCoefficients", inPlace := ["math.Float64bits", "math.Float64frombits"], unfollowed := true, recurses := true, apart := false, narrowed := true }
def FnExactAreCoefficientsUptoSaid : Prop := fnExactAreCoefficientsUptoRow.holds Try.pinned (OpenSpec.upto fnExactAreCoefficientsSpec)

/-- 'laws.FnExactInverseOf', WHERE WHAT IT READS IS OF BULK AT MOST 1048576: true; the input reads as it did. -/
def fnExactInverseOfUptoRow : OpenClaim := { program := "ytkodneoncancdaa", sum := "3b3fd721180761f06785492a604ec50378f984f8f2d713b982fbb5a6b300f4ce", func := "loop.example/g01231/laws.FnExactInverseOf", spec := "fnExactInverseOf", apart := false, narrowed := true }
def FnExactInverseOfUptoSaid : Prop := fnExactInverseOfUptoRow.holds Try.pinned (OpenSpec.upto fnExactInverseOfSpec)

/-- 'laws.FnExactTimesToeplitz', WHERE WHAT IT READS IS OF BULK AT MOST 1048576: true; the input reads as it did. -/
def fnExactTimesToeplitzUptoRow : OpenClaim := { program := "ytkodneoncancdaa", sum := "3b3fd721180761f06785492a604ec50378f984f8f2d713b982fbb5a6b300f4ce", func := "loop.example/g01231/laws.FnExactTimesToeplitz", spec := "fnExactTimesToeplitz", apart := false, narrowed := true }
def FnExactTimesToeplitzUptoSaid : Prop := fnExactTimesToeplitzUptoRow.holds Try.pinned (OpenSpec.upto fnExactTimesToeplitzSpec)

/-- 'laws.FnExactApplyFilter', WHERE WHAT IT READS IS OF BULK AT MOST 1048576: true; the input reads as it did. -/
def fnExactApplyFilterUptoRow : OpenClaim := { program := "ytkodneoncancdaa", sum := "3b3fd721180761f06785492a604ec50378f984f8f2d713b982fbb5a6b300f4ce", func := "loop.example/g01231/laws.FnExactApplyFilter", spec := "fnExactApplyFilter", apart := false, narrowed := true }
def FnExactApplyFilterUptoSaid : Prop := fnExactApplyFilterUptoRow.holds Try.pinned (OpenSpec.upto fnExactApplyFilterSpec)

/-- 'laws.FnExactMirrorTrace', WHERE WHAT IT READS IS OF BULK AT MOST 1048576: true; the input reads as it did. -/
def fnExactMirrorTraceUptoRow : OpenClaim := { program := "ytkodneoncancdaa", sum := "3b3fd721180761f06785492a604ec50378f984f8f2d713b982fbb5a6b300f4ce", func := "loop.example/g01231/laws.FnExactMirrorTrace", spec := "fnExactMirrorTrace", apart := false, narrowed := true }
def FnExactMirrorTraceUptoSaid : Prop := fnExactMirrorTraceUptoRow.holds Try.pinned (OpenSpec.upto fnExactMirrorTraceSpec)

/-- 'laws.FnExactCrossOf', WHERE WHAT IT READS IS OF BULK AT MOST 1048576: true; the input reads as it did. -/
def fnExactCrossOfUptoRow : OpenClaim := { program := "ytkodneoncancdaa", sum := "3b3fd721180761f06785492a604ec50378f984f8f2d713b982fbb5a6b300f4ce", func := "loop.example/g01231/laws.FnExactCrossOf", spec := "fnExactCrossOf", apart := false, narrowed := true }
def FnExactCrossOfUptoSaid : Prop := fnExactCrossOfUptoRow.holds Try.pinned (OpenSpec.upto fnExactCrossOfSpec)

/-- 'laws.FnExactAutoOf', WHERE WHAT IT READS IS OF BULK AT MOST 1048576: true; the input reads as it did. -/
def fnExactAutoOfUptoRow : OpenClaim := { program := "ytkodneoncancdaa", sum := "3b3fd721180761f06785492a604ec50378f984f8f2d713b982fbb5a6b300f4ce", func := "loop.example/g01231/laws.FnExactAutoOf", spec := "fnExactAutoOf", apart := false, narrowed := true }
def FnExactAutoOfUptoSaid : Prop := fnExactAutoOfUptoRow.holds Try.pinned (OpenSpec.upto fnExactAutoOfSpec)

/-- 'laws.FnExactPeakOfTrace', WHERE WHAT IT READS IS OF BULK AT MOST 1048576: true; the input reads as it did. -/
def fnExactPeakOfTraceUptoRow : OpenClaim := { program := "ytkodneoncancdaa", sum := "3b3fd721180761f06785492a604ec50378f984f8f2d713b982fbb5a6b300f4ce", func := "loop.example/g01231/laws.FnExactPeakOfTrace", spec := "fnExactPeakOfTrace", inPlace := ["math.Float64bits", "math.Float64frombits"], apart := false, narrowed := true }
def FnExactPeakOfTraceUptoSaid : Prop := fnExactPeakOfTraceUptoRow.holds Try.pinned (OpenSpec.upto fnExactPeakOfTraceSpec)

/-- 'laws.FnExactFoldTraces', WHERE WHAT IT READS IS OF BULK AT MOST 1048576: true; the input reads as it did. -/
def fnExactFoldTracesUptoRow : OpenClaim := { program := "ytkodneoncancdaa", sum := "3b3fd721180761f06785492a604ec50378f984f8f2d713b982fbb5a6b300f4ce", func := "loop.example/g01231/laws.FnExactFoldTraces", spec := "fnExactFoldTraces", apart := false, narrowed := true }
def FnExactFoldTracesUptoSaid : Prop := fnExactFoldTracesUptoRow.holds Try.pinned (OpenSpec.upto fnExactFoldTracesSpec)

/-- 'laws.FnExactAddSurface', WHERE WHAT IT READS IS OF BULK AT MOST 1048576: true; the input reads as it did. -/
def fnExactAddSurfaceUptoRow : OpenClaim := { program := "ytkodneoncancdaa", sum := "3b3fd721180761f06785492a604ec50378f984f8f2d713b982fbb5a6b300f4ce", func := "loop.example/g01231/laws.FnExactAddSurface", spec := "fnExactAddSurface", apart := false, narrowed := true }
def FnExactAddSurfaceUptoSaid : Prop := fnExactAddSurfaceUptoRow.holds Try.pinned (OpenSpec.upto fnExactAddSurfaceSpec)

/-- 'laws.FnExactDropSurface', WHERE WHAT IT READS IS OF BULK AT MOST 1048576: true; the input reads as it did. -/
def fnExactDropSurfaceUptoRow : OpenClaim := { program := "ytkodneoncancdaa", sum := "3b3fd721180761f06785492a604ec50378f984f8f2d713b982fbb5a6b300f4ce", func := "loop.example/g01231/laws.FnExactDropSurface", spec := "fnExactDropSurface", apart := false, narrowed := true }
def FnExactDropSurfaceUptoSaid : Prop := fnExactDropSurfaceUptoRow.holds Try.pinned (OpenSpec.upto fnExactDropSurfaceSpec)

/-- 'laws.FnExactShiftTrace', WHERE WHAT IT READS IS OF BULK AT MOST 1048576: true; the input reads as it did. -/
def fnExactShiftTraceUptoRow : OpenClaim := { program := "ytkodneoncancdaa", sum := "3b3fd721180761f06785492a604ec50378f984f8f2d713b982fbb5a6b300f4ce", func := "loop.example/g01231/laws.FnExactShiftTrace", spec := "fnExactShiftTrace", apart := false, narrowed := true }
def FnExactShiftTraceUptoSaid : Prop := fnExactShiftTraceUptoRow.holds Try.pinned (OpenSpec.upto fnExactShiftTraceSpec)

/-- 'laws.FnExactFoldAbout', WHERE WHAT IT READS IS OF BULK AT MOST 1048576: true; the input reads as it did. -/
def fnExactFoldAboutUptoRow : OpenClaim := { program := "ytkodneoncancdaa", sum := "3b3fd721180761f06785492a604ec50378f984f8f2d713b982fbb5a6b300f4ce", func := "loop.example/g01231/laws.FnExactFoldAbout", spec := "fnExactFoldAbout", apart := false, narrowed := true }
def FnExactFoldAboutUptoSaid : Prop := fnExactFoldAboutUptoRow.holds Try.pinned (OpenSpec.upto fnExactFoldAboutSpec)

/-- 'laws.FnExactPrimariesOf', WHERE WHAT IT READS IS OF BULK AT MOST 1048576: true; the input reads as it did. -/
def fnExactPrimariesOfUptoRow : OpenClaim := { program := "ytkodneoncancdaa", sum := "3b3fd721180761f06785492a604ec50378f984f8f2d713b982fbb5a6b300f4ce", func := "loop.example/g01231/laws.FnExactPrimariesOf", spec := "fnExactPrimariesOf", inPlace := ["math.Float64bits", "math.Float64frombits"], unfollowed := true, recurses := true, apart := false, narrowed := true }
def FnExactPrimariesOfUptoSaid : Prop := fnExactPrimariesOfUptoRow.holds Try.pinned (OpenSpec.upto fnExactPrimariesOfSpec)

/-- 'laws.FnExactPeelTrace', WHERE WHAT IT READS IS OF BULK AT MOST 1048576: true; the input reads as it did. -/
def fnExactPeelTraceUptoRow : OpenClaim := { program := "ytkodneoncancdaa", sum := "3b3fd721180761f06785492a604ec50378f984f8f2d713b982fbb5a6b300f4ce", func := "loop.example/g01231/laws.FnExactPeelTrace", spec := "fnExactPeelTrace", inPlace := ["math.Float64bits", "math.Float64frombits"], apart := false, narrowed := true }
def FnExactPeelTraceUptoSaid : Prop := fnExactPeelTraceUptoRow.holds Try.pinned (OpenSpec.upto fnExactPeelTraceSpec)

/-- 'laws.FnExactCoefficientsOf', WHERE WHAT IT READS IS OF BULK AT MOST 1048576: true; the input reads as it did. -/
def fnExactCoefficientsOfUptoRow : OpenClaim := { program := "ytkodneoncancdaa", sum := "3b3fd721180761f06785492a604ec50378f984f8f2d713b982fbb5a6b300f4ce", func := "loop.example/g01231/laws.FnExactCoefficientsOf", spec := "fnExactCoefficientsOf", inPlace := ["math.Float64bits", "math.Float64frombits"], unfollowed := true, recurses := true, apart := false, narrowed := true }
def FnExactCoefficientsOfUptoSaid : Prop := fnExactCoefficientsOfUptoRow.holds Try.pinned (OpenSpec.upto fnExactCoefficientsOfSpec)

/-- 'laws.FnExactHardnessOf', WHERE WHAT IT READS IS OF BULK AT MOST 1048576: true; the input reads as it did. -/
def fnExactHardnessOfUptoRow : OpenClaim := { program := "ytkodneoncancdaa", sum := "3b3fd721180761f06785492a604ec50378f984f8f2d713b982fbb5a6b300f4ce", func := "loop.example/g01231/laws.FnExactHardnessOf", spec := "fnExactHardnessOf", inPlace := ["math.Float64bits", "math.Float64frombits"], unfollowed := true, recurses := true, apart := false, narrowed := true }
def FnExactHardnessOfUptoSaid : Prop := fnExactHardnessOfUptoRow.holds Try.pinned (OpenSpec.upto fnExactHardnessOfSpec)

/-- 'laws.FnExactEchoesOf', WHERE WHAT IT READS IS OF BULK AT MOST 1048576: true; the input reads as it did. -/
def fnExactEchoesOfUptoRow : OpenClaim := { program := "ytkodneoncancdaa", sum := "3b3fd721180761f06785492a604ec50378f984f8f2d713b982fbb5a6b300f4ce", func := "loop.example/g01231/laws.FnExactEchoesOf", spec := "fnExactEchoesOf", inPlace := ["math.Float64bits", "math.Float64frombits"], unfollowed := true, recurses := true, apart := false, narrowed := true }
def FnExactEchoesOfUptoSaid : Prop := fnExactEchoesOfUptoRow.holds Try.pinned (OpenSpec.upto fnExactEchoesOfSpec)

end Rows
end Go.Proofs.Ytkodneoncancdaa
