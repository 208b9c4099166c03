/-
  No cell of these rows narrows 'for every input' (looked for: loops, veiled, ifaces, maps, wideKeys, modest, calm, conditions, laid).
  DERIVED. THE GIVEN ROWS OF THIS SEAT. 12 by the template 'for every input the law returns true; each argument reads behind the call as it read before'; 0 by the template 'total and deterministic' (their statements: YtgilngdbhkefcaaTotals.lean).
  GIVEN WITH THE SEED: the statements are not yours to turn. If you find one false, say at which input.
  Laid BY PROGRAM, IN A SANDBOX (cutbox-rows.mjs): the forced cells as the released guide's own fill.sh prints them over the translation ef57558daf8ae13a… (all of the seat's roots in one cut). By AI agents, Wed Nov 11 2026. No macro, syntax, notation, axiom, sorry.
-/
import Derived.Test.YtgilngdbhkefcaaChecked
import GoSem.Claim
import GoSem.ClaimJoined
import GoSem.ClaimMapViews
import Derived.JoinedTies
import Derived.KernelRfl
namespace Go.Proofs.Ytgilngdbhkefcaa
/- THE CELL 'sum', in the pinned program and in every row, IS THE sha256 OF THE DUMP (.gsa) THAT YtgilngdbhkefcaaProg.lean LOADS. Nothing in Lean hashes anything: it is a label: what it is worth is what the hold of that sum in a sandbox is worth. -/
noncomputable def Try.pinned : Pinned := { name := "ytgilngdbhkefcaa", sum := "ef57558daf8ae13a55b79fbd1c082ec731a7a46ccd97774c60dd9d5f695c0f24", checked := Try.checked }
namespace Rows
def none {H : Type} : Left H := { results := [], args := [] }

/-- 'laws.FnExactIsTrace': WHATEVER THE INPUT: true; the input reads as it did. -/
def fnExactIsTraceSpec : ChangeSpec := { name := "fnExactIsTrace", fn := fun _ => fun
  | [d] => { results := [.lit (.bool true)], args := [d] }
  | _ => none }
def fnExactIsTraceRow : OpenClaim := { program := "ytgilngdbhkefcaa", sum := "ef57558daf8ae13a55b79fbd1c082ec731a7a46ccd97774c60dd9d5f695c0f24", func := "loop.example/g01231/laws.FnExactIsTrace", spec := "fnExactIsTrace", apart := false }
def FnExactIsTraceSaid : Prop := fnExactIsTraceRow.holds Try.pinned (OpenSpec.ofChange fnExactIsTraceSpec)

/-- ITS FALSE NEIGHBOUR: 'it returns false'. Refute it at one input. -/
def fnExactIsTraceWrong : ChangeSpec := { name := "fnExactIsTrace", fn := fun _ => fun
  | [d] => { results := [.lit (.bool false)], args := [d] }
  | _ => none }
def FnExactIsTraceWrongFalsely : Prop := fnExactIsTraceRow.holds Try.pinned (OpenSpec.ofChange fnExactIsTraceWrong)

/-- 'laws.FnExactPulseTrace': WHATEVER THE INPUT: true; the input reads as it did. -/
def fnExactPulseTraceSpec : ChangeSpec := { name := "fnExactPulseTrace", fn := fun _ => fun
  | [d1, d2, d3] => { results := [.lit (.bool true)], args := [d1, d2, d3] }
  | _ => none }
def fnExactPulseTraceRow : OpenClaim := { program := "ytgilngdbhkefcaa", sum := "ef57558daf8ae13a55b79fbd1c082ec731a7a46ccd97774c60dd9d5f695c0f24", func := "loop.example/g01231/laws.FnExactPulseTrace", spec := "fnExactPulseTrace", apart := false }
def FnExactPulseTraceSaid : Prop := fnExactPulseTraceRow.holds Try.pinned (OpenSpec.ofChange fnExactPulseTraceSpec)

/-- ITS FALSE NEIGHBOUR: 'it returns false'. Refute it at one input. -/
def fnExactPulseTraceWrong : ChangeSpec := { name := "fnExactPulseTrace", fn := fun _ => fun
  | [d1, d2, d3] => { results := [.lit (.bool false)], args := [d1, d2, d3] }
  | _ => none }
def FnExactPulseTraceWrongFalsely : Prop := fnExactPulseTraceRow.holds Try.pinned (OpenSpec.ofChange fnExactPulseTraceWrong)

/-- 'laws.FnExactEnergyOfTrace': WHATEVER THE INPUT: true; the input reads as it did. -/
def fnExactEnergyOfTraceSpec : ChangeSpec := { name := "fnExactEnergyOfTrace", fn := fun _ => fun
  | [d] => { results := [.lit (.bool true)], args := [d] }
  | _ => none }
def fnExactEnergyOfTraceRow : OpenClaim := { program := "ytgilngdbhkefcaa", sum := "ef57558daf8ae13a55b79fbd1c082ec731a7a46ccd97774c60dd9d5f695c0f24", func := "loop.example/g01231/laws.FnExactEnergyOfTrace", spec := "fnExactEnergyOfTrace", apart := false }
def FnExactEnergyOfTraceSaid : Prop := fnExactEnergyOfTraceRow.holds Try.pinned (OpenSpec.ofChange fnExactEnergyOfTraceSpec)

/-- ITS FALSE NEIGHBOUR: 'it returns false'. Refute it at one input. -/
def fnExactEnergyOfTraceWrong : ChangeSpec := { name := "fnExactEnergyOfTrace", fn := fun _ => fun
  | [d] => { results := [.lit (.bool false)], args := [d] }
  | _ => none }
def FnExactEnergyOfTraceWrongFalsely : Prop := fnExactEnergyOfTraceRow.holds Try.pinned (OpenSpec.ofChange fnExactEnergyOfTraceWrong)

/-- 'laws.FnExactAreCoefficients': WHATEVER THE INPUT: true; the input reads as it did. -/
def fnExactAreCoefficientsSpec : ChangeSpec := { name := "fnExactAreCoefficients", fn := fun _ => fun
  | [d] => { results := [.lit (.bool true)], args := [d] }
  | _ => none }
def fnExactAreCoefficientsRow : OpenClaim := { program := "ytgilngdbhkefcaa", sum := "ef57558daf8ae13a55b79fbd1c082ec731a7a46ccd97774c60dd9d5f695c0f24", func := "loop.example/g01231/laws.FnExactAreCoefficients", spec := "fnExactAreCoefficients", inPlace := ["math.Float64bits", "math.Float64frombits"], unfollowed := true, recurses := true, apart := false }
def FnExactAreCoefficientsSaid : Prop := fnExactAreCoefficientsRow.holds Try.pinned (OpenSpec.ofChange fnExactAreCoefficientsSpec)

/-- ITS FALSE NEIGHBOUR: 'it returns false'. Refute it at one input. -/
def fnExactAreCoefficientsWrong : ChangeSpec := { name := "fnExactAreCoefficients", fn := fun _ => fun
  | [d] => { results := [.lit (.bool false)], args := [d] }
  | _ => none }
def FnExactAreCoefficientsWrongFalsely : Prop := fnExactAreCoefficientsRow.holds Try.pinned (OpenSpec.ofChange fnExactAreCoefficientsWrong)

/-- 'laws.FnExactNoiseTrace': WHATEVER THE INPUT: true; the input reads as it did. -/
def fnExactNoiseTraceSpec : ChangeSpec := { name := "fnExactNoiseTrace", fn := fun _ => fun
  | [d1, d2, d3] => { results := [.lit (.bool true)], args := [d1, d2, d3] }
  | _ => none }
def fnExactNoiseTraceRow : OpenClaim := { program := "ytgilngdbhkefcaa", sum := "ef57558daf8ae13a55b79fbd1c082ec731a7a46ccd97774c60dd9d5f695c0f24", func := "loop.example/g01231/laws.FnExactNoiseTrace", spec := "fnExactNoiseTrace", apart := false }
def FnExactNoiseTraceSaid : Prop := fnExactNoiseTraceRow.holds Try.pinned (OpenSpec.ofChange fnExactNoiseTraceSpec)

/-- ITS FALSE NEIGHBOUR: 'it returns false'. Refute it at one input. -/
def fnExactNoiseTraceWrong : ChangeSpec := { name := "fnExactNoiseTrace", fn := fun _ => fun
  | [d1, d2, d3] => { results := [.lit (.bool false)], args := [d1, d2, d3] }
  | _ => none }
def FnExactNoiseTraceWrongFalsely : Prop := fnExactNoiseTraceRow.holds Try.pinned (OpenSpec.ofChange fnExactNoiseTraceWrong)

/-- 'laws.FnExactWaveletOf': WHATEVER THE INPUT: true; the input reads as it did. -/
def fnExactWaveletOfSpec : ChangeSpec := { name := "fnExactWaveletOf", fn := fun _ => fun
  | [d1, d2] => { results := [.lit (.bool true)], args := [d1, d2] }
  | _ => none }
def fnExactWaveletOfRow : OpenClaim := { program := "ytgilngdbhkefcaa", sum := "ef57558daf8ae13a55b79fbd1c082ec731a7a46ccd97774c60dd9d5f695c0f24", func := "loop.example/g01231/laws.FnExactWaveletOf", spec := "fnExactWaveletOf", apart := false }
def FnExactWaveletOfSaid : Prop := fnExactWaveletOfRow.holds Try.pinned (OpenSpec.ofChange fnExactWaveletOfSpec)

/-- ITS FALSE NEIGHBOUR: 'it returns false'. Refute it at one input. -/
def fnExactWaveletOfWrong : ChangeSpec := { name := "fnExactWaveletOf", fn := fun _ => fun
  | [d1, d2] => { results := [.lit (.bool false)], args := [d1, d2] }
  | _ => none }
def FnExactWaveletOfWrongFalsely : Prop := fnExactWaveletOfRow.holds Try.pinned (OpenSpec.ofChange fnExactWaveletOfWrong)

/-- 'laws.FnExactShareOfSignal': WHATEVER THE INPUT: true; the input reads as it did. -/
def fnExactShareOfSignalSpec : ChangeSpec := { name := "fnExactShareOfSignal", fn := fun _ => fun
  | [d1, d2] => { results := [.lit (.bool true)], args := [d1, d2] }
  | _ => none }
def fnExactShareOfSignalRow : OpenClaim := { program := "ytgilngdbhkefcaa", sum := "ef57558daf8ae13a55b79fbd1c082ec731a7a46ccd97774c60dd9d5f695c0f24", func := "loop.example/g01231/laws.FnExactShareOfSignal", spec := "fnExactShareOfSignal", apart := false }
def FnExactShareOfSignalSaid : Prop := fnExactShareOfSignalRow.holds Try.pinned (OpenSpec.ofChange fnExactShareOfSignalSpec)

/-- ITS FALSE NEIGHBOUR: 'it returns false'. Refute it at one input. -/
def fnExactShareOfSignalWrong : ChangeSpec := { name := "fnExactShareOfSignal", fn := fun _ => fun
  | [d1, d2] => { results := [.lit (.bool false)], args := [d1, d2] }
  | _ => none }
def FnExactShareOfSignalWrongFalsely : Prop := fnExactShareOfSignalRow.holds Try.pinned (OpenSpec.ofChange fnExactShareOfSignalWrong)

/-- 'laws.FnExactIntegrateTrace': WHATEVER THE INPUT: true; the input reads as it did. -/
def fnExactIntegrateTraceSpec : ChangeSpec := { name := "fnExactIntegrateTrace", fn := fun _ => fun
  | [d] => { results := [.lit (.bool true)], args := [d] }
  | _ => none }
def fnExactIntegrateTraceRow : OpenClaim := { program := "ytgilngdbhkefcaa", sum := "ef57558daf8ae13a55b79fbd1c082ec731a7a46ccd97774c60dd9d5f695c0f24", func := "loop.example/g01231/laws.FnExactIntegrateTrace", spec := "fnExactIntegrateTrace", apart := false }
def FnExactIntegrateTraceSaid : Prop := fnExactIntegrateTraceRow.holds Try.pinned (OpenSpec.ofChange fnExactIntegrateTraceSpec)

/-- ITS FALSE NEIGHBOUR: 'it returns false'. Refute it at one input. -/
def fnExactIntegrateTraceWrong : ChangeSpec := { name := "fnExactIntegrateTrace", fn := fun _ => fun
  | [d] => { results := [.lit (.bool false)], args := [d] }
  | _ => none }
def FnExactIntegrateTraceWrongFalsely : Prop := fnExactIntegrateTraceRow.holds Try.pinned (OpenSpec.ofChange fnExactIntegrateTraceWrong)

/-- 'laws.FnExactKeepTrace': WHATEVER THE INPUT: true; the input reads as it did. -/
def fnExactKeepTraceSpec : ChangeSpec := { name := "fnExactKeepTrace", fn := fun _ => fun
  | [d1, d2] => { results := [.lit (.bool true)], args := [d1, d2] }
  | _ => none }
def fnExactKeepTraceRow : OpenClaim := { program := "ytgilngdbhkefcaa", sum := "ef57558daf8ae13a55b79fbd1c082ec731a7a46ccd97774c60dd9d5f695c0f24", func := "loop.example/g01231/laws.FnExactKeepTrace", spec := "fnExactKeepTrace", apart := false }
def FnExactKeepTraceSaid : Prop := fnExactKeepTraceRow.holds Try.pinned (OpenSpec.ofChange fnExactKeepTraceSpec)

/-- ITS FALSE NEIGHBOUR: 'it returns false'. Refute it at one input. -/
def fnExactKeepTraceWrong : ChangeSpec := { name := "fnExactKeepTrace", fn := fun _ => fun
  | [d1, d2] => { results := [.lit (.bool false)], args := [d1, d2] }
  | _ => none }
def FnExactKeepTraceWrongFalsely : Prop := fnExactKeepTraceRow.holds Try.pinned (OpenSpec.ofChange fnExactKeepTraceWrong)

/-- 'laws.FnExactErrorFilter': WHATEVER THE INPUT: true; the input reads as it did. -/
def fnExactErrorFilterSpec : ChangeSpec := { name := "fnExactErrorFilter", fn := fun _ => fun
  | [d1, d2] => { results := [.lit (.bool true)], args := [d1, d2] }
  | _ => none }
def fnExactErrorFilterRow : OpenClaim := { program := "ytgilngdbhkefcaa", sum := "ef57558daf8ae13a55b79fbd1c082ec731a7a46ccd97774c60dd9d5f695c0f24", func := "loop.example/g01231/laws.FnExactErrorFilter", spec := "fnExactErrorFilter", apart := false }
def FnExactErrorFilterSaid : Prop := fnExactErrorFilterRow.holds Try.pinned (OpenSpec.ofChange fnExactErrorFilterSpec)

/-- ITS FALSE NEIGHBOUR: 'it returns false'. Refute it at one input. -/
def fnExactErrorFilterWrong : ChangeSpec := { name := "fnExactErrorFilter", fn := fun _ => fun
  | [d1, d2] => { results := [.lit (.bool false)], args := [d1, d2] }
  | _ => none }
def FnExactErrorFilterWrongFalsely : Prop := fnExactErrorFilterRow.holds Try.pinned (OpenSpec.ofChange fnExactErrorFilterWrong)

/-- 'laws.FnExactMuteTrace': WHATEVER THE INPUT: true; the input reads as it did. -/
def fnExactMuteTraceSpec : ChangeSpec := { name := "fnExactMuteTrace", fn := fun _ => fun
  | [d1, d2, d3] => { results := [.lit (.bool true)], args := [d1, d2, d3] }
  | _ => none }
def fnExactMuteTraceRow : OpenClaim := { program := "ytgilngdbhkefcaa", sum := "ef57558daf8ae13a55b79fbd1c082ec731a7a46ccd97774c60dd9d5f695c0f24", func := "loop.example/g01231/laws.FnExactMuteTrace", spec := "fnExactMuteTrace", apart := false }
def FnExactMuteTraceSaid : Prop := fnExactMuteTraceRow.holds Try.pinned (OpenSpec.ofChange fnExactMuteTraceSpec)

/-- ITS FALSE NEIGHBOUR: 'it returns false'. Refute it at one input. -/
def fnExactMuteTraceWrong : ChangeSpec := { name := "fnExactMuteTrace", fn := fun _ => fun
  | [d1, d2, d3] => { results := [.lit (.bool false)], args := [d1, d2, d3] }
  | _ => none }
def FnExactMuteTraceWrongFalsely : Prop := fnExactMuteTraceRow.holds Try.pinned (OpenSpec.ofChange fnExactMuteTraceWrong)

/-- 'laws.FnExactDifferTrace': WHATEVER THE INPUT: true; the input reads as it did. -/
def fnExactDifferTraceSpec : ChangeSpec := { name := "fnExactDifferTrace", fn := fun _ => fun
  | [d] => { results := [.lit (.bool true)], args := [d] }
  | _ => none }
def fnExactDifferTraceRow : OpenClaim := { program := "ytgilngdbhkefcaa", sum := "ef57558daf8ae13a55b79fbd1c082ec731a7a46ccd97774c60dd9d5f695c0f24", func := "loop.example/g01231/laws.FnExactDifferTrace", spec := "fnExactDifferTrace", apart := false }
def FnExactDifferTraceSaid : Prop := fnExactDifferTraceRow.holds Try.pinned (OpenSpec.ofChange fnExactDifferTraceSpec)

/-- ITS FALSE NEIGHBOUR: 'it returns false'. Refute it at one input. -/
def fnExactDifferTraceWrong : ChangeSpec := { name := "fnExactDifferTrace", fn := fun _ => fun
  | [d] => { results := [.lit (.bool false)], args := [d] }
  | _ => none }
def FnExactDifferTraceWrongFalsely : Prop := fnExactDifferTraceRow.holds Try.pinned (OpenSpec.ofChange fnExactDifferTraceWrong)

/- THE SECOND FORM. 'bulk': how many values and letters a reading holds, each counted each time it is reached (what is shared counts as often as it is met; a slice's spare places count too). A statement '..UptoSaid' is the law's where the arguments, and the package variables that the reading takes, are together of bulk at most 1048576: NARROWER than '..Said'. Prove '..Said' where nothing that the law and all that it calls make is longer than what came in: it says more and counts as full. Else prove '..UptoSaid'. A law counts once. -/
mutual
def uptoBulk {H : Type} : DataW H → Nat
  | .lit (.string bytes) => bytes.length + 1
  | .lit _ => 1
  | .nil => 1
  | .ptr d => uptoBulk d + 1
  | .slice elems spare => uptoBulkAll elems + uptoBulkAll spare + 1
  | .agg parts => uptoBulkAll parts + 1
  | .iface _ d => uptoBulk d + 1
  | .map entries => uptoBulkEntries entries + 1
  | .held _ => 1
def uptoBulkAll {H : Type} : List (DataW H) → Nat
  | [] => 0
  | d :: r => uptoBulk d + uptoBulkAll r
def uptoBulkEntries {H : Type} : List (Lit × DataW H) → Nat
  | [] => 0
  | x :: r => uptoBulkEntry x + uptoBulkEntries r
def uptoBulkEntry {H : Type} : Lit × DataW H → Nat
  | (.string bytes, d) => bytes.length + uptoBulk d + 1
  | (_, d) => uptoBulk d + 1
 end
def uptoSmall : (H : Type) → List (DataW H) → Bool := fun _ ds => decide (uptoBulkAll ds ≤ 1048576)
def OpenSpec.upto (s : _root_.Go.ChangeSpec) : _root_.Go.OpenSpec := { _root_.Go.OpenSpec.ofChange s with cond := some uptoSmall }

/-- 'laws.FnExactIsTrace', WHERE WHAT IT READS IS OF BULK AT MOST 1048576: true; the input reads as it did. -/
def fnExactIsTraceUptoRow : OpenClaim := { program := "ytgilngdbhkefcaa", sum := "ef57558daf8ae13a55b79fbd1c082ec731a7a46ccd97774c60dd9d5f695c0f24", func := "loop.example/g01231/laws.FnExactIsTrace", spec := "fnExactIsTrace", apart := false, narrowed := true }
def FnExactIsTraceUptoSaid : Prop := fnExactIsTraceUptoRow.holds Try.pinned (OpenSpec.upto fnExactIsTraceSpec)

/-- 'laws.FnExactPulseTrace', WHERE WHAT IT READS IS OF BULK AT MOST 1048576: true; the input reads as it did. -/
def fnExactPulseTraceUptoRow : OpenClaim := { program := "ytgilngdbhkefcaa", sum := "ef57558daf8ae13a55b79fbd1c082ec731a7a46ccd97774c60dd9d5f695c0f24", func := "loop.example/g01231/laws.FnExactPulseTrace", spec := "fnExactPulseTrace", apart := false, narrowed := true }
def FnExactPulseTraceUptoSaid : Prop := fnExactPulseTraceUptoRow.holds Try.pinned (OpenSpec.upto fnExactPulseTraceSpec)

/-- 'laws.FnExactEnergyOfTrace', WHERE WHAT IT READS IS OF BULK AT MOST 1048576: true; the input reads as it did. -/
def fnExactEnergyOfTraceUptoRow : OpenClaim := { program := "ytgilngdbhkefcaa", sum := "ef57558daf8ae13a55b79fbd1c082ec731a7a46ccd97774c60dd9d5f695c0f24", func := "loop.example/g01231/laws.FnExactEnergyOfTrace", spec := "fnExactEnergyOfTrace", apart := false, narrowed := true }
def FnExactEnergyOfTraceUptoSaid : Prop := fnExactEnergyOfTraceUptoRow.holds Try.pinned (OpenSpec.upto fnExactEnergyOfTraceSpec)

/-- 'laws.FnExactAreCoefficients', WHERE WHAT IT READS IS OF BULK AT MOST 1048576: true; the input reads as it did. -/
def fnExactAreCoefficientsUptoRow : OpenClaim := { program := "ytgilngdbhkefcaa", sum := "ef57558daf8ae13a55b79fbd1c082ec731a7a46ccd97774c60dd9d5f695c0f24", func := "loop.example/g01231/laws.FnExactAreCoefficients", spec := "fnExactAreCoefficients", inPlace := ["math.Float64bits", "math.Float64frombits"], unfollowed := true, recurses := true, apart := false, narrowed := true }
def FnExactAreCoefficientsUptoSaid : Prop := fnExactAreCoefficientsUptoRow.holds Try.pinned (OpenSpec.upto fnExactAreCoefficientsSpec)

/-- 'laws.FnExactNoiseTrace', WHERE WHAT IT READS IS OF BULK AT MOST 1048576: true; the input reads as it did. -/
def fnExactNoiseTraceUptoRow : OpenClaim := { program := "ytgilngdbhkefcaa", sum := "ef57558daf8ae13a55b79fbd1c082ec731a7a46ccd97774c60dd9d5f695c0f24", func := "loop.example/g01231/laws.FnExactNoiseTrace", spec := "fnExactNoiseTrace", apart := false, narrowed := true }
def FnExactNoiseTraceUptoSaid : Prop := fnExactNoiseTraceUptoRow.holds Try.pinned (OpenSpec.upto fnExactNoiseTraceSpec)

/-- 'laws.FnExactWaveletOf', WHERE WHAT IT READS IS OF BULK AT MOST 1048576: true; the input reads as it did. -/
def fnExactWaveletOfUptoRow : OpenClaim := { program := "ytgilngdbhkefcaa", sum := "ef57558daf8ae13a55b79fbd1c082ec731a7a46ccd97774c60dd9d5f695c0f24", func := "loop.example/g01231/laws.FnExactWaveletOf", spec := "fnExactWaveletOf", apart := false, narrowed := true }
def FnExactWaveletOfUptoSaid : Prop := fnExactWaveletOfUptoRow.holds Try.pinned (OpenSpec.upto fnExactWaveletOfSpec)

/-- 'laws.FnExactShareOfSignal', WHERE WHAT IT READS IS OF BULK AT MOST 1048576: true; the input reads as it did. -/
def fnExactShareOfSignalUptoRow : OpenClaim := { program := "ytgilngdbhkefcaa", sum := "ef57558daf8ae13a55b79fbd1c082ec731a7a46ccd97774c60dd9d5f695c0f24", func := "loop.example/g01231/laws.FnExactShareOfSignal", spec := "fnExactShareOfSignal", apart := false, narrowed := true }
def FnExactShareOfSignalUptoSaid : Prop := fnExactShareOfSignalUptoRow.holds Try.pinned (OpenSpec.upto fnExactShareOfSignalSpec)

/-- 'laws.FnExactIntegrateTrace', WHERE WHAT IT READS IS OF BULK AT MOST 1048576: true; the input reads as it did. -/
def fnExactIntegrateTraceUptoRow : OpenClaim := { program := "ytgilngdbhkefcaa", sum := "ef57558daf8ae13a55b79fbd1c082ec731a7a46ccd97774c60dd9d5f695c0f24", func := "loop.example/g01231/laws.FnExactIntegrateTrace", spec := "fnExactIntegrateTrace", apart := false, narrowed := true }
def FnExactIntegrateTraceUptoSaid : Prop := fnExactIntegrateTraceUptoRow.holds Try.pinned (OpenSpec.upto fnExactIntegrateTraceSpec)

/-- 'laws.FnExactKeepTrace', WHERE WHAT IT READS IS OF BULK AT MOST 1048576: true; the input reads as it did. -/
def fnExactKeepTraceUptoRow : OpenClaim := { program := "ytgilngdbhkefcaa", sum := "ef57558daf8ae13a55b79fbd1c082ec731a7a46ccd97774c60dd9d5f695c0f24", func := "loop.example/g01231/laws.FnExactKeepTrace", spec := "fnExactKeepTrace", apart := false, narrowed := true }
def FnExactKeepTraceUptoSaid : Prop := fnExactKeepTraceUptoRow.holds Try.pinned (OpenSpec.upto fnExactKeepTraceSpec)

/-- 'laws.FnExactErrorFilter', WHERE WHAT IT READS IS OF BULK AT MOST 1048576: true; the input reads as it did. -/
def fnExactErrorFilterUptoRow : OpenClaim := { program := "ytgilngdbhkefcaa", sum := "ef57558daf8ae13a55b79fbd1c082ec731a7a46ccd97774c60dd9d5f695c0f24", func := "loop.example/g01231/laws.FnExactErrorFilter", spec := "fnExactErrorFilter", apart := false, narrowed := true }
def FnExactErrorFilterUptoSaid : Prop := fnExactErrorFilterUptoRow.holds Try.pinned (OpenSpec.upto fnExactErrorFilterSpec)

/-- 'laws.FnExactMuteTrace', WHERE WHAT IT READS IS OF BULK AT MOST 1048576: true; the input reads as it did. -/
def fnExactMuteTraceUptoRow : OpenClaim := { program := "ytgilngdbhkefcaa", sum := "ef57558daf8ae13a55b79fbd1c082ec731a7a46ccd97774c60dd9d5f695c0f24", func := "loop.example/g01231/laws.FnExactMuteTrace", spec := "fnExactMuteTrace", apart := false, narrowed := true }
def FnExactMuteTraceUptoSaid : Prop := fnExactMuteTraceUptoRow.holds Try.pinned (OpenSpec.upto fnExactMuteTraceSpec)

/-- 'laws.FnExactDifferTrace', WHERE WHAT IT READS IS OF BULK AT MOST 1048576: true; the input reads as it did. -/
def fnExactDifferTraceUptoRow : OpenClaim := { program := "ytgilngdbhkefcaa", sum := "ef57558daf8ae13a55b79fbd1c082ec731a7a46ccd97774c60dd9d5f695c0f24", func := "loop.example/g01231/laws.FnExactDifferTrace", spec := "fnExactDifferTrace", apart := false, narrowed := true }
def FnExactDifferTraceUptoSaid : Prop := fnExactDifferTraceUptoRow.holds Try.pinned (OpenSpec.upto fnExactDifferTraceSpec)

end Rows
end Go.Proofs.Ytgilngdbhkefcaa
