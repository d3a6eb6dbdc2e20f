/-
  NARROWER THAN 'FOR EVERY INPUT', by the rows' own cells (each row's printed sentence says how): PhaseMatchesReference: laid · PhaseRuns: laid · PhaseTells: laid · PhaseOnce: laid · PhaseReaches: laid · OpPlain: laid · OpLimits: laid · OpKeeps: laid · OpMakes: laid · PodOnce: laid · PodKeeps: laid · PodMatchesReference: laid · PodPhases: laid · PodArrivals: laid · FaultFinds: laid · FaultNames: laid · FaultNests: laid · FaultOthers: laid · FaultWraps: laid · OpChecks: laid.
  DERIVED. THE GIVEN ROWS OF THIS SEAT. 20 by the template 'for every input the law returns true; each argument reads behind the call as it read before'; 0 by the template 'total and deterministic' (their statements: YtcegipkhmibdeaaDoorTotals.lean).
  GIVEN WITH THE SEED: the statements are not yours to turn. If you find one false, say at which input.
  Laid BY PROGRAM, IN A SANDBOX (cutbox-rows.mjs): the forced cells as the released guide's own fill.sh prints them over the translation c70b07b9ad11c368… (all of the seat's roots in one cut). By AI agents, Wed Nov 11 2026. No macro, syntax, notation, axiom, sorry.
-/
import Derived.Test.YtcegipkhmibdeaaDoorChecked
import GoSem.Claim
import GoSem.ClaimJoined
import GoSem.ClaimMapViews
import Derived.JoinedTies
import Derived.KernelRfl
namespace Go.Proofs.YtcegipkhmibdeaaDoor
/- THE CELL 'sum', in the pinned program and in every row, IS THE sha256 OF THE DUMP (.gsa) THAT YtcegipkhmibdeaaDoorProg.lean LOADS. Nothing in Lean hashes anything: it is a label: what it is worth is what the hold of that sum in a sandbox is worth. -/
noncomputable def Tryd.pinned : Pinned := { name := "ytcegipkhmibdeaadoor", sum := "c70b07b9ad11c3689f88fef8d8fe2e74741b57c3345a8ac024252510f8ef8a5e", checked := Tryd.checked }
namespace Rows
def none {H : Type} : Left H := { results := [], args := [] }

/- WHAT THE LISTED PACKAGE-LEVEL VARIABLES READ AS WHEN THE CALL BEGINS. Each datum BY PROGRAM (the guide's laid-datum.mjs) off the statement by which the dump's own 'gosem.cut.vars' lays the variable. In a bare row this is a premise. The card (YtcegipkhmibdeaaDoorCards.lean) ties it to the program's text. -/
def laid_hammock_phase_names {H : Type} : DataW H := .agg [.lit (.string []), .lit (.string [112, 101, 110, 100, 105, 110, 103]), .lit (.string [110, 111, 109, 105, 110, 97, 116, 101, 100]), .lit (.string [98, 111, 117, 110, 100]), .lit (.string [116, 101, 114, 109, 105, 110, 97, 116, 105, 110, 103]), .lit (.string [103, 111, 110, 101])]
def laid_errors_errorType {H : Type} : DataW H := .iface "internal/reflectlite.rtype" (.agg [.ptr (.lit (.string [101, 114, 114, 111, 114]))])
def laid_hammock_fault_names {H : Type} : DataW H := .agg [.lit (.string []), .lit (.string [107, 105, 110, 100]), .lit (.string [105, 100]), .lit (.string [97, 109, 111, 117, 110, 116]), .lit (.string [110, 117, 109, 98, 101, 114]), .lit (.string [117, 110, 107, 110, 111, 119, 110]), .lit (.string [100, 117, 112, 108, 105, 99, 97, 116, 101]), .lit (.string [102, 117, 108, 108]), .lit (.string [112, 104, 97, 115, 101]), .lit (.string [115, 121, 110, 116, 97, 120]), .lit (.string [111, 118, 101, 114, 102, 108, 111, 119])]
def laid_hammock_fault_kinds {H : Type} : DataW H := .agg [.lit (.string []), .lit (.string [99, 108, 97, 115, 115]), .lit (.string [110, 111, 100, 101]), .lit (.string [100, 114, 111, 112]), .lit (.string [112, 111, 100]), .lit (.string [100, 101, 108, 101, 116, 101]), .lit (.string [116, 105, 99, 107]), .lit (.string [99, 121, 99, 108, 101])]

/-- 'hammocklaw05.PhaseMatchesReference': WHATEVER THE INPUT: true; the input reads as it did. -/
def phaseMatchesReferenceSpec : ChangeSpec := { name := "phaseMatchesReference", fn := fun _ => fun
  | [d1, d2] => { results := [.lit (.bool true)], args := [d1, d2] }
  | _ => none }
def phaseMatchesReferenceRow : OpenClaim := { program := "ytcegipkhmibdeaadoor", sum := "c70b07b9ad11c3689f88fef8d8fe2e74741b57c3345a8ac024252510f8ef8a5e", func := "hammock/hammocklaw05.PhaseMatchesReference", spec := "phaseMatchesReference", named := ["hammock/phase.names"], plainKeys := false, apart := false, laid := [("hammock/phase.names", laid_hammock_phase_names)] }
def PhaseMatchesReferenceSaid : Prop := phaseMatchesReferenceRow.holds Tryd.pinned (OpenSpec.ofChange phaseMatchesReferenceSpec)

/-- ITS FALSE NEIGHBOUR: 'it returns false'. Refute it at one input. -/
def phaseMatchesReferenceWrong : ChangeSpec := { name := "phaseMatchesReference", fn := fun _ => fun
  | [d1, d2] => { results := [.lit (.bool false)], args := [d1, d2] }
  | _ => none }
def PhaseMatchesReferenceWrongFalsely : Prop := phaseMatchesReferenceRow.holds Tryd.pinned (OpenSpec.ofChange phaseMatchesReferenceWrong)

/-- 'hammocklaw05.PhaseRuns': WHATEVER THE INPUT: true; the input reads as it did. -/
def phaseRunsSpec : ChangeSpec := { name := "phaseRuns", fn := fun _ => fun
  | [d1, d2] => { results := [.lit (.bool true)], args := [d1, d2] }
  | _ => none }
def phaseRunsRow : OpenClaim := { program := "ytcegipkhmibdeaadoor", sum := "c70b07b9ad11c3689f88fef8d8fe2e74741b57c3345a8ac024252510f8ef8a5e", func := "hammock/hammocklaw05.PhaseRuns", spec := "phaseRuns", named := ["hammock/phase.names"], plainKeys := false, apart := false, laid := [("hammock/phase.names", laid_hammock_phase_names)] }
def PhaseRunsSaid : Prop := phaseRunsRow.holds Tryd.pinned (OpenSpec.ofChange phaseRunsSpec)

/-- ITS FALSE NEIGHBOUR: 'it returns false'. Refute it at one input. -/
def phaseRunsWrong : ChangeSpec := { name := "phaseRuns", fn := fun _ => fun
  | [d1, d2] => { results := [.lit (.bool false)], args := [d1, d2] }
  | _ => none }
def PhaseRunsWrongFalsely : Prop := phaseRunsRow.holds Tryd.pinned (OpenSpec.ofChange phaseRunsWrong)

/-- 'hammocklaw05.PhaseTells': WHATEVER THE INPUT: true; the input reads as it did. -/
def phaseTellsSpec : ChangeSpec := { name := "phaseTells", fn := fun _ => fun
  | [d1, d2] => { results := [.lit (.bool true)], args := [d1, d2] }
  | _ => none }
def phaseTellsRow : OpenClaim := { program := "ytcegipkhmibdeaadoor", sum := "c70b07b9ad11c3689f88fef8d8fe2e74741b57c3345a8ac024252510f8ef8a5e", func := "hammock/hammocklaw05.PhaseTells", spec := "phaseTells", named := ["hammock/phase.names"], plainKeys := false, apart := false, laid := [("hammock/phase.names", laid_hammock_phase_names)] }
def PhaseTellsSaid : Prop := phaseTellsRow.holds Tryd.pinned (OpenSpec.ofChange phaseTellsSpec)

/-- ITS FALSE NEIGHBOUR: 'it returns false'. Refute it at one input. -/
def phaseTellsWrong : ChangeSpec := { name := "phaseTells", fn := fun _ => fun
  | [d1, d2] => { results := [.lit (.bool false)], args := [d1, d2] }
  | _ => none }
def PhaseTellsWrongFalsely : Prop := phaseTellsRow.holds Tryd.pinned (OpenSpec.ofChange phaseTellsWrong)

/-- 'hammocklaw05.PhaseOnce': WHATEVER THE INPUT: true; the input reads as it did. -/
def phaseOnceSpec : ChangeSpec := { name := "phaseOnce", fn := fun _ => fun
  | [d] => { results := [.lit (.bool true)], args := [d] }
  | _ => none }
def phaseOnceRow : OpenClaim := { program := "ytcegipkhmibdeaadoor", sum := "c70b07b9ad11c3689f88fef8d8fe2e74741b57c3345a8ac024252510f8ef8a5e", func := "hammock/hammocklaw05.PhaseOnce", spec := "phaseOnce", named := ["hammock/phase.names"], plainKeys := false, apart := false, laid := [("hammock/phase.names", laid_hammock_phase_names)] }
def PhaseOnceSaid : Prop := phaseOnceRow.holds Tryd.pinned (OpenSpec.ofChange phaseOnceSpec)

/-- ITS FALSE NEIGHBOUR: 'it returns false'. Refute it at one input. -/
def phaseOnceWrong : ChangeSpec := { name := "phaseOnce", fn := fun _ => fun
  | [d] => { results := [.lit (.bool false)], args := [d] }
  | _ => none }
def PhaseOnceWrongFalsely : Prop := phaseOnceRow.holds Tryd.pinned (OpenSpec.ofChange phaseOnceWrong)

/-- 'hammocklaw05.PhaseReaches': WHATEVER THE INPUT: true; the input reads as it did. -/
def phaseReachesSpec : ChangeSpec := { name := "phaseReaches", fn := fun _ => fun
  | [d] => { results := [.lit (.bool true)], args := [d] }
  | _ => none }
def phaseReachesRow : OpenClaim := { program := "ytcegipkhmibdeaadoor", sum := "c70b07b9ad11c3689f88fef8d8fe2e74741b57c3345a8ac024252510f8ef8a5e", func := "hammock/hammocklaw05.PhaseReaches", spec := "phaseReaches", named := ["hammock/phase.names"], plainKeys := false, apart := false, laid := [("hammock/phase.names", laid_hammock_phase_names)] }
def PhaseReachesSaid : Prop := phaseReachesRow.holds Tryd.pinned (OpenSpec.ofChange phaseReachesSpec)

/-- ITS FALSE NEIGHBOUR: 'it returns false'. Refute it at one input. -/
def phaseReachesWrong : ChangeSpec := { name := "phaseReaches", fn := fun _ => fun
  | [d] => { results := [.lit (.bool false)], args := [d] }
  | _ => none }
def PhaseReachesWrongFalsely : Prop := phaseReachesRow.holds Tryd.pinned (OpenSpec.ofChange phaseReachesWrong)

/-- 'hammocklaw03.OpPlain': WHATEVER THE INPUT: true; the input reads as it did. -/
def opPlainSpec : ChangeSpec := { name := "opPlain", fn := fun _ => fun
  | [d1, d2, d3] => { results := [.lit (.bool true)], args := [d1, d2, d3] }
  | _ => none }
def opPlainRow : OpenClaim := { program := "ytcegipkhmibdeaadoor", sum := "c70b07b9ad11c3689f88fef8d8fe2e74741b57c3345a8ac024252510f8ef8a5e", func := "hammock/hammocklaw03.OpPlain", spec := "opPlain", inPlace := ["internal/reflectlite.ValueOf", "(internal/reflectlite.Value).Type", "(internal/reflectlite.Value).IsNil", "internal/reflectlite.TypeOf", "(internal/reflectlite.Value).Elem", "(internal/reflectlite.Value).Set"], unfollowed := true, recurses := true, named := ["errors.errorType"], plainKeys := false, apart := false, laid := [("errors.errorType", laid_errors_errorType)] }
def OpPlainSaid : Prop := opPlainRow.holds Tryd.pinned (OpenSpec.ofChange opPlainSpec)

/-- ITS FALSE NEIGHBOUR: 'it returns false'. Refute it at one input. -/
def opPlainWrong : ChangeSpec := { name := "opPlain", fn := fun _ => fun
  | [d1, d2, d3] => { results := [.lit (.bool false)], args := [d1, d2, d3] }
  | _ => none }
def OpPlainWrongFalsely : Prop := opPlainRow.holds Tryd.pinned (OpenSpec.ofChange opPlainWrong)

/-- 'hammocklaw03.OpLimits': WHATEVER THE INPUT: true; the input reads as it did. -/
def opLimitsSpec : ChangeSpec := { name := "opLimits", fn := fun _ => fun
  | [d1, d2] => { results := [.lit (.bool true)], args := [d1, d2] }
  | _ => none }
def opLimitsRow : OpenClaim := { program := "ytcegipkhmibdeaadoor", sum := "c70b07b9ad11c3689f88fef8d8fe2e74741b57c3345a8ac024252510f8ef8a5e", func := "hammock/hammocklaw03.OpLimits", spec := "opLimits", inPlace := ["internal/reflectlite.ValueOf", "(internal/reflectlite.Value).Type", "(internal/reflectlite.Value).IsNil", "internal/reflectlite.TypeOf", "(internal/reflectlite.Value).Elem", "(internal/reflectlite.Value).Set"], unfollowed := true, recurses := true, named := ["errors.errorType"], plainKeys := false, apart := false, laid := [("errors.errorType", laid_errors_errorType)] }
def OpLimitsSaid : Prop := opLimitsRow.holds Tryd.pinned (OpenSpec.ofChange opLimitsSpec)

/-- ITS FALSE NEIGHBOUR: 'it returns false'. Refute it at one input. -/
def opLimitsWrong : ChangeSpec := { name := "opLimits", fn := fun _ => fun
  | [d1, d2] => { results := [.lit (.bool false)], args := [d1, d2] }
  | _ => none }
def OpLimitsWrongFalsely : Prop := opLimitsRow.holds Tryd.pinned (OpenSpec.ofChange opLimitsWrong)

/-- 'hammocklaw03.OpKeeps': WHATEVER THE INPUT: true; the input reads as it did. -/
def opKeepsSpec : ChangeSpec := { name := "opKeeps", fn := fun _ => fun
  | [d1, d2] => { results := [.lit (.bool true)], args := [d1, d2] }
  | _ => none }
def opKeepsRow : OpenClaim := { program := "ytcegipkhmibdeaadoor", sum := "c70b07b9ad11c3689f88fef8d8fe2e74741b57c3345a8ac024252510f8ef8a5e", func := "hammock/hammocklaw03.OpKeeps", spec := "opKeeps", inPlace := ["internal/reflectlite.ValueOf", "(internal/reflectlite.Value).Type", "(internal/reflectlite.Value).IsNil", "internal/reflectlite.TypeOf", "(internal/reflectlite.Value).Elem", "(internal/reflectlite.Value).Set"], unfollowed := true, recurses := true, named := ["errors.errorType"], plainKeys := false, apart := false, laid := [("errors.errorType", laid_errors_errorType)] }
def OpKeepsSaid : Prop := opKeepsRow.holds Tryd.pinned (OpenSpec.ofChange opKeepsSpec)

/-- ITS FALSE NEIGHBOUR: 'it returns false'. Refute it at one input. -/
def opKeepsWrong : ChangeSpec := { name := "opKeeps", fn := fun _ => fun
  | [d1, d2] => { results := [.lit (.bool false)], args := [d1, d2] }
  | _ => none }
def OpKeepsWrongFalsely : Prop := opKeepsRow.holds Tryd.pinned (OpenSpec.ofChange opKeepsWrong)

/-- 'hammocklaw03.OpMakes': WHATEVER THE INPUT: true; the input reads as it did. -/
def opMakesSpec : ChangeSpec := { name := "opMakes", fn := fun _ => fun
  | [d1, d2, d3, d4, d5] => { results := [.lit (.bool true)], args := [d1, d2, d3, d4, d5] }
  | _ => none }
def opMakesRow : OpenClaim := { program := "ytcegipkhmibdeaadoor", sum := "c70b07b9ad11c3689f88fef8d8fe2e74741b57c3345a8ac024252510f8ef8a5e", func := "hammock/hammocklaw03.OpMakes", spec := "opMakes", inPlace := ["internal/reflectlite.ValueOf", "(internal/reflectlite.Value).Type", "(internal/reflectlite.Value).IsNil", "internal/reflectlite.TypeOf", "(internal/reflectlite.Value).Elem", "(internal/reflectlite.Value).Set"], unfollowed := true, recurses := true, named := ["errors.errorType"], plainKeys := false, apart := false, laid := [("errors.errorType", laid_errors_errorType)] }
def OpMakesSaid : Prop := opMakesRow.holds Tryd.pinned (OpenSpec.ofChange opMakesSpec)

/-- ITS FALSE NEIGHBOUR: 'it returns false'. Refute it at one input. -/
def opMakesWrong : ChangeSpec := { name := "opMakes", fn := fun _ => fun
  | [d1, d2, d3, d4, d5] => { results := [.lit (.bool false)], args := [d1, d2, d3, d4, d5] }
  | _ => none }
def OpMakesWrongFalsely : Prop := opMakesRow.holds Tryd.pinned (OpenSpec.ofChange opMakesWrong)

/-- 'hammocklaw13.PodOnce': WHATEVER THE INPUT: true; the input reads as it did. -/
def podOnceSpec : ChangeSpec := { name := "podOnce", fn := fun _ => fun
  | [d] => { results := [.lit (.bool true)], args := [d] }
  | _ => none }
def podOnceRow : OpenClaim := { program := "ytcegipkhmibdeaadoor", sum := "c70b07b9ad11c3689f88fef8d8fe2e74741b57c3345a8ac024252510f8ef8a5e", func := "hammock/hammocklaw13.PodOnce", spec := "podOnce", inPlace := ["internal/reflectlite.ValueOf", "(internal/reflectlite.Value).Type", "(internal/reflectlite.Value).IsNil", "internal/reflectlite.TypeOf", "(internal/reflectlite.Value).Elem", "(internal/reflectlite.Value).Set"], unfollowed := true, recurses := true, named := ["errors.errorType"], plainKeys := false, apart := false, laid := [("errors.errorType", laid_errors_errorType)] }
def PodOnceSaid : Prop := podOnceRow.holds Tryd.pinned (OpenSpec.ofChange podOnceSpec)

/-- ITS FALSE NEIGHBOUR: 'it returns false'. Refute it at one input. -/
def podOnceWrong : ChangeSpec := { name := "podOnce", fn := fun _ => fun
  | [d] => { results := [.lit (.bool false)], args := [d] }
  | _ => none }
def PodOnceWrongFalsely : Prop := podOnceRow.holds Tryd.pinned (OpenSpec.ofChange podOnceWrong)

/-- 'hammocklaw13.PodKeeps': WHATEVER THE INPUT: true; the input reads as it did. -/
def podKeepsSpec : ChangeSpec := { name := "podKeeps", fn := fun _ => fun
  | [d] => { results := [.lit (.bool true)], args := [d] }
  | _ => none }
def podKeepsRow : OpenClaim := { program := "ytcegipkhmibdeaadoor", sum := "c70b07b9ad11c3689f88fef8d8fe2e74741b57c3345a8ac024252510f8ef8a5e", func := "hammock/hammocklaw13.PodKeeps", spec := "podKeeps", inPlace := ["internal/reflectlite.ValueOf", "(internal/reflectlite.Value).Type", "(internal/reflectlite.Value).IsNil", "internal/reflectlite.TypeOf", "(internal/reflectlite.Value).Elem", "(internal/reflectlite.Value).Set"], unfollowed := true, recurses := true, named := ["errors.errorType"], plainKeys := false, apart := false, laid := [("errors.errorType", laid_errors_errorType)] }
def PodKeepsSaid : Prop := podKeepsRow.holds Tryd.pinned (OpenSpec.ofChange podKeepsSpec)

/-- ITS FALSE NEIGHBOUR: 'it returns false'. Refute it at one input. -/
def podKeepsWrong : ChangeSpec := { name := "podKeeps", fn := fun _ => fun
  | [d] => { results := [.lit (.bool false)], args := [d] }
  | _ => none }
def PodKeepsWrongFalsely : Prop := podKeepsRow.holds Tryd.pinned (OpenSpec.ofChange podKeepsWrong)

/-- 'hammocklaw13.PodMatchesReference': WHATEVER THE INPUT: true; the input reads as it did. -/
def podMatchesReferenceSpec : ChangeSpec := { name := "podMatchesReference", fn := fun _ => fun
  | [d1, d2] => { results := [.lit (.bool true)], args := [d1, d2] }
  | _ => none }
def podMatchesReferenceRow : OpenClaim := { program := "ytcegipkhmibdeaadoor", sum := "c70b07b9ad11c3689f88fef8d8fe2e74741b57c3345a8ac024252510f8ef8a5e", func := "hammock/hammocklaw13.PodMatchesReference", spec := "podMatchesReference", inPlace := ["internal/reflectlite.ValueOf", "(internal/reflectlite.Value).Type", "(internal/reflectlite.Value).IsNil", "internal/reflectlite.TypeOf", "(internal/reflectlite.Value).Elem", "(internal/reflectlite.Value).Set"], unfollowed := true, recurses := true, named := ["errors.errorType"], plainKeys := false, apart := false, laid := [("errors.errorType", laid_errors_errorType)] }
def PodMatchesReferenceSaid : Prop := podMatchesReferenceRow.holds Tryd.pinned (OpenSpec.ofChange podMatchesReferenceSpec)

/-- ITS FALSE NEIGHBOUR: 'it returns false'. Refute it at one input. -/
def podMatchesReferenceWrong : ChangeSpec := { name := "podMatchesReference", fn := fun _ => fun
  | [d1, d2] => { results := [.lit (.bool false)], args := [d1, d2] }
  | _ => none }
def PodMatchesReferenceWrongFalsely : Prop := podMatchesReferenceRow.holds Tryd.pinned (OpenSpec.ofChange podMatchesReferenceWrong)

/-- 'hammocklaw13.PodPhases': WHATEVER THE INPUT: true; the input reads as it did. -/
def podPhasesSpec : ChangeSpec := { name := "podPhases", fn := fun _ => fun
  | [d] => { results := [.lit (.bool true)], args := [d] }
  | _ => none }
def podPhasesRow : OpenClaim := { program := "ytcegipkhmibdeaadoor", sum := "c70b07b9ad11c3689f88fef8d8fe2e74741b57c3345a8ac024252510f8ef8a5e", func := "hammock/hammocklaw13.PodPhases", spec := "podPhases", inPlace := ["internal/reflectlite.ValueOf", "(internal/reflectlite.Value).Type", "(internal/reflectlite.Value).IsNil", "internal/reflectlite.TypeOf", "(internal/reflectlite.Value).Elem", "(internal/reflectlite.Value).Set"], unfollowed := true, recurses := true, named := ["errors.errorType"], plainKeys := false, apart := false, laid := [("errors.errorType", laid_errors_errorType)] }
def PodPhasesSaid : Prop := podPhasesRow.holds Tryd.pinned (OpenSpec.ofChange podPhasesSpec)

/-- ITS FALSE NEIGHBOUR: 'it returns false'. Refute it at one input. -/
def podPhasesWrong : ChangeSpec := { name := "podPhases", fn := fun _ => fun
  | [d] => { results := [.lit (.bool false)], args := [d] }
  | _ => none }
def PodPhasesWrongFalsely : Prop := podPhasesRow.holds Tryd.pinned (OpenSpec.ofChange podPhasesWrong)

/-- 'hammocklaw13.PodArrivals': WHATEVER THE INPUT: true; the input reads as it did. -/
def podArrivalsSpec : ChangeSpec := { name := "podArrivals", fn := fun _ => fun
  | [d1, d2] => { results := [.lit (.bool true)], args := [d1, d2] }
  | _ => none }
def podArrivalsRow : OpenClaim := { program := "ytcegipkhmibdeaadoor", sum := "c70b07b9ad11c3689f88fef8d8fe2e74741b57c3345a8ac024252510f8ef8a5e", func := "hammock/hammocklaw13.PodArrivals", spec := "podArrivals", inPlace := ["internal/reflectlite.ValueOf", "(internal/reflectlite.Value).Type", "(internal/reflectlite.Value).IsNil", "internal/reflectlite.TypeOf", "(internal/reflectlite.Value).Elem", "(internal/reflectlite.Value).Set"], unfollowed := true, recurses := true, named := ["errors.errorType"], plainKeys := false, apart := false, laid := [("errors.errorType", laid_errors_errorType)] }
def PodArrivalsSaid : Prop := podArrivalsRow.holds Tryd.pinned (OpenSpec.ofChange podArrivalsSpec)

/-- ITS FALSE NEIGHBOUR: 'it returns false'. Refute it at one input. -/
def podArrivalsWrong : ChangeSpec := { name := "podArrivals", fn := fun _ => fun
  | [d1, d2] => { results := [.lit (.bool false)], args := [d1, d2] }
  | _ => none }
def PodArrivalsWrongFalsely : Prop := podArrivalsRow.holds Tryd.pinned (OpenSpec.ofChange podArrivalsWrong)

/-- 'hammocklaw02.FaultFinds': WHATEVER THE INPUT: true; the input reads as it did. -/
def faultFindsSpec : ChangeSpec := { name := "faultFinds", fn := fun _ => fun
  | [d] => { results := [.lit (.bool true)], args := [d] }
  | _ => none }
def faultFindsRow : OpenClaim := { program := "ytcegipkhmibdeaadoor", sum := "c70b07b9ad11c3689f88fef8d8fe2e74741b57c3345a8ac024252510f8ef8a5e", func := "hammock/hammocklaw02.FaultFinds", spec := "faultFinds", inPlace := ["internal/reflectlite.ValueOf", "(internal/reflectlite.Value).Type", "(internal/reflectlite.Value).IsNil", "internal/reflectlite.TypeOf", "(internal/reflectlite.Value).Elem", "(internal/reflectlite.Value).Set"], unfollowed := true, recurses := true, named := ["errors.errorType", "hammock/fault.names", "hammock/fault.kinds"], plainKeys := false, apart := false, laid := [("errors.errorType", laid_errors_errorType), ("hammock/fault.names", laid_hammock_fault_names), ("hammock/fault.kinds", laid_hammock_fault_kinds)] }
def FaultFindsSaid : Prop := faultFindsRow.holds Tryd.pinned (OpenSpec.ofChange faultFindsSpec)

/-- ITS FALSE NEIGHBOUR: 'it returns false'. Refute it at one input. -/
def faultFindsWrong : ChangeSpec := { name := "faultFinds", fn := fun _ => fun
  | [d] => { results := [.lit (.bool false)], args := [d] }
  | _ => none }
def FaultFindsWrongFalsely : Prop := faultFindsRow.holds Tryd.pinned (OpenSpec.ofChange faultFindsWrong)

/-- 'hammocklaw02.FaultNames': WHATEVER THE INPUT: true; the input reads as it did. -/
def faultNamesSpec : ChangeSpec := { name := "faultNames", fn := fun _ => fun
  | [d1, d2] => { results := [.lit (.bool true)], args := [d1, d2] }
  | _ => none }
def faultNamesRow : OpenClaim := { program := "ytcegipkhmibdeaadoor", sum := "c70b07b9ad11c3689f88fef8d8fe2e74741b57c3345a8ac024252510f8ef8a5e", func := "hammock/hammocklaw02.FaultNames", spec := "faultNames", inPlace := ["internal/reflectlite.ValueOf", "(internal/reflectlite.Value).Type", "(internal/reflectlite.Value).IsNil", "internal/reflectlite.TypeOf", "(internal/reflectlite.Value).Elem", "(internal/reflectlite.Value).Set"], unfollowed := true, recurses := true, named := ["errors.errorType", "hammock/fault.names", "hammock/fault.kinds"], plainKeys := false, apart := false, laid := [("errors.errorType", laid_errors_errorType), ("hammock/fault.names", laid_hammock_fault_names), ("hammock/fault.kinds", laid_hammock_fault_kinds)] }
def FaultNamesSaid : Prop := faultNamesRow.holds Tryd.pinned (OpenSpec.ofChange faultNamesSpec)

/-- ITS FALSE NEIGHBOUR: 'it returns false'. Refute it at one input. -/
def faultNamesWrong : ChangeSpec := { name := "faultNames", fn := fun _ => fun
  | [d1, d2] => { results := [.lit (.bool false)], args := [d1, d2] }
  | _ => none }
def FaultNamesWrongFalsely : Prop := faultNamesRow.holds Tryd.pinned (OpenSpec.ofChange faultNamesWrong)

/-- 'hammocklaw02.FaultNests': WHATEVER THE INPUT: true; the input reads as it did. -/
def faultNestsSpec : ChangeSpec := { name := "faultNests", fn := fun _ => fun
  | [d1, d2, d3] => { results := [.lit (.bool true)], args := [d1, d2, d3] }
  | _ => none }
def faultNestsRow : OpenClaim := { program := "ytcegipkhmibdeaadoor", sum := "c70b07b9ad11c3689f88fef8d8fe2e74741b57c3345a8ac024252510f8ef8a5e", func := "hammock/hammocklaw02.FaultNests", spec := "faultNests", inPlace := ["internal/reflectlite.ValueOf", "(internal/reflectlite.Value).Type", "(internal/reflectlite.Value).IsNil", "internal/reflectlite.TypeOf", "(internal/reflectlite.Value).Elem", "(internal/reflectlite.Value).Set"], unfollowed := true, recurses := true, named := ["errors.errorType", "hammock/fault.names", "hammock/fault.kinds"], plainKeys := false, apart := false, laid := [("errors.errorType", laid_errors_errorType), ("hammock/fault.names", laid_hammock_fault_names), ("hammock/fault.kinds", laid_hammock_fault_kinds)] }
def FaultNestsSaid : Prop := faultNestsRow.holds Tryd.pinned (OpenSpec.ofChange faultNestsSpec)

/-- ITS FALSE NEIGHBOUR: 'it returns false'. Refute it at one input. -/
def faultNestsWrong : ChangeSpec := { name := "faultNests", fn := fun _ => fun
  | [d1, d2, d3] => { results := [.lit (.bool false)], args := [d1, d2, d3] }
  | _ => none }
def FaultNestsWrongFalsely : Prop := faultNestsRow.holds Tryd.pinned (OpenSpec.ofChange faultNestsWrong)

/-- 'hammocklaw02.FaultOthers': WHATEVER THE INPUT: true; the input reads as it did. -/
def faultOthersSpec : ChangeSpec := { name := "faultOthers", fn := fun _ => fun
  | [d1, d2] => { results := [.lit (.bool true)], args := [d1, d2] }
  | _ => none }
def faultOthersRow : OpenClaim := { program := "ytcegipkhmibdeaadoor", sum := "c70b07b9ad11c3689f88fef8d8fe2e74741b57c3345a8ac024252510f8ef8a5e", func := "hammock/hammocklaw02.FaultOthers", spec := "faultOthers", inPlace := ["internal/reflectlite.ValueOf", "(internal/reflectlite.Value).Type", "(internal/reflectlite.Value).IsNil", "internal/reflectlite.TypeOf", "(internal/reflectlite.Value).Elem", "(internal/reflectlite.Value).Set"], unfollowed := true, recurses := true, named := ["errors.errorType", "hammock/fault.names", "hammock/fault.kinds"], plainKeys := false, apart := false, laid := [("errors.errorType", laid_errors_errorType), ("hammock/fault.names", laid_hammock_fault_names), ("hammock/fault.kinds", laid_hammock_fault_kinds)] }
def FaultOthersSaid : Prop := faultOthersRow.holds Tryd.pinned (OpenSpec.ofChange faultOthersSpec)

/-- ITS FALSE NEIGHBOUR: 'it returns false'. Refute it at one input. -/
def faultOthersWrong : ChangeSpec := { name := "faultOthers", fn := fun _ => fun
  | [d1, d2] => { results := [.lit (.bool false)], args := [d1, d2] }
  | _ => none }
def FaultOthersWrongFalsely : Prop := faultOthersRow.holds Tryd.pinned (OpenSpec.ofChange faultOthersWrong)

/-- 'hammocklaw02.FaultWraps': WHATEVER THE INPUT: true; the input reads as it did. -/
def faultWrapsSpec : ChangeSpec := { name := "faultWraps", fn := fun _ => fun
  | [d1, d2] => { results := [.lit (.bool true)], args := [d1, d2] }
  | _ => none }
def faultWrapsRow : OpenClaim := { program := "ytcegipkhmibdeaadoor", sum := "c70b07b9ad11c3689f88fef8d8fe2e74741b57c3345a8ac024252510f8ef8a5e", func := "hammock/hammocklaw02.FaultWraps", spec := "faultWraps", inPlace := ["internal/reflectlite.ValueOf", "(internal/reflectlite.Value).Type", "(internal/reflectlite.Value).IsNil", "internal/reflectlite.TypeOf", "(internal/reflectlite.Value).Elem", "(internal/reflectlite.Value).Set"], unfollowed := true, recurses := true, named := ["errors.errorType", "hammock/fault.names", "hammock/fault.kinds"], plainKeys := false, apart := false, laid := [("errors.errorType", laid_errors_errorType), ("hammock/fault.names", laid_hammock_fault_names), ("hammock/fault.kinds", laid_hammock_fault_kinds)] }
def FaultWrapsSaid : Prop := faultWrapsRow.holds Tryd.pinned (OpenSpec.ofChange faultWrapsSpec)

/-- ITS FALSE NEIGHBOUR: 'it returns false'. Refute it at one input. -/
def faultWrapsWrong : ChangeSpec := { name := "faultWraps", fn := fun _ => fun
  | [d1, d2] => { results := [.lit (.bool false)], args := [d1, d2] }
  | _ => none }
def FaultWrapsWrongFalsely : Prop := faultWrapsRow.holds Tryd.pinned (OpenSpec.ofChange faultWrapsWrong)

/-- 'hammocklaw03.OpChecks': WHATEVER THE INPUT: true; the input reads as it did. -/
def opChecksSpec : ChangeSpec := { name := "opChecks", fn := fun _ => fun
  | [d1, d2] => { results := [.lit (.bool true)], args := [d1, d2] }
  | _ => none }
def opChecksRow : OpenClaim := { program := "ytcegipkhmibdeaadoor", sum := "c70b07b9ad11c3689f88fef8d8fe2e74741b57c3345a8ac024252510f8ef8a5e", func := "hammock/hammocklaw03.OpChecks", spec := "opChecks", inPlace := ["internal/reflectlite.ValueOf", "(internal/reflectlite.Value).Type", "(internal/reflectlite.Value).IsNil", "internal/reflectlite.TypeOf", "(internal/reflectlite.Value).Elem", "(internal/reflectlite.Value).Set"], unfollowed := true, recurses := true, named := ["errors.errorType"], plainKeys := false, apart := false, laid := [("errors.errorType", laid_errors_errorType)] }
def OpChecksSaid : Prop := opChecksRow.holds Tryd.pinned (OpenSpec.ofChange opChecksSpec)

/-- ITS FALSE NEIGHBOUR: 'it returns false'. Refute it at one input. -/
def opChecksWrong : ChangeSpec := { name := "opChecks", fn := fun _ => fun
  | [d1, d2] => { results := [.lit (.bool false)], args := [d1, d2] }
  | _ => none }
def OpChecksWrongFalsely : Prop := opChecksRow.holds Tryd.pinned (OpenSpec.ofChange opChecksWrong)

/- THE SECOND FORM. 'bulk': how many values and letters a reading holds, each counted each time it is reached (what is shared counts as often as it is met; a slice's spare places count too). A statement '..UptoSaid' is the law's where the arguments, and the package variables that the reading takes, are together of bulk at most 1048576: NARROWER than '..Said'. Prove '..Said' where nothing that the law and all that it calls make is longer than what came in: it says more and counts as full. Else prove '..UptoSaid'. A law counts once. -/
mutual
def uptoBulk {H : Type} : DataW H → Nat
  | .lit (.string bytes) => bytes.length + 1
  | .lit _ => 1
  | .nil => 1
  | .ptr d => uptoBulk d + 1
  | .slice elems spare => uptoBulkAll elems + uptoBulkAll spare + 1
  | .agg parts => uptoBulkAll parts + 1
  | .iface _ d => uptoBulk d + 1
  | .map entries => uptoBulkEntries entries + 1
  | .held _ => 1
def uptoBulkAll {H : Type} : List (DataW H) → Nat
  | [] => 0
  | d :: r => uptoBulk d + uptoBulkAll r
def uptoBulkEntries {H : Type} : List (Lit × DataW H) → Nat
  | [] => 0
  | x :: r => uptoBulkEntry x + uptoBulkEntries r
def uptoBulkEntry {H : Type} : Lit × DataW H → Nat
  | (.string bytes, d) => bytes.length + uptoBulk d + 1
  | (_, d) => uptoBulk d + 1
 end
def uptoSmall : (H : Type) → List (DataW H) → Bool := fun _ ds => decide (uptoBulkAll ds ≤ 1048576)
def OpenSpec.upto (s : _root_.Go.ChangeSpec) : _root_.Go.OpenSpec := { _root_.Go.OpenSpec.ofChange s with cond := some uptoSmall }

/-- 'hammocklaw05.PhaseMatchesReference', WHERE WHAT IT READS IS OF BULK AT MOST 1048576: true; the input reads as it did. -/
def phaseMatchesReferenceUptoRow : OpenClaim := { program := "ytcegipkhmibdeaadoor", sum := "c70b07b9ad11c3689f88fef8d8fe2e74741b57c3345a8ac024252510f8ef8a5e", func := "hammock/hammocklaw05.PhaseMatchesReference", spec := "phaseMatchesReference", named := ["hammock/phase.names"], plainKeys := false, apart := false, laid := [("hammock/phase.names", laid_hammock_phase_names)], narrowed := true }
def PhaseMatchesReferenceUptoSaid : Prop := phaseMatchesReferenceUptoRow.holds Tryd.pinned (OpenSpec.upto phaseMatchesReferenceSpec)

/-- 'hammocklaw05.PhaseRuns', WHERE WHAT IT READS IS OF BULK AT MOST 1048576: true; the input reads as it did. -/
def phaseRunsUptoRow : OpenClaim := { program := "ytcegipkhmibdeaadoor", sum := "c70b07b9ad11c3689f88fef8d8fe2e74741b57c3345a8ac024252510f8ef8a5e", func := "hammock/hammocklaw05.PhaseRuns", spec := "phaseRuns", named := ["hammock/phase.names"], plainKeys := false, apart := false, laid := [("hammock/phase.names", laid_hammock_phase_names)], narrowed := true }
def PhaseRunsUptoSaid : Prop := phaseRunsUptoRow.holds Tryd.pinned (OpenSpec.upto phaseRunsSpec)

/-- 'hammocklaw05.PhaseTells', WHERE WHAT IT READS IS OF BULK AT MOST 1048576: true; the input reads as it did. -/
def phaseTellsUptoRow : OpenClaim := { program := "ytcegipkhmibdeaadoor", sum := "c70b07b9ad11c3689f88fef8d8fe2e74741b57c3345a8ac024252510f8ef8a5e", func := "hammock/hammocklaw05.PhaseTells", spec := "phaseTells", named := ["hammock/phase.names"], plainKeys := false, apart := false, laid := [("hammock/phase.names", laid_hammock_phase_names)], narrowed := true }
def PhaseTellsUptoSaid : Prop := phaseTellsUptoRow.holds Tryd.pinned (OpenSpec.upto phaseTellsSpec)

/-- 'hammocklaw05.PhaseOnce', WHERE WHAT IT READS IS OF BULK AT MOST 1048576: true; the input reads as it did. -/
def phaseOnceUptoRow : OpenClaim := { program := "ytcegipkhmibdeaadoor", sum := "c70b07b9ad11c3689f88fef8d8fe2e74741b57c3345a8ac024252510f8ef8a5e", func := "hammock/hammocklaw05.PhaseOnce", spec := "phaseOnce", named := ["hammock/phase.names"], plainKeys := false, apart := false, laid := [("hammock/phase.names", laid_hammock_phase_names)], narrowed := true }
def PhaseOnceUptoSaid : Prop := phaseOnceUptoRow.holds Tryd.pinned (OpenSpec.upto phaseOnceSpec)

/-- 'hammocklaw05.PhaseReaches', WHERE WHAT IT READS IS OF BULK AT MOST 1048576: true; the input reads as it did. -/
def phaseReachesUptoRow : OpenClaim := { program := "ytcegipkhmibdeaadoor", sum := "c70b07b9ad11c3689f88fef8d8fe2e74741b57c3345a8ac024252510f8ef8a5e", func := "hammock/hammocklaw05.PhaseReaches", spec := "phaseReaches", named := ["hammock/phase.names"], plainKeys := false, apart := false, laid := [("hammock/phase.names", laid_hammock_phase_names)], narrowed := true }
def PhaseReachesUptoSaid : Prop := phaseReachesUptoRow.holds Tryd.pinned (OpenSpec.upto phaseReachesSpec)

/-- 'hammocklaw03.OpPlain', WHERE WHAT IT READS IS OF BULK AT MOST 1048576: true; the input reads as it did. -/
def opPlainUptoRow : OpenClaim := { program := "ytcegipkhmibdeaadoor", sum := "c70b07b9ad11c3689f88fef8d8fe2e74741b57c3345a8ac024252510f8ef8a5e", func := "hammock/hammocklaw03.OpPlain", spec := "opPlain", inPlace := ["internal/reflectlite.ValueOf", "(internal/reflectlite.Value).Type", "(internal/reflectlite.Value).IsNil", "internal/reflectlite.TypeOf", "(internal/reflectlite.Value).Elem", "(internal/reflectlite.Value).Set"], unfollowed := true, recurses := true, named := ["errors.errorType"], plainKeys := false, apart := false, laid := [("errors.errorType", laid_errors_errorType)], narrowed := true }
def OpPlainUptoSaid : Prop := opPlainUptoRow.holds Tryd.pinned (OpenSpec.upto opPlainSpec)

/-- 'hammocklaw03.OpLimits', WHERE WHAT IT READS IS OF BULK AT MOST 1048576: true; the input reads as it did. -/
def opLimitsUptoRow : OpenClaim := { program := "ytcegipkhmibdeaadoor", sum := "c70b07b9ad11c3689f88fef8d8fe2e74741b57c3345a8ac024252510f8ef8a5e", func := "hammock/hammocklaw03.OpLimits", spec := "opLimits", inPlace := ["internal/reflectlite.ValueOf", "(internal/reflectlite.Value).Type", "(internal/reflectlite.Value).IsNil", "internal/reflectlite.TypeOf", "(internal/reflectlite.Value).Elem", "(internal/reflectlite.Value).Set"], unfollowed := true, recurses := true, named := ["errors.errorType"], plainKeys := false, apart := false, laid := [("errors.errorType", laid_errors_errorType)], narrowed := true }
def OpLimitsUptoSaid : Prop := opLimitsUptoRow.holds Tryd.pinned (OpenSpec.upto opLimitsSpec)

/-- 'hammocklaw03.OpKeeps', WHERE WHAT IT READS IS OF BULK AT MOST 1048576: true; the input reads as it did. -/
def opKeepsUptoRow : OpenClaim := { program := "ytcegipkhmibdeaadoor", sum := "c70b07b9ad11c3689f88fef8d8fe2e74741b57c3345a8ac024252510f8ef8a5e", func := "hammock/hammocklaw03.OpKeeps", spec := "opKeeps", inPlace := ["internal/reflectlite.ValueOf", "(internal/reflectlite.Value).Type", "(internal/reflectlite.Value).IsNil", "internal/reflectlite.TypeOf", "(internal/reflectlite.Value).Elem", "(internal/reflectlite.Value).Set"], unfollowed := true, recurses := true, named := ["errors.errorType"], plainKeys := false, apart := false, laid := [("errors.errorType", laid_errors_errorType)], narrowed := true }
def OpKeepsUptoSaid : Prop := opKeepsUptoRow.holds Tryd.pinned (OpenSpec.upto opKeepsSpec)

/-- 'hammocklaw03.OpMakes', WHERE WHAT IT READS IS OF BULK AT MOST 1048576: true; the input reads as it did. -/
def opMakesUptoRow : OpenClaim := { program := "ytcegipkhmibdeaadoor", sum := "c70b07b9ad11c3689f88fef8d8fe2e74741b57c3345a8ac024252510f8ef8a5e", func := "hammock/hammocklaw03.OpMakes", spec := "opMakes", inPlace := ["internal/reflectlite.ValueOf", "(internal/reflectlite.Value).Type", "(internal/reflectlite.Value).IsNil", "internal/reflectlite.TypeOf", "(internal/reflectlite.Value).Elem", "(internal/reflectlite.Value).Set"], unfollowed := true, recurses := true, named := ["errors.errorType"], plainKeys := false, apart := false, laid := [("errors.errorType", laid_errors_errorType)], narrowed := true }
def OpMakesUptoSaid : Prop := opMakesUptoRow.holds Tryd.pinned (OpenSpec.upto opMakesSpec)

/-- 'hammocklaw13.PodOnce', WHERE WHAT IT READS IS OF BULK AT MOST 1048576: true; the input reads as it did. -/
def podOnceUptoRow : OpenClaim := { program := "ytcegipkhmibdeaadoor", sum := "c70b07b9ad11c3689f88fef8d8fe2e74741b57c3345a8ac024252510f8ef8a5e", func := "hammock/hammocklaw13.PodOnce", spec := "podOnce", inPlace := ["internal/reflectlite.ValueOf", "(internal/reflectlite.Value).Type", "(internal/reflectlite.Value).IsNil", "internal/reflectlite.TypeOf", "(internal/reflectlite.Value).Elem", "(internal/reflectlite.Value).Set"], unfollowed := true, recurses := true, named := ["errors.errorType"], plainKeys := false, apart := false, laid := [("errors.errorType", laid_errors_errorType)], narrowed := true }
def PodOnceUptoSaid : Prop := podOnceUptoRow.holds Tryd.pinned (OpenSpec.upto podOnceSpec)

/-- 'hammocklaw13.PodKeeps', WHERE WHAT IT READS IS OF BULK AT MOST 1048576: true; the input reads as it did. -/
def podKeepsUptoRow : OpenClaim := { program := "ytcegipkhmibdeaadoor", sum := "c70b07b9ad11c3689f88fef8d8fe2e74741b57c3345a8ac024252510f8ef8a5e", func := "hammock/hammocklaw13.PodKeeps", spec := "podKeeps", inPlace := ["internal/reflectlite.ValueOf", "(internal/reflectlite.Value).Type", "(internal/reflectlite.Value).IsNil", "internal/reflectlite.TypeOf", "(internal/reflectlite.Value).Elem", "(internal/reflectlite.Value).Set"], unfollowed := true, recurses := true, named := ["errors.errorType"], plainKeys := false, apart := false, laid := [("errors.errorType", laid_errors_errorType)], narrowed := true }
def PodKeepsUptoSaid : Prop := podKeepsUptoRow.holds Tryd.pinned (OpenSpec.upto podKeepsSpec)

/-- 'hammocklaw13.PodMatchesReference', WHERE WHAT IT READS IS OF BULK AT MOST 1048576: true; the input reads as it did. -/
def podMatchesReferenceUptoRow : OpenClaim := { program := "ytcegipkhmibdeaadoor", sum := "c70b07b9ad11c3689f88fef8d8fe2e74741b57c3345a8ac024252510f8ef8a5e", func := "hammock/hammocklaw13.PodMatchesReference", spec := "podMatchesReference", inPlace := ["internal/reflectlite.ValueOf", "(internal/reflectlite.Value).Type", "(internal/reflectlite.Value).IsNil", "internal/reflectlite.TypeOf", "(internal/reflectlite.Value).Elem", "(internal/reflectlite.Value).Set"], unfollowed := true, recurses := true, named := ["errors.errorType"], plainKeys := false, apart := false, laid := [("errors.errorType", laid_errors_errorType)], narrowed := true }
def PodMatchesReferenceUptoSaid : Prop := podMatchesReferenceUptoRow.holds Tryd.pinned (OpenSpec.upto podMatchesReferenceSpec)

/-- 'hammocklaw13.PodPhases', WHERE WHAT IT READS IS OF BULK AT MOST 1048576: true; the input reads as it did. -/
def podPhasesUptoRow : OpenClaim := { program := "ytcegipkhmibdeaadoor", sum := "c70b07b9ad11c3689f88fef8d8fe2e74741b57c3345a8ac024252510f8ef8a5e", func := "hammock/hammocklaw13.PodPhases", spec := "podPhases", inPlace := ["internal/reflectlite.ValueOf", "(internal/reflectlite.Value).Type", "(internal/reflectlite.Value).IsNil", "internal/reflectlite.TypeOf", "(internal/reflectlite.Value).Elem", "(internal/reflectlite.Value).Set"], unfollowed := true, recurses := true, named := ["errors.errorType"], plainKeys := false, apart := false, laid := [("errors.errorType", laid_errors_errorType)], narrowed := true }
def PodPhasesUptoSaid : Prop := podPhasesUptoRow.holds Tryd.pinned (OpenSpec.upto podPhasesSpec)

/-- 'hammocklaw13.PodArrivals', WHERE WHAT IT READS IS OF BULK AT MOST 1048576: true; the input reads as it did. -/
def podArrivalsUptoRow : OpenClaim := { program := "ytcegipkhmibdeaadoor", sum := "c70b07b9ad11c3689f88fef8d8fe2e74741b57c3345a8ac024252510f8ef8a5e", func := "hammock/hammocklaw13.PodArrivals", spec := "podArrivals", inPlace := ["internal/reflectlite.ValueOf", "(internal/reflectlite.Value).Type", "(internal/reflectlite.Value).IsNil", "internal/reflectlite.TypeOf", "(internal/reflectlite.Value).Elem", "(internal/reflectlite.Value).Set"], unfollowed := true, recurses := true, named := ["errors.errorType"], plainKeys := false, apart := false, laid := [("errors.errorType", laid_errors_errorType)], narrowed := true }
def PodArrivalsUptoSaid : Prop := podArrivalsUptoRow.holds Tryd.pinned (OpenSpec.upto podArrivalsSpec)

/-- 'hammocklaw02.FaultFinds', WHERE WHAT IT READS IS OF BULK AT MOST 1048576: true; the input reads as it did. -/
def faultFindsUptoRow : OpenClaim := { program := "ytcegipkhmibdeaadoor", sum := "c70b07b9ad11c3689f88fef8d8fe2e74741b57c3345a8ac024252510f8ef8a5e", func := "hammock/hammocklaw02.FaultFinds", spec := "faultFinds", inPlace := ["internal/reflectlite.ValueOf", "(internal/reflectlite.Value).Type", "(internal/reflectlite.Value).IsNil", "internal/reflectlite.TypeOf", "(internal/reflectlite.Value).Elem", "(internal/reflectlite.Value).Set"], unfollowed := true, recurses := true, named := ["errors.errorType", "hammock/fault.names", "hammock/fault.kinds"], plainKeys := false, apart := false, laid := [("errors.errorType", laid_errors_errorType), ("hammock/fault.names", laid_hammock_fault_names), ("hammock/fault.kinds", laid_hammock_fault_kinds)], narrowed := true }
def FaultFindsUptoSaid : Prop := faultFindsUptoRow.holds Tryd.pinned (OpenSpec.upto faultFindsSpec)

/-- 'hammocklaw02.FaultNames', WHERE WHAT IT READS IS OF BULK AT MOST 1048576: true; the input reads as it did. -/
def faultNamesUptoRow : OpenClaim := { program := "ytcegipkhmibdeaadoor", sum := "c70b07b9ad11c3689f88fef8d8fe2e74741b57c3345a8ac024252510f8ef8a5e", func := "hammock/hammocklaw02.FaultNames", spec := "faultNames", inPlace := ["internal/reflectlite.ValueOf", "(internal/reflectlite.Value).Type", "(internal/reflectlite.Value).IsNil", "internal/reflectlite.TypeOf", "(internal/reflectlite.Value).Elem", "(internal/reflectlite.Value).Set"], unfollowed := true, recurses := true, named := ["errors.errorType", "hammock/fault.names", "hammock/fault.kinds"], plainKeys := false, apart := false, laid := [("errors.errorType", laid_errors_errorType), ("hammock/fault.names", laid_hammock_fault_names), ("hammock/fault.kinds", laid_hammock_fault_kinds)], narrowed := true }
def FaultNamesUptoSaid : Prop := faultNamesUptoRow.holds Tryd.pinned (OpenSpec.upto faultNamesSpec)

/-- 'hammocklaw02.FaultNests', WHERE WHAT IT READS IS OF BULK AT MOST 1048576: true; the input reads as it did. -/
def faultNestsUptoRow : OpenClaim := { program := "ytcegipkhmibdeaadoor", sum := "c70b07b9ad11c3689f88fef8d8fe2e74741b57c3345a8ac024252510f8ef8a5e", func := "hammock/hammocklaw02.FaultNests", spec := "faultNests", inPlace := ["internal/reflectlite.ValueOf", "(internal/reflectlite.Value).Type", "(internal/reflectlite.Value).IsNil", "internal/reflectlite.TypeOf", "(internal/reflectlite.Value).Elem", "(internal/reflectlite.Value).Set"], unfollowed := true, recurses := true, named := ["errors.errorType", "hammock/fault.names", "hammock/fault.kinds"], plainKeys := false, apart := false, laid := [("errors.errorType", laid_errors_errorType), ("hammock/fault.names", laid_hammock_fault_names), ("hammock/fault.kinds", laid_hammock_fault_kinds)], narrowed := true }
def FaultNestsUptoSaid : Prop := faultNestsUptoRow.holds Tryd.pinned (OpenSpec.upto faultNestsSpec)

/-- 'hammocklaw02.FaultOthers', WHERE WHAT IT READS IS OF BULK AT MOST 1048576: true; the input reads as it did. -/
def faultOthersUptoRow : OpenClaim := { program := "ytcegipkhmibdeaadoor", sum := "c70b07b9ad11c3689f88fef8d8fe2e74741b57c3345a8ac024252510f8ef8a5e", func := "hammock/hammocklaw02.FaultOthers", spec := "faultOthers", inPlace := ["internal/reflectlite.ValueOf", "(internal/reflectlite.Value).Type", "(internal/reflectlite.Value).IsNil", "internal/reflectlite.TypeOf", "(internal/reflectlite.Value).Elem", "(internal/reflectlite.Value).Set"], unfollowed := true, recurses := true, named := ["errors.errorType", "hammock/fault.names", "hammock/fault.kinds"], plainKeys := false, apart := false, laid := [("errors.errorType", laid_errors_errorType), ("hammock/fault.names", laid_hammock_fault_names), ("hammock/fault.kinds", laid_hammock_fault_kinds)], narrowed := true }
def FaultOthersUptoSaid : Prop := faultOthersUptoRow.holds Tryd.pinned (OpenSpec.upto faultOthersSpec)

/-- 'hammocklaw02.FaultWraps', WHERE WHAT IT READS IS OF BULK AT MOST 1048576: true; the input reads as it did. -/
def faultWrapsUptoRow : OpenClaim := { program := "ytcegipkhmibdeaadoor", sum := "c70b07b9ad11c3689f88fef8d8fe2e74741b57c3345a8ac024252510f8ef8a5e", func := "hammock/hammocklaw02.FaultWraps", spec := "faultWraps", inPlace := ["internal/reflectlite.ValueOf", "(internal/reflectlite.Value).Type", "(internal/reflectlite.Value).IsNil", "internal/reflectlite.TypeOf", "(internal/reflectlite.Value).Elem", "(internal/reflectlite.Value).Set"], unfollowed := true, recurses := true, named := ["errors.errorType", "hammock/fault.names", "hammock/fault.kinds"], plainKeys := false, apart := false, laid := [("errors.errorType", laid_errors_errorType), ("hammock/fault.names", laid_hammock_fault_names), ("hammock/fault.kinds", laid_hammock_fault_kinds)], narrowed := true }
def FaultWrapsUptoSaid : Prop := faultWrapsUptoRow.holds Tryd.pinned (OpenSpec.upto faultWrapsSpec)

/-- 'hammocklaw03.OpChecks', WHERE WHAT IT READS IS OF BULK AT MOST 1048576: true; the input reads as it did. -/
def opChecksUptoRow : OpenClaim := { program := "ytcegipkhmibdeaadoor", sum := "c70b07b9ad11c3689f88fef8d8fe2e74741b57c3345a8ac024252510f8ef8a5e", func := "hammock/hammocklaw03.OpChecks", spec := "opChecks", inPlace := ["internal/reflectlite.ValueOf", "(internal/reflectlite.Value).Type", "(internal/reflectlite.Value).IsNil", "internal/reflectlite.TypeOf", "(internal/reflectlite.Value).Elem", "(internal/reflectlite.Value).Set"], unfollowed := true, recurses := true, named := ["errors.errorType"], plainKeys := false, apart := false, laid := [("errors.errorType", laid_errors_errorType)], narrowed := true }
def OpChecksUptoSaid : Prop := opChecksUptoRow.holds Tryd.pinned (OpenSpec.upto opChecksSpec)

end Rows
end Go.Proofs.YtcegipkhmibdeaaDoor
