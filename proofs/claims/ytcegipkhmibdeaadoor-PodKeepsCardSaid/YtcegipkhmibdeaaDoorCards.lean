/-
  DERIVED. GIVEN WITH THE SEED: THE CARDS: each row of YtcegipkhmibdeaaDoorRows.lean that lists a variable, with what it lists TIED to the program's text (the seventh form; the later family's looks); each row that meets fmt, with fmt's text TOLD by the authors' own Lean function (tested against real Go, not proved from fmt's source: count such statements apart). THE CARD IS WHAT COUNTS. Prove the row's statement (the work); the ties are given (YtcegipkhmibdeaaDoorTie.lean); close each card by the builder's one call (the guide's Derived/Test/ToyasCard.lean, 'card_holds'). Laid BY PROGRAM, IN A SANDBOX (cutbox-door.mjs). By AI agents, Wed Nov 11 2026. No macro, syntax, notation, axiom, sorry.
-/
import Derived.Test.YtcegipkhmibdeaaDoorRows
import GoSem.ClaimSeven
namespace Go.Proofs.YtcegipkhmibdeaaDoor
namespace Rows

/-- THE TIED CARD OF 'hammocklaw05.PhaseMatchesReference'. -/
def phaseMatchesReferenceCard : Claim7 := { stood := { row := phaseMatchesReferenceRow, standIns := [], harness := (true, "25fb52c7a62141da201c992de07690019f706bfb1a8ff032f6eb55d89aef45fd"), looks := true }, kinds := [], alts := [], laidByText := true, laidKinds := [.data], laidTests := true, laidLooks := .later }
def PhaseMatchesReferenceCardSaid : Prop := Claim7.holds Tryd.pinned (.plain (OpenSpec.ofChange phaseMatchesReferenceSpec)) phaseMatchesReferenceCard

/-- THE TIED CARD OF 'hammocklaw05.PhaseRuns'. -/
def phaseRunsCard : Claim7 := { stood := { row := phaseRunsRow, standIns := [], harness := (true, "25fb52c7a62141da201c992de07690019f706bfb1a8ff032f6eb55d89aef45fd"), looks := true }, kinds := [], alts := [], laidByText := true, laidKinds := [.data], laidTests := true, laidLooks := .later }
def PhaseRunsCardSaid : Prop := Claim7.holds Tryd.pinned (.plain (OpenSpec.ofChange phaseRunsSpec)) phaseRunsCard

/-- THE TIED CARD OF 'hammocklaw05.PhaseTells'. -/
def phaseTellsCard : Claim7 := { stood := { row := phaseTellsRow, standIns := [], harness := (true, "25fb52c7a62141da201c992de07690019f706bfb1a8ff032f6eb55d89aef45fd"), looks := true }, kinds := [], alts := [], laidByText := true, laidKinds := [.data], laidTests := true, laidLooks := .later }
def PhaseTellsCardSaid : Prop := Claim7.holds Tryd.pinned (.plain (OpenSpec.ofChange phaseTellsSpec)) phaseTellsCard

/-- THE TIED CARD OF 'hammocklaw05.PhaseOnce'. -/
def phaseOnceCard : Claim7 := { stood := { row := phaseOnceRow, standIns := [], harness := (true, "25fb52c7a62141da201c992de07690019f706bfb1a8ff032f6eb55d89aef45fd"), looks := true }, kinds := [], alts := [], laidByText := true, laidKinds := [.data], laidTests := true, laidLooks := .later }
def PhaseOnceCardSaid : Prop := Claim7.holds Tryd.pinned (.plain (OpenSpec.ofChange phaseOnceSpec)) phaseOnceCard

/-- THE TIED CARD OF 'hammocklaw05.PhaseReaches'. -/
def phaseReachesCard : Claim7 := { stood := { row := phaseReachesRow, standIns := [], harness := (true, "25fb52c7a62141da201c992de07690019f706bfb1a8ff032f6eb55d89aef45fd"), looks := true }, kinds := [], alts := [], laidByText := true, laidKinds := [.data], laidTests := true, laidLooks := .later }
def PhaseReachesCardSaid : Prop := Claim7.holds Tryd.pinned (.plain (OpenSpec.ofChange phaseReachesSpec)) phaseReachesCard

/-- THE TIED CARD OF 'hammocklaw03.OpPlain'. -/
def opPlainCard : Claim7 := { stood := { row := opPlainRow, standIns := [], harness := (true, "25fb52c7a62141da201c992de07690019f706bfb1a8ff032f6eb55d89aef45fd"), looks := true }, kinds := [], alts := [], laidByText := true, laidKinds := [.handle], laidTests := true, laidLooks := .later }
def OpPlainCardSaid : Prop := Claim7.holds Tryd.pinned (.plain (OpenSpec.ofChange opPlainSpec)) opPlainCard

/-- THE TIED CARD OF 'hammocklaw03.OpLimits'. -/
def opLimitsCard : Claim7 := { stood := { row := opLimitsRow, standIns := [], harness := (true, "25fb52c7a62141da201c992de07690019f706bfb1a8ff032f6eb55d89aef45fd"), looks := true }, kinds := [], alts := [], laidByText := true, laidKinds := [.handle], laidTests := true, laidLooks := .later }
def OpLimitsCardSaid : Prop := Claim7.holds Tryd.pinned (.plain (OpenSpec.ofChange opLimitsSpec)) opLimitsCard

/-- THE TIED CARD OF 'hammocklaw03.OpKeeps'. -/
def opKeepsCard : Claim7 := { stood := { row := opKeepsRow, standIns := [], harness := (true, "25fb52c7a62141da201c992de07690019f706bfb1a8ff032f6eb55d89aef45fd"), looks := true }, kinds := [], alts := [], laidByText := true, laidKinds := [.handle], laidTests := true, laidLooks := .later }
def OpKeepsCardSaid : Prop := Claim7.holds Tryd.pinned (.plain (OpenSpec.ofChange opKeepsSpec)) opKeepsCard

/-- THE TIED CARD OF 'hammocklaw03.OpMakes'. -/
def opMakesCard : Claim7 := { stood := { row := opMakesRow, standIns := [], harness := (true, "25fb52c7a62141da201c992de07690019f706bfb1a8ff032f6eb55d89aef45fd"), looks := true }, kinds := [], alts := [], laidByText := true, laidKinds := [.handle], laidTests := true, laidLooks := .later }
def OpMakesCardSaid : Prop := Claim7.holds Tryd.pinned (.plain (OpenSpec.ofChange opMakesSpec)) opMakesCard

/-- THE TIED CARD OF 'hammocklaw13.PodOnce'. -/
def podOnceCard : Claim7 := { stood := { row := podOnceRow, standIns := [], harness := (true, "25fb52c7a62141da201c992de07690019f706bfb1a8ff032f6eb55d89aef45fd"), looks := true }, kinds := [], alts := [], laidByText := true, laidKinds := [.handle], laidTests := true, laidLooks := .later }
def PodOnceCardSaid : Prop := Claim7.holds Tryd.pinned (.plain (OpenSpec.ofChange podOnceSpec)) podOnceCard

/-- THE TIED CARD OF 'hammocklaw13.PodKeeps'. -/
def podKeepsCard : Claim7 := { stood := { row := podKeepsRow, standIns := [], harness := (true, "25fb52c7a62141da201c992de07690019f706bfb1a8ff032f6eb55d89aef45fd"), looks := true }, kinds := [], alts := [], laidByText := true, laidKinds := [.handle], laidTests := true, laidLooks := .later }
def PodKeepsCardSaid : Prop := Claim7.holds Tryd.pinned (.plain (OpenSpec.ofChange podKeepsSpec)) podKeepsCard

/-- THE TIED CARD OF 'hammocklaw13.PodMatchesReference'. -/
def podMatchesReferenceCard : Claim7 := { stood := { row := podMatchesReferenceRow, standIns := [], harness := (true, "25fb52c7a62141da201c992de07690019f706bfb1a8ff032f6eb55d89aef45fd"), looks := true }, kinds := [], alts := [], laidByText := true, laidKinds := [.handle], laidTests := true, laidLooks := .later }
def PodMatchesReferenceCardSaid : Prop := Claim7.holds Tryd.pinned (.plain (OpenSpec.ofChange podMatchesReferenceSpec)) podMatchesReferenceCard

/-- THE TIED CARD OF 'hammocklaw13.PodPhases'. -/
def podPhasesCard : Claim7 := { stood := { row := podPhasesRow, standIns := [], harness := (true, "25fb52c7a62141da201c992de07690019f706bfb1a8ff032f6eb55d89aef45fd"), looks := true }, kinds := [], alts := [], laidByText := true, laidKinds := [.handle], laidTests := true, laidLooks := .later }
def PodPhasesCardSaid : Prop := Claim7.holds Tryd.pinned (.plain (OpenSpec.ofChange podPhasesSpec)) podPhasesCard

/-- THE TIED CARD OF 'hammocklaw13.PodArrivals'. -/
def podArrivalsCard : Claim7 := { stood := { row := podArrivalsRow, standIns := [], harness := (true, "25fb52c7a62141da201c992de07690019f706bfb1a8ff032f6eb55d89aef45fd"), looks := true }, kinds := [], alts := [], laidByText := true, laidKinds := [.handle], laidTests := true, laidLooks := .later }
def PodArrivalsCardSaid : Prop := Claim7.holds Tryd.pinned (.plain (OpenSpec.ofChange podArrivalsSpec)) podArrivalsCard

/-- THE TIED CARD OF 'hammocklaw02.FaultFinds'. -/
def faultFindsCard : Claim7 := { stood := { row := faultFindsRow, standIns := [], harness := (true, "25fb52c7a62141da201c992de07690019f706bfb1a8ff032f6eb55d89aef45fd"), looks := true }, kinds := [], alts := [], laidByText := true, laidKinds := [.handle, .data, .data], laidTests := true, laidLooks := .later }
def FaultFindsCardSaid : Prop := Claim7.holds Tryd.pinned (.plain (OpenSpec.ofChange faultFindsSpec)) faultFindsCard

/-- THE TIED CARD OF 'hammocklaw02.FaultNames'. -/
def faultNamesCard : Claim7 := { stood := { row := faultNamesRow, standIns := [], harness := (true, "25fb52c7a62141da201c992de07690019f706bfb1a8ff032f6eb55d89aef45fd"), looks := true }, kinds := [], alts := [], laidByText := true, laidKinds := [.handle, .data, .data], laidTests := true, laidLooks := .later }
def FaultNamesCardSaid : Prop := Claim7.holds Tryd.pinned (.plain (OpenSpec.ofChange faultNamesSpec)) faultNamesCard

/-- THE TIED CARD OF 'hammocklaw02.FaultNests'. -/
def faultNestsCard : Claim7 := { stood := { row := faultNestsRow, standIns := [], harness := (true, "25fb52c7a62141da201c992de07690019f706bfb1a8ff032f6eb55d89aef45fd"), looks := true }, kinds := [], alts := [], laidByText := true, laidKinds := [.handle, .data, .data], laidTests := true, laidLooks := .later }
def FaultNestsCardSaid : Prop := Claim7.holds Tryd.pinned (.plain (OpenSpec.ofChange faultNestsSpec)) faultNestsCard

/-- THE TIED CARD OF 'hammocklaw02.FaultOthers'. -/
def faultOthersCard : Claim7 := { stood := { row := faultOthersRow, standIns := [], harness := (true, "25fb52c7a62141da201c992de07690019f706bfb1a8ff032f6eb55d89aef45fd"), looks := true }, kinds := [], alts := [], laidByText := true, laidKinds := [.handle, .data, .data], laidTests := true, laidLooks := .later }
def FaultOthersCardSaid : Prop := Claim7.holds Tryd.pinned (.plain (OpenSpec.ofChange faultOthersSpec)) faultOthersCard

/-- THE TIED CARD OF 'hammocklaw02.FaultWraps'. -/
def faultWrapsCard : Claim7 := { stood := { row := faultWrapsRow, standIns := [], harness := (true, "25fb52c7a62141da201c992de07690019f706bfb1a8ff032f6eb55d89aef45fd"), looks := true }, kinds := [], alts := [], laidByText := true, laidKinds := [.handle, .data, .data], laidTests := true, laidLooks := .later }
def FaultWrapsCardSaid : Prop := Claim7.holds Tryd.pinned (.plain (OpenSpec.ofChange faultWrapsSpec)) faultWrapsCard

/-- THE TIED CARD OF 'hammocklaw03.OpChecks'. -/
def opChecksCard : Claim7 := { stood := { row := opChecksRow, standIns := [], harness := (true, "25fb52c7a62141da201c992de07690019f706bfb1a8ff032f6eb55d89aef45fd"), looks := true }, kinds := [], alts := [], laidByText := true, laidKinds := [.handle], laidTests := true, laidLooks := .later }
def OpChecksCardSaid : Prop := Claim7.holds Tryd.pinned (.plain (OpenSpec.ofChange opChecksSpec)) opChecksCard

/-- THE SECOND FORM's CARD OF 'hammocklaw05.PhaseMatchesReference'. -/
def phaseMatchesReferenceUptoCard : Claim7 := { stood := { row := phaseMatchesReferenceUptoRow, standIns := [], harness := (true, "25fb52c7a62141da201c992de07690019f706bfb1a8ff032f6eb55d89aef45fd"), looks := true }, kinds := [], alts := [], laidByText := true, laidKinds := [.data], laidTests := true, laidLooks := .later }
def PhaseMatchesReferenceUptoCardSaid : Prop := Claim7.holds Tryd.pinned (.plain (OpenSpec.upto phaseMatchesReferenceSpec)) phaseMatchesReferenceUptoCard

/-- THE SECOND FORM's CARD OF 'hammocklaw05.PhaseRuns'. -/
def phaseRunsUptoCard : Claim7 := { stood := { row := phaseRunsUptoRow, standIns := [], harness := (true, "25fb52c7a62141da201c992de07690019f706bfb1a8ff032f6eb55d89aef45fd"), looks := true }, kinds := [], alts := [], laidByText := true, laidKinds := [.data], laidTests := true, laidLooks := .later }
def PhaseRunsUptoCardSaid : Prop := Claim7.holds Tryd.pinned (.plain (OpenSpec.upto phaseRunsSpec)) phaseRunsUptoCard

/-- THE SECOND FORM's CARD OF 'hammocklaw05.PhaseTells'. -/
def phaseTellsUptoCard : Claim7 := { stood := { row := phaseTellsUptoRow, standIns := [], harness := (true, "25fb52c7a62141da201c992de07690019f706bfb1a8ff032f6eb55d89aef45fd"), looks := true }, kinds := [], alts := [], laidByText := true, laidKinds := [.data], laidTests := true, laidLooks := .later }
def PhaseTellsUptoCardSaid : Prop := Claim7.holds Tryd.pinned (.plain (OpenSpec.upto phaseTellsSpec)) phaseTellsUptoCard

/-- THE SECOND FORM's CARD OF 'hammocklaw05.PhaseOnce'. -/
def phaseOnceUptoCard : Claim7 := { stood := { row := phaseOnceUptoRow, standIns := [], harness := (true, "25fb52c7a62141da201c992de07690019f706bfb1a8ff032f6eb55d89aef45fd"), looks := true }, kinds := [], alts := [], laidByText := true, laidKinds := [.data], laidTests := true, laidLooks := .later }
def PhaseOnceUptoCardSaid : Prop := Claim7.holds Tryd.pinned (.plain (OpenSpec.upto phaseOnceSpec)) phaseOnceUptoCard

/-- THE SECOND FORM's CARD OF 'hammocklaw05.PhaseReaches'. -/
def phaseReachesUptoCard : Claim7 := { stood := { row := phaseReachesUptoRow, standIns := [], harness := (true, "25fb52c7a62141da201c992de07690019f706bfb1a8ff032f6eb55d89aef45fd"), looks := true }, kinds := [], alts := [], laidByText := true, laidKinds := [.data], laidTests := true, laidLooks := .later }
def PhaseReachesUptoCardSaid : Prop := Claim7.holds Tryd.pinned (.plain (OpenSpec.upto phaseReachesSpec)) phaseReachesUptoCard

/-- THE SECOND FORM's CARD OF 'hammocklaw03.OpPlain'. -/
def opPlainUptoCard : Claim7 := { stood := { row := opPlainUptoRow, standIns := [], harness := (true, "25fb52c7a62141da201c992de07690019f706bfb1a8ff032f6eb55d89aef45fd"), looks := true }, kinds := [], alts := [], laidByText := true, laidKinds := [.handle], laidTests := true, laidLooks := .later }
def OpPlainUptoCardSaid : Prop := Claim7.holds Tryd.pinned (.plain (OpenSpec.upto opPlainSpec)) opPlainUptoCard

/-- THE SECOND FORM's CARD OF 'hammocklaw03.OpLimits'. -/
def opLimitsUptoCard : Claim7 := { stood := { row := opLimitsUptoRow, standIns := [], harness := (true, "25fb52c7a62141da201c992de07690019f706bfb1a8ff032f6eb55d89aef45fd"), looks := true }, kinds := [], alts := [], laidByText := true, laidKinds := [.handle], laidTests := true, laidLooks := .later }
def OpLimitsUptoCardSaid : Prop := Claim7.holds Tryd.pinned (.plain (OpenSpec.upto opLimitsSpec)) opLimitsUptoCard

/-- THE SECOND FORM's CARD OF 'hammocklaw03.OpKeeps'. -/
def opKeepsUptoCard : Claim7 := { stood := { row := opKeepsUptoRow, standIns := [], harness := (true, "25fb52c7a62141da201c992de07690019f706bfb1a8ff032f6eb55d89aef45fd"), looks := true }, kinds := [], alts := [], laidByText := true, laidKinds := [.handle], laidTests := true, laidLooks := .later }
def OpKeepsUptoCardSaid : Prop := Claim7.holds Tryd.pinned (.plain (OpenSpec.upto opKeepsSpec)) opKeepsUptoCard

/-- THE SECOND FORM's CARD OF 'hammocklaw03.OpMakes'. -/
def opMakesUptoCard : Claim7 := { stood := { row := opMakesUptoRow, standIns := [], harness := (true, "25fb52c7a62141da201c992de07690019f706bfb1a8ff032f6eb55d89aef45fd"), looks := true }, kinds := [], alts := [], laidByText := true, laidKinds := [.handle], laidTests := true, laidLooks := .later }
def OpMakesUptoCardSaid : Prop := Claim7.holds Tryd.pinned (.plain (OpenSpec.upto opMakesSpec)) opMakesUptoCard

/-- THE SECOND FORM's CARD OF 'hammocklaw13.PodOnce'. -/
def podOnceUptoCard : Claim7 := { stood := { row := podOnceUptoRow, standIns := [], harness := (true, "25fb52c7a62141da201c992de07690019f706bfb1a8ff032f6eb55d89aef45fd"), looks := true }, kinds := [], alts := [], laidByText := true, laidKinds := [.handle], laidTests := true, laidLooks := .later }
def PodOnceUptoCardSaid : Prop := Claim7.holds Tryd.pinned (.plain (OpenSpec.upto podOnceSpec)) podOnceUptoCard

/-- THE SECOND FORM's CARD OF 'hammocklaw13.PodKeeps'. -/
def podKeepsUptoCard : Claim7 := { stood := { row := podKeepsUptoRow, standIns := [], harness := (true, "25fb52c7a62141da201c992de07690019f706bfb1a8ff032f6eb55d89aef45fd"), looks := true }, kinds := [], alts := [], laidByText := true, laidKinds := [.handle], laidTests := true, laidLooks := .later }
def PodKeepsUptoCardSaid : Prop := Claim7.holds Tryd.pinned (.plain (OpenSpec.upto podKeepsSpec)) podKeepsUptoCard

/-- THE SECOND FORM's CARD OF 'hammocklaw13.PodMatchesReference'. -/
def podMatchesReferenceUptoCard : Claim7 := { stood := { row := podMatchesReferenceUptoRow, standIns := [], harness := (true, "25fb52c7a62141da201c992de07690019f706bfb1a8ff032f6eb55d89aef45fd"), looks := true }, kinds := [], alts := [], laidByText := true, laidKinds := [.handle], laidTests := true, laidLooks := .later }
def PodMatchesReferenceUptoCardSaid : Prop := Claim7.holds Tryd.pinned (.plain (OpenSpec.upto podMatchesReferenceSpec)) podMatchesReferenceUptoCard

/-- THE SECOND FORM's CARD OF 'hammocklaw13.PodPhases'. -/
def podPhasesUptoCard : Claim7 := { stood := { row := podPhasesUptoRow, standIns := [], harness := (true, "25fb52c7a62141da201c992de07690019f706bfb1a8ff032f6eb55d89aef45fd"), looks := true }, kinds := [], alts := [], laidByText := true, laidKinds := [.handle], laidTests := true, laidLooks := .later }
def PodPhasesUptoCardSaid : Prop := Claim7.holds Tryd.pinned (.plain (OpenSpec.upto podPhasesSpec)) podPhasesUptoCard

/-- THE SECOND FORM's CARD OF 'hammocklaw13.PodArrivals'. -/
def podArrivalsUptoCard : Claim7 := { stood := { row := podArrivalsUptoRow, standIns := [], harness := (true, "25fb52c7a62141da201c992de07690019f706bfb1a8ff032f6eb55d89aef45fd"), looks := true }, kinds := [], alts := [], laidByText := true, laidKinds := [.handle], laidTests := true, laidLooks := .later }
def PodArrivalsUptoCardSaid : Prop := Claim7.holds Tryd.pinned (.plain (OpenSpec.upto podArrivalsSpec)) podArrivalsUptoCard

/-- THE SECOND FORM's CARD OF 'hammocklaw02.FaultFinds'. -/
def faultFindsUptoCard : Claim7 := { stood := { row := faultFindsUptoRow, standIns := [], harness := (true, "25fb52c7a62141da201c992de07690019f706bfb1a8ff032f6eb55d89aef45fd"), looks := true }, kinds := [], alts := [], laidByText := true, laidKinds := [.handle, .data, .data], laidTests := true, laidLooks := .later }
def FaultFindsUptoCardSaid : Prop := Claim7.holds Tryd.pinned (.plain (OpenSpec.upto faultFindsSpec)) faultFindsUptoCard

/-- THE SECOND FORM's CARD OF 'hammocklaw02.FaultNames'. -/
def faultNamesUptoCard : Claim7 := { stood := { row := faultNamesUptoRow, standIns := [], harness := (true, "25fb52c7a62141da201c992de07690019f706bfb1a8ff032f6eb55d89aef45fd"), looks := true }, kinds := [], alts := [], laidByText := true, laidKinds := [.handle, .data, .data], laidTests := true, laidLooks := .later }
def FaultNamesUptoCardSaid : Prop := Claim7.holds Tryd.pinned (.plain (OpenSpec.upto faultNamesSpec)) faultNamesUptoCard

/-- THE SECOND FORM's CARD OF 'hammocklaw02.FaultNests'. -/
def faultNestsUptoCard : Claim7 := { stood := { row := faultNestsUptoRow, standIns := [], harness := (true, "25fb52c7a62141da201c992de07690019f706bfb1a8ff032f6eb55d89aef45fd"), looks := true }, kinds := [], alts := [], laidByText := true, laidKinds := [.handle, .data, .data], laidTests := true, laidLooks := .later }
def FaultNestsUptoCardSaid : Prop := Claim7.holds Tryd.pinned (.plain (OpenSpec.upto faultNestsSpec)) faultNestsUptoCard

/-- THE SECOND FORM's CARD OF 'hammocklaw02.FaultOthers'. -/
def faultOthersUptoCard : Claim7 := { stood := { row := faultOthersUptoRow, standIns := [], harness := (true, "25fb52c7a62141da201c992de07690019f706bfb1a8ff032f6eb55d89aef45fd"), looks := true }, kinds := [], alts := [], laidByText := true, laidKinds := [.handle, .data, .data], laidTests := true, laidLooks := .later }
def FaultOthersUptoCardSaid : Prop := Claim7.holds Tryd.pinned (.plain (OpenSpec.upto faultOthersSpec)) faultOthersUptoCard

/-- THE SECOND FORM's CARD OF 'hammocklaw02.FaultWraps'. -/
def faultWrapsUptoCard : Claim7 := { stood := { row := faultWrapsUptoRow, standIns := [], harness := (true, "25fb52c7a62141da201c992de07690019f706bfb1a8ff032f6eb55d89aef45fd"), looks := true }, kinds := [], alts := [], laidByText := true, laidKinds := [.handle, .data, .data], laidTests := true, laidLooks := .later }
def FaultWrapsUptoCardSaid : Prop := Claim7.holds Tryd.pinned (.plain (OpenSpec.upto faultWrapsSpec)) faultWrapsUptoCard

/-- THE SECOND FORM's CARD OF 'hammocklaw03.OpChecks'. -/
def opChecksUptoCard : Claim7 := { stood := { row := opChecksUptoRow, standIns := [], harness := (true, "25fb52c7a62141da201c992de07690019f706bfb1a8ff032f6eb55d89aef45fd"), looks := true }, kinds := [], alts := [], laidByText := true, laidKinds := [.handle], laidTests := true, laidLooks := .later }
def OpChecksUptoCardSaid : Prop := Claim7.holds Tryd.pinned (.plain (OpenSpec.upto opChecksSpec)) opChecksUptoCard
end Rows
end Go.Proofs.YtcegipkhmibdeaaDoor
