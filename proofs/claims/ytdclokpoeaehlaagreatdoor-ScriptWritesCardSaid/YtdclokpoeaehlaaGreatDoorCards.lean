/-
  DERIVED. GIVEN WITH THE SEED: THE CARDS: each row of YtdclokpoeaehlaaGreatDoorRows.lean that lists a variable, with what it lists TIED to the program's text (the seventh form; the later family's looks); each row that meets fmt, with fmt's text TOLD by the authors' own Lean function (tested against real Go, not proved from fmt's source: count such statements apart). THE CARD IS WHAT COUNTS. Prove the row's statement (the work); the ties are given (YtdclokpoeaehlaaGreatDoorTie.lean); close each card by the builder's one call (the guide's Derived/Test/ToyasCard.lean, 'card_holds'). Laid BY PROGRAM, IN A SANDBOX (cutbox-door.mjs). By AI agents, Wed Nov 11 2026. No macro, syntax, notation, axiom, sorry.
-/
import Derived.Test.YtdclokpoeaehlaaGreatDoorRows
import GoSem.ClaimSeven
namespace Go.Proofs.YtdclokpoeaehlaaGreatDoor
namespace Rows

/-- THE TIED CARD OF 'hammocklaw24.LogMatchesReference'. -/
def logMatchesReferenceCard : Claim7 := { stood := { row := logMatchesReferenceRow, standIns := [], harness := (true, "e0f649cd1df9cc1ad8730738a8d954ff6d6eee0278d1adbcd8f6278b92849110"), looks := true }, kinds := [], alts := [], laidByText := true, laidKinds := [.data, .data, .data, .data, .handle, .sentinel, .sentinel, .data, .widerDeep, .pinned], laidTests := true, laidLooks := .later }
def LogMatchesReferenceCardSaid : Prop := Claim7.holds Tryz.pinned (.plain (OpenSpec.ofChange logMatchesReferenceSpec)) logMatchesReferenceCard

/-- THE TIED CARD OF 'hammocklaw24.LogParses'. -/
def logParsesCard : Claim7 := { stood := { row := logParsesRow, standIns := [], harness := (true, "e0f649cd1df9cc1ad8730738a8d954ff6d6eee0278d1adbcd8f6278b92849110"), looks := true }, kinds := [], alts := [], laidByText := true, laidKinds := [.data, .data, .data, .data, .handle, .sentinel, .sentinel, .data, .widerDeep, .pinned], laidTests := true, laidLooks := .later }
def LogParsesCardSaid : Prop := Claim7.holds Tryz.pinned (.plain (OpenSpec.ofChange logParsesSpec)) logParsesCard

/-- THE TIED CARD OF 'hammocklaw24.LogAnswers'. -/
def logAnswersCard : Claim7 := { stood := { row := logAnswersRow, standIns := [], harness := (true, "e0f649cd1df9cc1ad8730738a8d954ff6d6eee0278d1adbcd8f6278b92849110"), looks := true }, kinds := [], alts := [], laidByText := true, laidKinds := [.data, .data, .data, .data, .handle, .sentinel, .sentinel, .data, .widerDeep, .pinned], laidTests := true, laidLooks := .later }
def LogAnswersCardSaid : Prop := Claim7.holds Tryz.pinned (.plain (OpenSpec.ofChange logAnswersSpec)) logAnswersCard

/-- THE TIED CARD OF 'hammocklaw24.LogCounts'. -/
def logCountsCard : Claim7 := { stood := { row := logCountsRow, standIns := [], harness := (true, "e0f649cd1df9cc1ad8730738a8d954ff6d6eee0278d1adbcd8f6278b92849110"), looks := true }, kinds := [], alts := [], laidByText := true, laidKinds := [.data, .data, .data, .data, .handle, .sentinel, .sentinel, .data, .widerDeep, .pinned], laidTests := true, laidLooks := .later }
def LogCountsCardSaid : Prop := Claim7.holds Tryz.pinned (.plain (OpenSpec.ofChange logCountsSpec)) logCountsCard

/-- THE TIED CARD OF 'hammocklaw24.LogJoins'. -/
def logJoinsCard : Claim7 := { stood := { row := logJoinsRow, standIns := [], harness := (true, "e0f649cd1df9cc1ad8730738a8d954ff6d6eee0278d1adbcd8f6278b92849110"), looks := true }, kinds := [], alts := [], laidByText := true, laidKinds := [.data, .data, .data, .data, .handle, .sentinel, .sentinel, .data, .widerDeep, .pinned], laidTests := true, laidLooks := .later }
def LogJoinsCardSaid : Prop := Claim7.holds Tryz.pinned (.plain (OpenSpec.ofChange logJoinsSpec)) logJoinsCard

/-- THE TIED CARD OF 'hammocklaw24.LogErrors'. -/
def logErrorsCard : Claim7 := { stood := { row := logErrorsRow, standIns := [], harness := (true, "e0f649cd1df9cc1ad8730738a8d954ff6d6eee0278d1adbcd8f6278b92849110"), looks := true }, kinds := [], alts := [], laidByText := true, laidKinds := [.data, .data, .data, .data, .handle, .sentinel, .sentinel, .data, .widerDeep, .pinned], laidTests := true, laidLooks := .later }
def LogErrorsCardSaid : Prop := Claim7.holds Tryz.pinned (.plain (OpenSpec.ofChange logErrorsSpec)) logErrorsCard

/-- THE TIED CARD OF 'hammocklaw04.ScriptMatchesReference'. -/
def scriptMatchesReferenceCard : Claim7 := { stood := { row := scriptMatchesReferenceRow, standIns := [], harness := (true, "e0f649cd1df9cc1ad8730738a8d954ff6d6eee0278d1adbcd8f6278b92849110"), looks := true }, kinds := [], alts := [], laidByText := true, laidKinds := [.data, .data, .data, .data, .handle, .sentinel, .sentinel, .data, .data, .widerDeep, .pinned], laidTests := true, laidLooks := .later }
def ScriptMatchesReferenceCardSaid : Prop := Claim7.holds Tryz.pinned (.plain (OpenSpec.ofChange scriptMatchesReferenceSpec)) scriptMatchesReferenceCard

/-- THE TIED CARD OF 'hammocklaw04.ScriptLines'. -/
def scriptLinesCard : Claim7 := { stood := { row := scriptLinesRow, standIns := [], harness := (true, "e0f649cd1df9cc1ad8730738a8d954ff6d6eee0278d1adbcd8f6278b92849110"), looks := true }, kinds := [], alts := [], laidByText := true, laidKinds := [.data, .data, .data, .data, .handle, .sentinel, .sentinel, .data, .data, .widerDeep, .pinned], laidTests := true, laidLooks := .later }
def ScriptLinesCardSaid : Prop := Claim7.holds Tryz.pinned (.plain (OpenSpec.ofChange scriptLinesSpec)) scriptLinesCard

/-- THE TIED CARD OF 'hammocklaw04.ScriptWrites'. -/
def scriptWritesCard : Claim7 := { stood := { row := scriptWritesRow, standIns := [], harness := (true, "e0f649cd1df9cc1ad8730738a8d954ff6d6eee0278d1adbcd8f6278b92849110"), looks := true }, kinds := [], alts := [], laidByText := true, laidKinds := [.data, .data, .data, .data, .handle, .sentinel, .sentinel, .data, .data, .widerDeep, .pinned], laidTests := true, laidLooks := .later }
def ScriptWritesCardSaid : Prop := Claim7.holds Tryz.pinned (.plain (OpenSpec.ofChange scriptWritesSpec)) scriptWritesCard

/-- THE TIED CARD OF 'hammocklaw04.ScriptNumbers'. -/
def scriptNumbersCard : Claim7 := { stood := { row := scriptNumbersRow, standIns := [], harness := (true, "e0f649cd1df9cc1ad8730738a8d954ff6d6eee0278d1adbcd8f6278b92849110"), looks := true }, kinds := [], alts := [], laidByText := true, laidKinds := [.data, .data, .data, .data, .handle, .sentinel, .sentinel, .data, .data, .widerDeep, .pinned], laidTests := true, laidLooks := .later }
def ScriptNumbersCardSaid : Prop := Claim7.holds Tryz.pinned (.plain (OpenSpec.ofChange scriptNumbersSpec)) scriptNumbersCard

/-- THE TIED CARD OF 'hammocklaw04.ScriptComments'. -/
def scriptCommentsCard : Claim7 := { stood := { row := scriptCommentsRow, standIns := [], harness := (true, "e0f649cd1df9cc1ad8730738a8d954ff6d6eee0278d1adbcd8f6278b92849110"), looks := true }, kinds := [], alts := [], laidByText := true, laidKinds := [.data, .data, .data, .data, .handle, .sentinel, .sentinel, .data, .data, .widerDeep, .pinned], laidTests := true, laidLooks := .later }
def ScriptCommentsCardSaid : Prop := Claim7.holds Tryz.pinned (.plain (OpenSpec.ofChange scriptCommentsSpec)) scriptCommentsCard

/-- THE SECOND FORM's CARD OF 'hammocklaw24.LogMatchesReference'. -/
def logMatchesReferenceUptoCard : Claim7 := { stood := { row := logMatchesReferenceUptoRow, standIns := [], harness := (true, "e0f649cd1df9cc1ad8730738a8d954ff6d6eee0278d1adbcd8f6278b92849110"), looks := true }, kinds := [], alts := [], laidByText := true, laidKinds := [.data, .data, .data, .data, .handle, .sentinel, .sentinel, .data, .widerDeep, .pinned], laidTests := true, laidLooks := .later }
def LogMatchesReferenceUptoCardSaid : Prop := Claim7.holds Tryz.pinned (.plain (OpenSpec.upto logMatchesReferenceSpec)) logMatchesReferenceUptoCard

/-- THE SECOND FORM's CARD OF 'hammocklaw24.LogParses'. -/
def logParsesUptoCard : Claim7 := { stood := { row := logParsesUptoRow, standIns := [], harness := (true, "e0f649cd1df9cc1ad8730738a8d954ff6d6eee0278d1adbcd8f6278b92849110"), looks := true }, kinds := [], alts := [], laidByText := true, laidKinds := [.data, .data, .data, .data, .handle, .sentinel, .sentinel, .data, .widerDeep, .pinned], laidTests := true, laidLooks := .later }
def LogParsesUptoCardSaid : Prop := Claim7.holds Tryz.pinned (.plain (OpenSpec.upto logParsesSpec)) logParsesUptoCard

/-- THE SECOND FORM's CARD OF 'hammocklaw24.LogAnswers'. -/
def logAnswersUptoCard : Claim7 := { stood := { row := logAnswersUptoRow, standIns := [], harness := (true, "e0f649cd1df9cc1ad8730738a8d954ff6d6eee0278d1adbcd8f6278b92849110"), looks := true }, kinds := [], alts := [], laidByText := true, laidKinds := [.data, .data, .data, .data, .handle, .sentinel, .sentinel, .data, .widerDeep, .pinned], laidTests := true, laidLooks := .later }
def LogAnswersUptoCardSaid : Prop := Claim7.holds Tryz.pinned (.plain (OpenSpec.upto logAnswersSpec)) logAnswersUptoCard

/-- THE SECOND FORM's CARD OF 'hammocklaw24.LogCounts'. -/
def logCountsUptoCard : Claim7 := { stood := { row := logCountsUptoRow, standIns := [], harness := (true, "e0f649cd1df9cc1ad8730738a8d954ff6d6eee0278d1adbcd8f6278b92849110"), looks := true }, kinds := [], alts := [], laidByText := true, laidKinds := [.data, .data, .data, .data, .handle, .sentinel, .sentinel, .data, .widerDeep, .pinned], laidTests := true, laidLooks := .later }
def LogCountsUptoCardSaid : Prop := Claim7.holds Tryz.pinned (.plain (OpenSpec.upto logCountsSpec)) logCountsUptoCard

/-- THE SECOND FORM's CARD OF 'hammocklaw24.LogJoins'. -/
def logJoinsUptoCard : Claim7 := { stood := { row := logJoinsUptoRow, standIns := [], harness := (true, "e0f649cd1df9cc1ad8730738a8d954ff6d6eee0278d1adbcd8f6278b92849110"), looks := true }, kinds := [], alts := [], laidByText := true, laidKinds := [.data, .data, .data, .data, .handle, .sentinel, .sentinel, .data, .widerDeep, .pinned], laidTests := true, laidLooks := .later }
def LogJoinsUptoCardSaid : Prop := Claim7.holds Tryz.pinned (.plain (OpenSpec.upto logJoinsSpec)) logJoinsUptoCard

/-- THE SECOND FORM's CARD OF 'hammocklaw24.LogErrors'. -/
def logErrorsUptoCard : Claim7 := { stood := { row := logErrorsUptoRow, standIns := [], harness := (true, "e0f649cd1df9cc1ad8730738a8d954ff6d6eee0278d1adbcd8f6278b92849110"), looks := true }, kinds := [], alts := [], laidByText := true, laidKinds := [.data, .data, .data, .data, .handle, .sentinel, .sentinel, .data, .widerDeep, .pinned], laidTests := true, laidLooks := .later }
def LogErrorsUptoCardSaid : Prop := Claim7.holds Tryz.pinned (.plain (OpenSpec.upto logErrorsSpec)) logErrorsUptoCard

/-- THE SECOND FORM's CARD OF 'hammocklaw04.ScriptMatchesReference'. -/
def scriptMatchesReferenceUptoCard : Claim7 := { stood := { row := scriptMatchesReferenceUptoRow, standIns := [], harness := (true, "e0f649cd1df9cc1ad8730738a8d954ff6d6eee0278d1adbcd8f6278b92849110"), looks := true }, kinds := [], alts := [], laidByText := true, laidKinds := [.data, .data, .data, .data, .handle, .sentinel, .sentinel, .data, .data, .widerDeep, .pinned], laidTests := true, laidLooks := .later }
def ScriptMatchesReferenceUptoCardSaid : Prop := Claim7.holds Tryz.pinned (.plain (OpenSpec.upto scriptMatchesReferenceSpec)) scriptMatchesReferenceUptoCard

/-- THE SECOND FORM's CARD OF 'hammocklaw04.ScriptLines'. -/
def scriptLinesUptoCard : Claim7 := { stood := { row := scriptLinesUptoRow, standIns := [], harness := (true, "e0f649cd1df9cc1ad8730738a8d954ff6d6eee0278d1adbcd8f6278b92849110"), looks := true }, kinds := [], alts := [], laidByText := true, laidKinds := [.data, .data, .data, .data, .handle, .sentinel, .sentinel, .data, .data, .widerDeep, .pinned], laidTests := true, laidLooks := .later }
def ScriptLinesUptoCardSaid : Prop := Claim7.holds Tryz.pinned (.plain (OpenSpec.upto scriptLinesSpec)) scriptLinesUptoCard

/-- THE SECOND FORM's CARD OF 'hammocklaw04.ScriptWrites'. -/
def scriptWritesUptoCard : Claim7 := { stood := { row := scriptWritesUptoRow, standIns := [], harness := (true, "e0f649cd1df9cc1ad8730738a8d954ff6d6eee0278d1adbcd8f6278b92849110"), looks := true }, kinds := [], alts := [], laidByText := true, laidKinds := [.data, .data, .data, .data, .handle, .sentinel, .sentinel, .data, .data, .widerDeep, .pinned], laidTests := true, laidLooks := .later }
def ScriptWritesUptoCardSaid : Prop := Claim7.holds Tryz.pinned (.plain (OpenSpec.upto scriptWritesSpec)) scriptWritesUptoCard

/-- THE SECOND FORM's CARD OF 'hammocklaw04.ScriptNumbers'. -/
def scriptNumbersUptoCard : Claim7 := { stood := { row := scriptNumbersUptoRow, standIns := [], harness := (true, "e0f649cd1df9cc1ad8730738a8d954ff6d6eee0278d1adbcd8f6278b92849110"), looks := true }, kinds := [], alts := [], laidByText := true, laidKinds := [.data, .data, .data, .data, .handle, .sentinel, .sentinel, .data, .data, .widerDeep, .pinned], laidTests := true, laidLooks := .later }
def ScriptNumbersUptoCardSaid : Prop := Claim7.holds Tryz.pinned (.plain (OpenSpec.upto scriptNumbersSpec)) scriptNumbersUptoCard

/-- THE SECOND FORM's CARD OF 'hammocklaw04.ScriptComments'. -/
def scriptCommentsUptoCard : Claim7 := { stood := { row := scriptCommentsUptoRow, standIns := [], harness := (true, "e0f649cd1df9cc1ad8730738a8d954ff6d6eee0278d1adbcd8f6278b92849110"), looks := true }, kinds := [], alts := [], laidByText := true, laidKinds := [.data, .data, .data, .data, .handle, .sentinel, .sentinel, .data, .data, .widerDeep, .pinned], laidTests := true, laidLooks := .later }
def ScriptCommentsUptoCardSaid : Prop := Claim7.holds Tryz.pinned (.plain (OpenSpec.upto scriptCommentsSpec)) scriptCommentsUptoCard
end Rows
end Go.Proofs.YtdclokpoeaehlaaGreatDoor
